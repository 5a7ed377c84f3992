/- Texts of this claim, joined: Dwt Did FkiP Dwe Dwa Dre Dix GrP Dgr Dbd Dbe Dbf Dbu Rrl Dbv Dbw Dhg Dhh Del Deb Dbi EcP -/
import Derived.Test.YtjcofbkhoeockaaGreatDoorO04
import Derived.Lib.ItoaLen
set_option linter.unusedVariables false
set_option linter.unusedSimpArgs false
namespace Go.Proofs.YtjcofbkhoeockaaGreatDoor
open _root_.List renaming length->Aa,flatMap->Ah,drop->Ak,map->Ao,take->Aw,getD->AA,range->AT,getElem?_eq_getElem->AV,getD_eq_getElem?_getD->A0,getElem_mem->A4,drop_zero->Bb,length_map->Bc,take_length->Bf,mem_map->Bh,take_succ_eq_append_getElem->Bl,headD->Bm,all->Bo,length_append->Bs,take_of_length_le->By,all_eq_true->Bz,mem_cons->BA,map_cons->BC,mem_singleton->BH,replicate->BJ,mem_cons_of_mem->BL,length_filter_le->BN,length_range->BO,any_eq_true->BS,getElem_of_mem->BT,pairwise_cons->BU,mem_filter->BV,length_cons->BZ,map_append->B3,sum_cons->B5,length_nil->B7,findIdx?_eq_some_iff_getElem->B8,foldl_cons->B9,mem_range->B_,map_set->Cc,ext_getElem?->Cd,set_append_right->Ce,map_congr_left->Ci,cons_append->Ck,not_mem_nil->Cl,getElem?_append_right->Co,eq_nil_or_concat->Cq,concat_eq_append->Cr,mem_append->Ct,take_append_drop->Cu,length_take->Cv,flatMap_append->Cx,range_succ->Cy,getElem?_range->Cz,mem_of_mem_take->CB,getElem?_append_left->CD
open _root_.Bool renaming false->Ab,true->Ad,and_eq_true->BI,or_eq_true->Cj,not_true->Cm,or_eq_false_iff->Cp
open D renaming own->Ae,row->Aj,val->Am,fx->Ap,osl->Ay,agg->AJ,ptr->AK,mref->AR,clo->AZ
open _root_.Inhabited renaming default->Af
open Bd renaming n->Ag,f->Ai,L->Aq,R->Ar,A->AN,P->AP,desc->AW
open Lib renaming itoa->Al,itoa_length_le->BD,decDigits->BG
open Bk renaming mk->An,cells->AO,fz->A2,kd->Bj,ty->Bp,sz->Bq
open IntKind renaming u32->As,wrap->AU,i64->Bi,u8->Bw,u64->Ch
open Kd renaming plain->Au,sh->A_,isMap->Bt,isSh->Bv,map->BB
open Va renaming kind->Ax,int->AD,str->AF
open _root_.Prod renaming fst->Az,snd->AL
open _root_.Int renaming toNat->AB,toNat_natCast->AS,fdiv->BY
open Value renaming int->AC,string->AG,pointer->BR,map->Cg
open _root_.BitVec renaming ofInt->AE,toNat->AQ
open _root_.Go.Proofs.Tryz renaming prog->AH,func118->BK,func84->B6
open _root_.Option renaming some->AI,none->AM,getD_some->BM,map_eq_some_iff->CC
open _root_.Nat renaming lt_or_ge->AX,le_refl->AY,mul_one->A5,le_trans->A6,zero_le->Br,sub_zero->BQ,lt_of_lt_of_le->BW,pow_le_pow_right->BX,eq_zero_or_pos->Cb,zero_add->Cf,testBit_lt_two_pow->CA
open LeL renaming refl->A1
open _root_.ByteArray renaming mk->A3,data->BF
open TypeInfo renaming desc->A7,mk->A8
open TypeDesc renaming string->A9
open Bg renaming p->Ba
open LeD renaming fx->Bn,refl->Bx
open _root_.Array renaming toList->BE
open Weak renaming fzCell->BP
open Go.RowKit
section
attribute [local irreducible] seqW awp zAf zAn zAd Weak updS zAx retL Pure Acts rP setP setQ cP nP fr
set_option maxRecDepth 4096
inductive WT where
  |nil
  |node(v:Va)(w:Nat)(l r:WT)
namespace WT
def ht:WT->Nat
  |nil=>0
  |node _ _ l r=>max l.ht r.ht+1
def sz:WT->Nat
  |nil=>0
  |node _ _ l r=>l.sz+1+r.sz
def tot:WT->Nat
  |nil=>0
  |node _ w l r=>l.tot+w+r.tot
def lst:WT->List (Va×Nat)
  |nil=>[]
  |node v w l r=>l.lst++(v,w)::r.lst
def d:WT->D
  |nil=> .val (.pointer AM)
  |node v w l r=> .ptr (vaC v++[natD w, .fx l.d, .fx r.d,iD (max l.ht r.ht+1:Nat),iD (l.sz+1+r.sz:Nat),natD (l.tot+w+r.tot)])
def bal(l:WT)(v:Va)(w:Nat)(r:WT):WT:=
  if r.ht+1<l.ht then match l with
    | node lv lw ll lr=>if lr.ht<=ll.ht then node lv lw ll (node v w lr r)else match lr with
      |node mv mw ml mr=>node mv mw (node lv lw ll ml) (node v w mr r)
      |nil=>nil
    |nil=>nil
  else if l.ht+1<r.ht then match r with
    | node rv rw rl rr=>if rl.ht<=rr.ht then node rv rw (node v w l rl) rr else match rl with
      |node mv mw ml mr=>node mv mw (node v w l ml) (node rv rw mr rr)
      |nil=>nil
    |nil=>nil
  else node v w l r
def cmp(desc:Bool)(a b:Va):Int:=if desc then vcmp b a else vcmp a b
def put(desc:Bool)(v:Va)(w:Nat):WT->WT
  |nil=>node v w nil nil
  |node u x l r=>if cmp desc v u<0 then bal (put desc v w l) u x r else if cmp desc v u>0 then bal l u x (put desc v w r)else node v w l r
theorem lst_length:∀t:WT,t.lst.length=t.sz
  |nil=>rfl
  |node v w l r=>by simp only[lst,sz,Bs,BZ,lst_length l,lst_length r];omega
theorem ht_le_sz:∀t:WT,t.ht<=t.sz
  |nil=>AY _
  |node v w l r=>by have:=ht_le_sz l;have:=ht_le_sz r;simp only[ht,sz];omega
theorem ht_pos{t:WT}(h:0<t.ht):∃v w l r,t=node v w l r:=by
  cases t<;>grind [ht]
theorem bal_lst(l:WT)(v:Va)(w:Nat)(r:WT):(bal l v w r).lst=l.lst++(v,w)::r.lst:=by
  unfold bal;split
  · rename_i h
    obtain⟨lv,lw,ll,lr,rfl⟩:=ht_pos (t:=l) (by omega);simp only;grind [lst,ht_pos]
  · split
    · rename_i h
      obtain⟨rv,rw',rl,rr,rfl⟩:=ht_pos (t:=r) (by omega);simp only;grind [lst,ht_pos]
    rfl
theorem tot_lst:∀t:WT,(t.lst.map AL).sum=t.tot
  |nil=>rfl
  |node v w l r=>by simp only[lst,tot,B3,BC,List.sum_append,B5,tot_lst l,tot_lst r];omega
theorem bal_sz(l:WT)(v:Va)(w:Nat)(r:WT):(bal l v w r).sz=l.sz+1+r.sz:=by
  grind [lst_length,bal_lst,Bs,BZ]
theorem bal_tot(l:WT)(v:Va)(w:Nat)(r:WT):(bal l v w r).tot=l.tot+w+r.tot:=by
  rw[<-tot_lst,bal_lst,B3,BC,List.sum_append,B5,tot_lst,tot_lst];simp only;omega
theorem put_le(desc:Bool)(v:Va)(w:Nat):∀t:WT,(put desc v w t).sz<=t.sz+1/\(put desc v w t).tot<=t.tot+w
  |nil=>by simp[put,sz,tot]
  | node u x l r=>by
    have h1:=put_le desc v w l;have h2:=put_le desc v w r;simp only[put];split
    ·rw[bal_sz,bal_tot];simp only[sz,tot];omega
    · split
      ·rw[bal_sz,bal_tot];simp only[sz,tot];omega
      simp only[sz,tot];omega
def Ok(t:WT):Prop:=t.sz<=1000000000/\Sm t.tot
theorem Ok.node{v:Va}{w:Nat}{l r:WT}(h:(node v w l r).Ok):l.Ok/\r.Ok/\Sm w:=by
  obtain⟨h1,h2⟩:=h;simp only[sz,tot]at h1 h2;exact⟨⟨by omega,h2.le (by omega)⟩,⟨by omega,h2.le (by omega)⟩,h2.le (by omega)⟩
end WT
abbrev zL6(v:Va)(w:Nat)(l r:WT):D:= .ptr (vaC v++[natD w, .fx l.d, .fx r.d,iD (max l.ht r.ht+1:Nat),iD (l.sz+1+r.sz:Nat),natD (l.tot+w+r.tot)])
theorem LeL.relC{I:Im}{w:World}:∀{cs cs':List D}{b o:Nat},LeL cs cs'->RelC I w cs b o->RelC I w cs' b o
  |_,_,_,_, .nil,h=>h
  | _,_,b,o, .cons h1 h2,h=>by
    simp only[RelC]at h⊢;obtain⟨⟨k1,v,k2,k3,k4⟩,k5⟩:=h;exact⟨⟨k1,v,k2,k3,h1 _ _ _ _ k4⟩,h2.relC k5⟩
theorem LeD.ptr{cs cs':List D}(h:LeL cs cs'):LeD (.ptr cs) (.ptr cs'):=λI w β v hr=>by
  simp only[Rel]at hr⊢;obtain⟨b,o,h1,h2⟩:=hr;exact⟨b,o,h1,h.relC h2⟩
theorem LeD.row{cs cs':List D}{n:Nat}(h:LeL cs cs'):LeD (.row cs n) (.row cs' n):=λI w β v hr=>by
  cases h with
  |nil=>exact hr
  | cons h1 h2=>
    simp only[Rel]at hr⊢;obtain⟨a,cap,h3,h4,h5,h6,h7⟩:=hr;refine⟨a,cap,h3,h4,h5,h6,?_⟩;rcases h7 with h7|⟨b,o,h7,h8⟩
    ·cases h7
    exact .inr ⟨b,o,h7,(LeL.cons h1 h2).relC h8⟩
theorem WT.d_node(v:Va)(w:Nat)(l r:WT):(WT.node v w l r).d=zL6 v w l r:=rfl
theorem WT.one(t:WT)(I:Im)(w:World)(v:Value)(h:Rel I w noB t.d v):v.oneCell'=true:=by
  cases t with
  |nil=>simp only[WT.d,Rel]at h;subst h;rfl
  |node a b l r=>simp only[WT.d,Rel]at h;obtain⟨b,o,rfl,_⟩:=h;rfl
abbrev WT.x(t:WT):D:= .fx t.d
theorem whtd_c (t : WT):Pure AH 116 [t.d] [] (iD (t.ht:Nat)):=by
  refine zF zBm mixed Tryz.func116 rfl ?_;cases t with
  |nil=>focus
             refine vAu<|zA<|vAe<|vt<|vAe<|zE<|zG ?_;refine vret (True)<|.inr rfl
  |node v w l r=>focus
                      refine vAu<|zA<|vAe<|vf<|vK<|vA ?_;refine ve (True/\0<3)<|zE<|vret (True)<|.inr rfl
theorem zHl(t:WT):Pure AH 116 [t.x] [] (iD (t.ht:Nat)):=(whtd_c t).le (.cons (Bn _) .nil)
theorem wszd_c (t : WT):Pure AH 68 [t.d] [] (iD (t.sz:Nat)):=by
  refine zF zBm mixed Tryz.func68 rfl ?_;cases t with
  |nil=>focus
             refine vAu<|zA<|vAe<|vt<|vAe<|zE<|zG ?_;refine vret (True)<|.inr rfl
  |node v w l r=>focus
                      refine vAu<|zA<|vAe<|vf<|vK<|vA ?_;refine ve (True/\0<2)<|zE<|vret (True)<|.inr rfl
theorem zYu(t:WT):Pure AH 68 [t.x] [] (iD (t.sz:Nat)):=(wszd_c t).le (.cons (Bn _) .nil)
theorem wtotd_c(t:WT):Pure AH 121 [t.d] [] (natD t.tot):=by
  refine zF zBm mixed Tryz.func121 rfl ?_;cases t with
  | nil=>
    focus
      refine vAu<|zA<|vAe<|vt<|vAe<|zE<|zG ?_;refine vret (True)<|.inr rfl
  |node v w l r=>focus
                      refine vAu<|zA<|vAe<|vf<|vK<|vA ?_;refine ve (True/\0<1)<|zE<|vret (True)<|.inr rfl
theorem zZz(t:WT):Pure AH 121 [t.x] [] (natD t.tot):=(wtotd_c t).le (.cons (Bn _) .nil)
theorem zQ5(v:Va)(w:Nat)(l r:WT):Pure AH 116 [zL6 v w l r] [] (iD ((WT.node v w l r).ht:Nat)):=whtd_c (.node v w l r)
abbrev entD(v:Va)(w:Nat):D:= .agg (vaC v++[natD w])
theorem zC2(l r:WT)(v:Va)(w:Nat)(h:(WT.node v w l r).Ok):Pure AH 115 [l.x,entD v w,r.x] [] (WT.node v w l r).x:=by
  refine Pure.fx ?_ (WT.one _);refine zF zBm mixed Tryz.func115 rfl ?_;have h1:=l.ht_le_sz;have h2:=r.ht_le_sz;have h3:=h.1;have h4:=h.2;simp only[WT.sz,WT.tot]at h3 h4;have h5:Sm [l.tot,w,r.tot].sum:=by simp only[B5,List.sum_nil];exact h4.le (by omega)
  focus
    refine vAu<|zA<|vd [1,2,3,5,9,12,15,17,19,0,4,6,7,8,10,11,13,14,16,18,20,21,22,23,24,25]<|vr 10 (True/\4<=4)<|vca [Ap<|WT.d l] (by exact zHl _)<|vca [Ap<|WT.d r] (by exact zHl _)<|vr 2 (i6 ((if(↑(WT.ht r):Int)>(↑(WT.ht l):Int)then(↑(WT.ht r):Int)else(↑(WT.ht l):Int))+(1:Int)))<|vca [Ap<|WT.d l] (by exact zYu _)<|vr 1 (i6 (↑(WT.sz l)+1))<|vca [Ap<|WT.d r] (by exact zYu _)<|vr 1 (i6 ((↑(WT.sz l):Int)+(1:Int)+(↑(WT.sz r):Int))) ?_;refine vca [Ap<|WT.d l] (by exact zZz _)<|vr 1 (0<1)<|vca [Ap<|WT.d r] (by exact zZz _)<|vr 1 ((1=1/\1<=3/\1=1/\2<=3/\1=1/\3<=3/\True)/\0<1/\1=1/\3<=16777216/\3<=9223372036854775807)<|vc (nsum_c [l.tot,w,r.tot] 3 rfl (by omega) h5)<|ve ((4=4/\4<=9/\1=1/\5<=9/\1=1/\6<=9/\1=1/\7<=9/\1=1/\8<=9/\1=1/\9<=9/\True)/\Ad=Ad)<|zE ?_;refine vre (True) (AK [Am<|AC Bi<|Ax v,Am<|AC Bi<|AD v,Am<|AG<|bs<|AF v,natD w,Ap<|WT.d l,Ap<|WT.d r,Am<|AC Bi ((if(↑(WT.ht r):Int)>(↑(WT.ht l):Int)then(↑(WT.ht r):Int)else(↑(WT.ht l):Int))+(1:Int)),Am<|AC Bi ((↑(WT.sz l):Int)+(1:Int)+(↑(WT.sz r):Int)),natD<|List.sum [WT.tot l,w,WT.tot r]]) (.inr rfl) ?_;rotate_left
  have e1:((if(r.ht:Int)>(l.ht:Int)then(r.ht:Int)else(l.ht:Int))+1)=((max l.ht r.ht+1:Nat):Int):=by
    omega
  have e2:(l.sz:Int)+1+(r.sz:Int)=((l.sz+1+r.sz:Nat):Int):=by omega
  have e3:[l.tot,w,r.tot].sum=l.tot+w+r.tot:=by simp only[B5,List.sum_nil];omega
  rw[e1,e2,e3];rfl
theorem wnil_x(v:Va)(w:Nat):LeL [.val (.pointer AM),entD v w, .val (.pointer AM)] [WT.nil.x,entD v w,WT.nil.x]:=by
  have h:LeD (.val (.pointer AM)) WT.nil.x:=λI w β v h=>by
    simp only[Rel]at h;subst h;simp only[Rel,WT.d];exact⟨rfl,trivial⟩
  exact .cons h (.cons (Bx _) (.cons h .nil))
theorem zNj(desc:Bool)(t:WT)(a b:Va):Pure AH 62 [.agg [bD desc,t.x],vaD a,vaD b] [] (iD (WT.cmp desc a b)):=by
  refine zF zBm mixed Tryz.func62 rfl ?_;cases desc
  ·focus
      refine vAu<|zA<|vA<|ve (True/\0<2)<|vf<|vK<|vA ?_;refine vr 2 (3<=3/\3<=3)<|vca [AJ [iD<|Ax a,iD<|AD a,Am<|AG<|bs<|AF a],AJ [iD<|Ax b,iD<|AD b,Am<|AG<|bs<|AF b]] (by exact zDp _ _)<|veT<|zE<|vret (True)<|.inr rfl
  focus
     refine vAu<|zA<|vA<|ve (True/\0<2)<|vt<|vA<|vr 2 (3<=3/\3<=3)<|vca [AJ [iD<|Ax b,iD<|AD b,Am<|AG<|bs<|AF b],AJ [iD<|Ax a,iD<|AD a,Am<|AG<|bs<|AF a]] (by exact zDp _ _)<|veT ?_;refine zE<|zG<|vret (True)<|.inr rfl
set_option maxHeartbeats 2000000 in
theorem wbal_c(l r:WT)(v:Va)(w:Nat)(h:(WT.node v w l r).Ok):Pure AH 118 [l.x,entD v w,r.x] [] (WT.bal l v w r).x:=by
  have k1:=l.ht_le_sz;have k2:=r.ht_le_sz;have k3:=h.1;have k4:=h.2;simp only[WT.sz,WT.tot]at k3 k4;by_cases c1:r.ht+1<l.ht
  · obtain⟨lv,lw,ll,lr,rfl⟩:=WT.ht_pos (t:=l) (by omega)
    simp only[WT.sz,WT.tot]at k3 k4;have e1:(WT.node lv lw ll lr).ht=max ll.ht lr.ht+1:=rfl;have g1:=ll.ht_le_sz;have g2:=lr.ht_le_sz;rw[WT.bal.eq_def,if_pos c1];simp only;refine Pure.le (args':=[zL6 lv lw ll lr,entD v w,r.x]) ?_ (.cons (Bn _) (.refl _));by_cases c2:lr.ht<=ll.ht
    · rw[if_pos c2]
      have j1:=zC2 lr r v w ⟨by simp only[WT.sz];omega,k4.le (by simp only[WT.tot];omega)⟩;have j2:=zC2 ll (.node v w lr r) lv lw ⟨by simp only[WT.sz];omega,k4.le (by simp only[WT.tot];omega)⟩;refine zF zBm mixed BK rfl ?_;focus
        refine vAu<|zA<|vA<|vrT 1<|vc (zQ5 lv lw ll lr)<|vrT 1<|vca [Ap<|WT.d r] (by exact zHl _)<|veT<|zH<|zA ?_;refine vd [0,1,2,3,4,5,6,7,10,11,12,8,9,13,14,15,16,17]<|vw 12 [] [(4,Ad)] (i6 (↑(WT.ht r)+1)/\decide ((↑(WT.ht<|WT.node lv lw ll lr):Int)>(↑(WT.ht r):Int)+(1:Int))=Ad/\True/\True/\0<5)<|vca [Ap<|WT.d ll] (by exact zHl _)<|vr 1 (0<4)<|vca [Ap<|WT.d lr] (by exact zHl _)<|veT<|vT ((↑(WT.ht ll):Int)>=(↑(WT.ht lr):Int))<|zA<|vd [0,1,2,4,5,6,8,9,10,13,3,7,11,12,14,15,16]<|vr 14 (True/\True/\True/\0<5/\4<=9/\0<4/\4<=4)<|vc j1<|vc j2<|veT<|zE ?_;refine zL<|zG<|vret (True)<|.inr rfl
    · rw [if_neg c2]
      obtain⟨mv,mw,ml,mr,rfl⟩:=WT.ht_pos (t:=lr) (by omega);simp only[WT.sz,WT.tot]at k3 k4;have e2:(WT.node mv mw ml mr).ht=max ml.ht mr.ht+1:=rfl;have j1:=zC2 ll ml lv lw ⟨by simp only[WT.sz];omega,k4.le (by simp only[WT.tot];omega)⟩;have j2:=zC2 mr r v w ⟨by simp only[WT.sz];omega,k4.le (by simp only[WT.tot];omega)⟩;have j3:=zC2 (.node lv lw ll ml) (.node v w mr r) mv mw ⟨by simp only[WT.sz];omega,k4.le (by simp only[WT.tot];omega)⟩;simp only[WT.sz]at k1;have o1:=zQ5 lv lw ll (.node mv mw ml mr);refine Pure.le (args':=[.ptr (vaC lv++[natD lw, .fx ll.d,zL6 mv mw ml mr,iD (max ll.ht (WT.node mv mw ml mr).ht+1:Nat),iD (ll.sz+1+(WT.node mv mw ml mr).sz:Nat),natD (ll.tot+lw+(WT.node mv mw ml mr).tot)]),entD v w,r.x]) ?_ (.cons (LeD.ptr (.cons (.refl _) (.cons (.refl _) (.cons (.refl _) (.cons (.refl _) (.cons (.refl _) (.cons (Bn _) (.refl _)))))))) (.refl _));have o2:Pure AH 116 [.ptr (vaC lv++[natD lw, .fx ll.d,zL6 mv mw ml mr,iD (max ll.ht (WT.node mv mw ml mr).ht+1:Nat),iD (ll.sz+1+(WT.node mv mw ml mr).sz:Nat),natD (ll.tot+lw+(WT.node mv mw ml mr).tot)])] [] (iD ((WT.node lv lw ll (.node mv mw ml mr)).ht:Nat)):=by
        refine zF zBm mixed Tryz.func116 rfl ?_;focus
          refine vAu<|zA<|vAe<|vf<|vK<|vA ?_;refine ve (True/\0<3)<|zE<|vret (True)<|.inr rfl
      refine zF zBm mixed BK rfl ?_;focus
        refine vAu<|zA<|vA<|vrT 1<|vc o2<|vrT 1<|vca [Ap<|WT.d r] (by exact zHl _)<|veT<|zH<|zA ?_;refine vd [0,1,2,3,4,5,6,7,10,11,12,8,9,13,14,15,16,17]<|vw 12 [] [(4,Ad)] (i6 (↑(WT.ht r)+1)/\decide ((↑(WT.ht<|WT.node lv lw ll<|WT.node mv mw ml mr):Int)>(↑(WT.ht r):Int)+(1:Int))=Ad/\True/\True/\0<5)<|vca [Ap<|WT.d ll] (by exact zHl _)<|vr 1 (0<4)<|vc (zQ5 mv mw ml mr)<|veT<|vF ((↑(WT.ht ll):Int)>=(↑(WT.ht<|WT.node mv mw ml mr):Int))<|vA<|ve (i6 (↑(WT.ht r)+1))<|vT ((↑(WT.ht<|WT.node lv lw ll<|WT.node mv mw ml mr):Int)>(↑(WT.ht r):Int)+(1:Int))<|vA<|ve (True/\0<4) ?_;refine zA<|vd [0,1,2,4,5,6,8,9,10,13,14,15,17,18,19,22,3,7,11,12,16,20,21,23,24,25]<|vr 19 (True/\True/\True/\True/\True/\0<5/\4<=9/\0<5)<|vc j1<|vr 3 (4<=9/\0<4/\4<=4)<|vc j2<|vc j3<|veT<|zE<|zL<|zG<|vret (True)<|.inr rfl
  · by_cases c3:l.ht+1<r.ht
    · obtain⟨rv,rw',rl,rr,rfl⟩:=WT.ht_pos (t:=r) (by omega)
      simp only[WT.sz,WT.tot]at k3 k4;have e1:(WT.node rv rw' rl rr).ht=max rl.ht rr.ht+1:=rfl;have g1:=rl.ht_le_sz;have g2:=rr.ht_le_sz;rw[WT.bal.eq_def,if_neg c1,if_pos c3];simp only;refine Pure.le (args':=[l.x,entD v w,zL6 rv rw' rl rr]) ?_ (.cons (Bx _) (.cons (Bx _) (.cons (Bn _) .nil)));by_cases c2:rl.ht<=rr.ht
      · rw[if_pos c2]
        have j1:=zC2 l rl v w ⟨by simp only[WT.sz];omega,k4.le (by simp only[WT.tot];omega)⟩;have j2:=zC2 (.node v w l rl) rr rv rw' ⟨by simp only[WT.sz];omega,k4.le (by simp only[WT.tot];omega)⟩;refine zF zBm mixed BK rfl ?_;focus
          refine vAu<|zA<|vA<|vrT 1<|vca [Ap<|WT.d l] (by exact zHl _)<|vrT 1<|vc (zQ5 rv rw' rl rr)<|veT<|zH<|zA ?_;refine vd [0,1,2,3,4,5,6,7,10,11,12,8,9,13,14,15,16,17]<|vew [] [(4,Ab)] (i6 ((↑(WT.ht<|WT.node rv rw' rl rr):Int)+(1:Int))/\decide ((↑(WT.ht l):Int)>(↑(WT.ht<|WT.node rv rw' rl rr):Int)+(1:Int))=Ab)<|vf<|vA<|ve (i6 ((↑(WT.ht<|WT.node rv rw' rl rr):Int)+(1:Int)))<|vF ((↑(WT.ht l):Int)>(↑(WT.ht<|WT.node rv rw' rl rr):Int)+(1:Int))<|zA<|vd [0,1,2,3,4,5,6,7,10,11,12,8,9,13,14,15,16,17]<|vw 12 [] [(4,Ad)] (i6 (↑(WT.ht l)+1)/\decide ((↑(WT.ht<|WT.node rv rw' rl rr):Int)>(↑(WT.ht l):Int)+(1:Int))=Ad/\True/\True/\0<4)<|vca [Ap<|WT.d rr] (by exact zHl _)<|vr 1 (0<5)<|vca [Ap<|WT.d rl] (by exact zHl _)<|veT ?_;refine vT ((↑(WT.ht rr):Int)>=(↑(WT.ht rl):Int))<|zA<|vd [0,2,3,4,7,8,9,11,12,13,1,5,6,10,14,15,16]<|vr 12 (True/\True/\True/\4<=4/\0<5)<|vc j1<|vr 2 (4<=9/\0<4)<|vc j2<|veT<|zE<|zL<|zG<|vret (True)<|.inr rfl
      · rw [if_neg c2]
        obtain⟨mv,mw,ml,mr,rfl⟩:=WT.ht_pos (t:=rl) (by omega);simp only[WT.sz,WT.tot]at k3 k4;have e2:(WT.node mv mw ml mr).ht=max ml.ht mr.ht+1:=rfl;have j1:=zC2 l ml v w ⟨by simp only[WT.sz];omega,k4.le (by simp only[WT.tot];omega)⟩;have j2:=zC2 mr rr rv rw' ⟨by simp only[WT.sz];omega,k4.le (by simp only[WT.tot];omega)⟩;have j3:=zC2 (.node v w l ml) (.node rv rw' mr rr) mv mw ⟨by simp only[WT.sz];omega,k4.le (by simp only[WT.tot];omega)⟩;simp only[WT.sz]at k2;refine Pure.le (args':=[l.x,entD v w, .ptr (vaC rv++[natD rw',zL6 mv mw ml mr, .fx rr.d,iD (max (WT.node mv mw ml mr).ht rr.ht+1:Nat),iD ((WT.node mv mw ml mr).sz+1+rr.sz:Nat),natD ((WT.node mv mw ml mr).tot+rw'+rr.tot)])]) ?_ (.cons (.refl _) (.cons (.refl _) (.cons (LeD.ptr (.cons (.refl _) (.cons (.refl _) (.cons (.refl _) (.cons (.refl _) (.cons (Bn _) (.refl _))))))) .nil)));have o2:Pure AH 116 [.ptr (vaC rv++[natD rw',zL6 mv mw ml mr, .fx rr.d,iD (max (WT.node mv mw ml mr).ht rr.ht+1:Nat),iD ((WT.node mv mw ml mr).sz+1+rr.sz:Nat),natD ((WT.node mv mw ml mr).tot+rw'+rr.tot)])] [] (iD ((WT.node rv rw' (.node mv mw ml mr) rr).ht:Nat)):=by
          refine zF zBm mixed Tryz.func116 rfl ?_;focus
            refine vAu<|zA<|vAe<|vf<|vK<|vA ?_;refine ve (True/\0<3)<|zE<|vret (True)<|.inr rfl
        refine zF zBm mixed BK rfl ?_;focus
          refine vAu<|zA<|vA<|vrT 1<|vca [Ap<|WT.d l] (by exact zHl _)<|vrT 1<|vc o2<|veT<|zH<|zA ?_;refine vd [0,1,2,3,4,5,6,7,10,11,12,8,9,13,14,15,16,17]<|vew [] [(4,Ab)] (i6 ((↑(WT.ht<|WT.node rv rw' (WT.node mv mw ml mr) rr):Int)+(1:Int))/\decide ((↑(WT.ht l):Int)>(↑(WT.ht<|WT.node rv rw' (WT.node mv mw ml mr) rr):Int)+(1:Int))=Ab)<|vf<|vA<|ve (i6 ((↑(WT.ht<|WT.node rv rw' (WT.node mv mw ml mr) rr):Int)+(1:Int)))<|vF ((↑(WT.ht l):Int)>(↑(WT.ht<|WT.node rv rw' (WT.node mv mw ml mr) rr):Int)+(1:Int))<|zA<|vd [0,1,2,3,4,5,6,7,10,11,12,8,9,13,14,15,16,17]<|vw 12 [] [(4,Ad)] (i6 (↑(WT.ht l)+1)/\decide ((↑(WT.ht<|WT.node rv rw' (WT.node mv mw ml mr) rr):Int)>(↑(WT.ht l):Int)+(1:Int))=Ad/\True/\True/\0<4)<|vca [Ap<|WT.d rr] (by exact zHl _)<|vr 1 (0<5)<|vc (zQ5 mv mw ml mr)<|veT ?_;refine vF ((↑(WT.ht rr):Int)>=(↑(WT.ht<|WT.node mv mw ml mr):Int))<|vA<|ve (i6 (↑(WT.ht l)+1))<|vT ((↑(WT.ht<|WT.node rv rw' (WT.node mv mw ml mr) rr):Int)>(↑(WT.ht l):Int)+(1:Int))<|vA<|ve (True/\0<5)<|zA<|vd [0,2,3,4,7,8,9,11,12,13,15,16,17,19,20,21,1,5,6,10,14,18,22,23,24,25]<|vr 18 (True/\True/\True/\True/\True/\4<=4/\0<5)<|vc j1<|vr 4 (4<=9/\0<4/\4<=9/\0<4)<|vc j2 ?_;refine vc j3<|veT<|zE<|zL<|zG<|vret (True)<|.inr rfl
    · rw[WT.bal.eq_def,if_neg c1,if_neg c3]
      have j1:=zC2 l r v w h;refine zF zBm mixed BK rfl ?_;focus
        refine vAu<|zA<|vA<|vrT 1<|vca [Ap<|WT.d l] (by exact zHl _)<|vrT 1<|vca [Ap<|WT.d r] (by exact zHl _)<|veT<|zH<|zA ?_;refine vd [0,1,2,3,4,5,6,7,10,11,12,8,9,13,14,15,16,17]<|vew [] [(4,Ab)] (i6 (↑(WT.ht r)+1)/\decide ((↑(WT.ht l):Int)>(↑(WT.ht r):Int)+(1:Int))=Ab)<|vf<|vA<|ve (i6 (↑(WT.ht r)+1))<|vF ((↑(WT.ht l):Int)>(↑(WT.ht r):Int)+(1:Int))<|zA<|vd [0,1,2,3,4,5,6,7,10,11,12,8,9,13,14,15,16,17]<|vew [] [(4,Ab)] (i6 (↑(WT.ht l)+1)/\decide ((↑(WT.ht r):Int)>(↑(WT.ht l):Int)+(1:Int))=Ab)<|vf<|vA<|ve (i6 (↑(WT.ht l)+1)) ?_;refine vF ((↑(WT.ht r):Int)>(↑(WT.ht l):Int)+(1:Int))<|zQ<|zD<|vN<|vA<|vr 3 (4<=4)<|vc j1<|veT<|zE<|vret (True)<|.inr rfl
theorem zZ0(desc:Bool)(root:WT)(v:Va)(w:Nat):∀(t:WT),t.sz+1<=1000000000->Sm (t.tot+w)->Pure AH 84 [.agg [bD desc,root.x],t.x,entD v w] [] (t.put desc v w).x
  | .nil,h1,h2=>by
    have j1:=(zC2 .nil .nil v w ⟨by simp[WT.sz],h2.le (by simp[WT.tot])⟩).le (wnil_x v w);refine Pure.le (args':=[.agg [bD desc,root.x], .val (.pointer AM),entD v w]) ?_ (.cons (Bx _) (.cons (Bn _) (.refl _)));rw[WT.put];refine zF zBm mixed B6 rfl ?_;focus
      refine vAu<|zA<|vAe<|vt<|vA<|vr 1 (4<=4)<|vc j1<|veT ?_;refine zE<|zG<|vret (True)<|.inr rfl
    all_goals skip
  | .node u x l r,h1,h2=>by
    simp only[WT.sz,WT.tot]at h1 h2;have i1:=zZ0 desc root v w l (by omega) (h2.le (by omega));have i2:=zZ0 desc root v w r (by omega) (h2.le (by omega));have c:=zNj desc root v u;have p1:=WT.put_le desc v w l;have p2:=WT.put_le desc v w r;have b1:=wbal_c (l.put desc v w) r u x ⟨by simp only[WT.sz];omega,h2.le (by simp only[WT.tot];omega)⟩;have b2:=wbal_c l (r.put desc v w) u x ⟨by simp only[WT.sz];omega,h2.le (by simp only[WT.tot];omega)⟩;have b3:=zC2 l r v w ⟨by simp only[WT.sz];omega,h2.le (by simp only[WT.tot];omega)⟩;refine Pure.le (args':=[.agg [bD desc,root.x],zL6 u x l r,entD v w]) ?_ (.cons (Bx _) (.cons (Bn _) (.refl _)));rw[WT.put];by_cases c1:WT.cmp desc v u<0
    · rw[if_pos c1]
      refine zF zBm mixed B6 rfl ?_;focus
        refine vAu<|zA<|vAe<|vf<|vK<|zA<|zA ?_;refine vd [1,3,4,5,6,0,2,7,8,9]<|vr 8 (True/\True/\True/\2<=2/\3<=4/\3<=9)<|vc c<|veT<|zH<|vAe<|vT (WT.cmp desc v u<0)<|zA<|vd [1,2,3,7,8,9,11,12,13,0,4,5,6,10,14,15,16]<|vr 12 (True/\True/\True/\2<=2/\0<5/\4<=4)<|vc i1<|vr 2 (4<=9/\0<4) ?_;refine vc b1<|veT<|zE<|zL<|zG<|vret (True)<|.inr rfl
    · rw [if_neg c1]
      by_cases c2:WT.cmp desc v u>0
      · rw[if_pos c2]
        refine zF zBm mixed B6 rfl ?_;focus
          refine vAu<|zA<|vAe<|vf<|vK<|zA<|zA ?_;refine vd [1,3,4,5,6,0,2,7,8,9]<|vr 8 (True/\True/\True/\2<=2/\3<=4/\3<=9)<|vc c<|veT<|zH<|vAe<|vF (WT.cmp desc v u<0)<|vAe<|vT (WT.cmp desc v u>(0:Int))<|zA ?_;refine vd [0,1,2,4,5,6,9,10,11,3,7,8,12,13,14,15,16]<|vr 14 (True/\True/\True/\0<5/\4<=9/\2<=2/\0<4/\4<=4)<|vc i2<|vc b2<|veT<|zE<|zL<|zG<|vret (True)<|.inr rfl
      · rw[if_neg c2]
        refine zF zBm mixed B6 rfl ?_;focus
          refine vAu<|zA<|vAe<|vf<|vK<|zA<|zA ?_;refine vd [1,3,4,5,6,0,2,7,8,9]<|vr 8 (True/\True/\True/\2<=2/\3<=4/\3<=9)<|vc c<|veT<|zH<|vAe<|vF (WT.cmp desc v u<0)<|vAe<|vF (WT.cmp desc v u>(0:Int))<|zQ ?_;refine zD<|vN<|zA<|vd [0,1,2,5,6,7,3,4,8,9,10]<|vr 9 (True/\True/\0<5/\4<=4/\0<4)<|vc b3<|veT<|zE<|vret (True)<|.inr rfl
def idV(v:Va):List UInt8:=Al v.kind++[44]++Al v.int++[44]++Al (v.str.length:Nat)++[44]++v.str
def idR(r:List Va):List UInt8:=r.flatMap idV
def Vs(v:Va):Prop:=(-9223372036854775808<=v.kind/\v.kind<=9223372036854775807)/\(-9223372036854775808<=v.int/\v.int<=9223372036854775807)/\v.str.length<=10000
theorem idV_len(v:Va)(h:Vs v):(idV v).length<=10100:=by
 have h1:=BD v.kind h.1.1 h.1.2;have h2:=BD v.int h.2.1.1 h.2.1.2;have h3:=BD (v.str.length:Nat) (by omega) (by have:=h.2.2;omega);have h4:=h.2.2;grind [only,idV,Bs,BZ,B7]
theorem zXx(r:List Va)(i:Nat)(h:i<r.length):idR (r.take (i+1))=idR (r.take i)++idV (r.getD i Af):=by
 grind [Bl,idR,AV]
theorem idR_len(r:List Va)(h:∀v∈r,Vs v)(i:Nat)(hi:i<=r.length):(idR (r.take i)).length<=10100*i:=by
 induction i<;>grind [idR,zXx,Bs,idV_len,AV,A4]
def isConv:Op->Bool
 | .convert s d _=>s==180&&d==9
 |_=>Ab
def Tid:Par:=⟨λf=>f==102,λ_ _=>AM,λ_=>Ab,isConv,λ_=>Ab⟩
theorem Tid_ok:zA7 AH Tid:=by intro t n f h;cases h
theorem zS4(l:List UInt8):zFn (zAg l)=AI l:=by
 induction l<;>simp_all [zFn,zAg]
theorem zQw(l:List UInt8):zPe (zAg l)=l:=by
 induction l<;>simp_all [byteG,zPe,zAg]
theorem zG2(l:List UInt8)(n:Nat)(h:l.length=n):(zAg l).take n=zAg l:=by grind [By,zBi]
def zNt(k:Nat)(st:List Bk):Bool:=st.zipIdx.all λp=>p.2==k||p.1.nob||!zX k p.1.cells
theorem zFa{k:Nat}{st:List Bk}(h:zNt k st=Ad):∀j e0,j≠k->st[j]?=AI e0->e0.nob=Ad\/zX k e0.cells=false:=λj e0 hj he=>by
 unfold zNt at h;rw[Bz]at h
 have:=h (e0,j) (List.mem_zipIdx_iff_getElem?.2 he)
 simp only[Cj,beq_iff_eq,Bool.not_eq_true']at this;rcases this with(h1|h1)|h1
 ·exact absurd h1 hj
 ·exact .inl h1
 exact .inr h1
set_option maxHeartbeats 4000000 in
theorem zCr(r:List Va)(n:Nat)(hn:r.length=n)(hl:n<=10000)(hv:∀v∈r,Vs v):Pure AH 59 [.row (zJ r) n] [] (strD (idR r)):=by
 subst hn;refine zF Tid_ok mixed Tryz.func59 rfl ?_;focus
  refine vAu<|vAe<|zA<|vAe<|zH ?_;rotate_left
 refine zK (λ(i:Nat)=>fr 38 [(2,q7_),(3,Ay 0 0 (Aa<|idR<|Aw i r) (Aa<|idR<|Aw i r) Ad),(6,(q3_ r)),(7,iD<|Aa r),(8,iD i)]) (λi=>[byB<|idR<|r.take i]) (λi=>r.length-i) (λi=>i<=r.length) 0 ?_ ?_ ?_
 ·omega
 ·rw[show idR (r.take 0)=[]from rfl];refine vk 0
 rintro i h1;have hb:=idR_len r hv i (by omega);generalize ex:idR (r.take i)=x at*;rcases AX i r.length with hi|hi
 ·have hvi:Vs (r.getD i Af):=by rw[A0,AV hi];exact hv _ (A4 _)
  have e2:=zXx r i hi;rw[ex]at e2;obtain⟨v,ev⟩:∃v,v=r.getD i default:=⟨_,rfl⟩;rw[<-ev]at e2 hvi;have l1:=BD v.kind hvi.1.1 hvi.1.2;have l2:=BD v.int hvi.2.1.1 hvi.2.1.2;have l3:=hvi.2.2;have l4:=BD (v.str.length:Nat) (by omega) (by omega);have e3:x++idV v=x++Al v.kind++[44]++Al v.int++[44]++Al (v.str.length:Nat)++[44]++v.str:=by simp[idV]
  focus
   refine vAu<|zA<|vT ((i:Int)<↑(Aa r))<|vKB<|vA<|vr 2 (ix ↑i ↑(Aa r) (zJ r≠[])/\3<=Aa (Ak (i*3)<|zJ r)) ?_ ⟨⟨(by omega),⟨(by omega),(by exact zHp _ (by omega))⟩⟩,(by exact zGw _ _ (by omega))⟩;refine vs 11 (AJ<|Aw 3<|Ak (i*3)<|zJ r) (AJ<|vaC v) (by simp(disch:=omega) only[zDs,<-ev])<|ve (Ab=Ab/\Ad=Ad/\3=3/\3<=3)<|vA<|vr 3 (True/\0<3)<|vnt [byB x,An [iD<|Ax v,iD<|AD v,Am<|AG<|bs<|AF v] 64 0 Ab Ab Au] ?_;refine zG3 [] [] [Ay 0 0 (Aa x) (Aa x) Ad,iD<|Ax v,iD 10] [Ay 0 0 (Aa x) (Aa x) Ad,iD<|Ax v,iD 10] (A1 _) (by exact zM7 0 _ v.kind _ (by simp) (by omega) hvi.1.1 hvi.1.2 rfl (zFa rfl)) ?_;refine v0s<|vr 2 (((1=1/\1<=1/\True)/\0<1/\1=1/\1<=16777216/\1<=9223372036854775807)/\Ad=Ad/\Aa (zAg (x++Al (Ax v)))=(Aa x+Aa (Al<|Ax v))*1/\Aa x+Aa (Al<|Ax v)=(Aa x+Aa (Al<|Ax v))*1/\5=5/\1=1/\1=1/\0<1/\0<1/\5=5/\(Aa x+Aa (Al<|Ax v)+1)*1<=140737488355328/\1=1/\Bt Au=Ab/\(Ab=Ab\/Bv Au=Ad)) (vb 0 (An (zAg (x++Al (Ax v))++[Am<|AC Bw 44]) 5 1 Ad Ab Au) (An (zAg (x++Al (Ax v)++[(44:UInt8)])) 5 1 Ad Ab Au) (by simp(disch:=omega) only[zC5,show([Am (AC Bw 44)]:List D)=zAg [44]from rfl])<|vrT 1<|vs 3 (Ay 0 0 (Aa x+Aa (Al<|Ax v)+1) ((Aa x+Aa (Al<|Ax v)+1)*1) Ad) (Ay 0 0 (Aa x+Aa (Al<|Ax v)+1) (Aa x+Aa (Al<|Ax v)+1) Ad) (by simp(disch:=omega) only[A5])<|veT<|zA ?_) ⟨⟨⟨(by kernel_rfl),⟨(by omega),trivial⟩⟩,(by omega)⟩,⟨(by kernel_rfl),⟨(by simp[zBi]),⟨(by omega),⟨(by kernel_rfl),⟨(by kernel_rfl),⟨(by kernel_rfl),⟨(by omega),⟨(by omega),⟨(by kernel_rfl),⟨(by omega),⟨(by kernel_rfl),⟨(by kernel_rfl),(by simp)⟩⟩⟩⟩⟩⟩⟩⟩⟩⟩⟩⟩⟩;refine zB rfl<|vr 3 (True/\0<2)<|vnt [An (zAg (x++Al (Ax v)++[(44:UInt8)])) 5 1 Ad Ab Au,An [iD<|Ax v,iD<|AD v,Am<|AG<|bs<|AF v] 64 0 Ab Ab Au,An (zAg [(44:UInt8)]) 5 1 Ad Ab Au] ?_;refine zG3 [] [] [Ay 0 0 (Aa x+Aa (Al<|Ax v)+1) (Aa x+Aa (Al<|Ax v)+1) Ad,iD<|AD v,iD 10] [Ay 0 0 (Aa x+Aa (Al<|Ax v)+1) (Aa x+Aa (Al<|Ax v)+1) Ad,iD<|AD v,iD 10] (A1 _) (by exact zM7 0 _ v.int _ (by simp;omega) (by omega) hvi.2.1.1 hvi.2.1.2 rfl (zFa rfl)) ?_;refine v0s<|vr 2 (((1=1/\1<=1/\True)/\0<1/\1=1/\1<=16777216/\1<=9223372036854775807)/\Ad=Ad/\Aa (zAg (x++Al (Ax v)++[(44:UInt8)]++Al (AD v)))=(Aa x+Aa (Al<|Ax v)+1+Aa (Al<|AD v))*1/\Aa x+Aa (Al<|Ax v)+1+Aa (Al<|AD v)=(Aa x+Aa (Al<|Ax v)+1+Aa (Al<|AD v))*1/\5=5/\1=1/\1=1/\0<1/\0<1/\5=5/\(Aa x+Aa (Al<|Ax v)+1+Aa (Al<|AD v)+1)*1<=140737488355328/\1=1/\Bt Au=Ab/\(Ab=Ab\/Bv Au=Ad)) (vb 0 (An (zAg (x++Al (Ax v)++[(44:UInt8)]++Al (AD v))++[Am<|AC Bw 44]) 5 1 Ad Ab Au) (An (zAg (x++Al (Ax v)++[(44:UInt8)]++Al (AD v)++[(44:UInt8)])) 5 1 Ad Ab Au) (by simp(disch:=omega) only[zC5,show([Am (AC Bw 44)]:List D)=zAg [44]from rfl]) ?_) ⟨⟨⟨(by kernel_rfl),⟨(by omega),trivial⟩⟩,(by omega)⟩,⟨(by kernel_rfl),⟨(by(simp[zBi];omega)),⟨(by omega),⟨(by kernel_rfl),⟨(by kernel_rfl),⟨(by kernel_rfl),⟨(by omega),⟨(by omega),⟨(by kernel_rfl),⟨(by omega),⟨(by kernel_rfl),⟨(by kernel_rfl),(by simp)⟩⟩⟩⟩⟩⟩⟩⟩⟩⟩⟩⟩⟩;refine vrT 1<|vs 3 (Ay 0 0 (Aa x+Aa (Al<|Ax v)+1+Aa (Al<|AD v)+1) ((Aa x+Aa (Al<|Ax v)+1+Aa (Al<|AD v)+1)*1) Ad) (Ay 0 0 (Aa x+Aa (Al<|Ax v)+1+Aa (Al<|AD v)+1) (Aa x+Aa (Al<|Ax v)+1+Aa (Al<|AD v)+1) Ad) (by simp(disch:=omega) only[A5])<|veT<|vA<|vr 4 (True/\0<1)<|vnt [An (zAg (x++Al (Ax v)++[(44:UInt8)]++Al (AD v)++[(44:UInt8)])) 5 1 Ad Ab Au,An [iD<|Ax v,iD<|AD v,Am<|AG<|bs<|AF v] 64 0 Ab Ab Au,An [Am<|AC Bw (↑(44:Nat):Int)] 5 1 Ad Ab Au,An (zAg [(44:UInt8)]) 5 1 Ad Ab Au] ?_;refine zG3 [] [] [Ay 0 0 (Aa x+Aa (Al<|Ax v)+1+Aa (Al<|AD v)+1) (Aa x+Aa (Al<|Ax v)+1+Aa (Al<|AD v)+1) Ad,iD (Aa (AF v):Int),iD 10] [Ay 0 0 (Aa x+Aa (Al<|Ax v)+1+Aa (Al<|AD v)+1) (Aa x+Aa (Al<|Ax v)+1+Aa (Al<|AD v)+1) Ad,iD (Aa (AF v):Int),iD 10] (A1 _) (by exact zM7 0 _ (v.str.length:Nat) _ (by simp;omega) (by omega) (by omega) (by omega) rfl (zFa rfl)) ?_;refine v0s<|vr 2 (((1=1/\1<=1/\True)/\0<1/\1=1/\1<=16777216/\1<=9223372036854775807)/\Ad=Ad/\Aa (zAg (x++Al (Ax v)++[(44:UInt8)]++Al (AD v)++[(44:UInt8)]++Al (Aa (AF v):Int)))=(Aa x+Aa (Al<|Ax v)+1+Aa (Al<|AD v)+1+Aa (Al (Aa (AF v):Int)))*1/\Aa x+Aa (Al<|Ax v)+1+Aa (Al<|AD v)+1+Aa (Al (Aa (AF v):Int))=(Aa x+Aa (Al<|Ax v)+1+Aa (Al<|AD v)+1+Aa (Al (Aa (AF v):Int)))*1/\5=5/\1=1/\1=1/\0<1/\0<1/\5=5/\(Aa x+Aa (Al<|Ax v)+1+Aa (Al<|AD v)+1+Aa (Al (Aa (AF v):Int))+1)*1<=140737488355328/\1=1/\Bt Au=Ab/\(Ab=Ab\/Bv Au=Ad)) ?_ ⟨⟨⟨(by kernel_rfl),⟨(by omega),trivial⟩⟩,(by omega)⟩,⟨(by kernel_rfl),⟨(by(simp[zBi];omega)),⟨(by omega),⟨(by kernel_rfl),⟨(by kernel_rfl),⟨(by kernel_rfl),⟨(by omega),⟨(by omega),⟨(by kernel_rfl),⟨(by omega),⟨(by kernel_rfl),⟨(by kernel_rfl),(by simp)⟩⟩⟩⟩⟩⟩⟩⟩⟩⟩⟩⟩⟩;refine vb 0 (An (zAg (x++Al (Ax v)++[(44:UInt8)]++Al (AD v)++[(44:UInt8)]++Al (Aa (AF v):Int))++[Am<|AC Bw 44]) 5 1 Ad Ab Au) (An (zAg (x++Al (Ax v)++[(44:UInt8)]++Al (AD v)++[(44:UInt8)]++Al (Aa (AF v):Int)++[(44:UInt8)])) 5 1 Ad Ab Au) (by simp(disch:=omega) only[zC5,show([Am (AC Bw 44)]:List D)=zAg [44]from rfl])<|vrT 1<|vs 3 (Ay 0 0 (Aa x+Aa (Al<|Ax v)+1+Aa (Al<|AD v)+1+Aa (Al (Aa (AF v):Int))+1) ((Aa x+Aa (Al<|Ax v)+1+Aa (Al<|AD v)+1+Aa (Al (Aa (AF v):Int))+1)*1) Ad) (Ay 0 0 (Aa x+Aa (Al<|Ax v)+1+Aa (Al<|AD v)+1+Aa (Al (Aa (AF v):Int))+1) (Aa x+Aa (Al<|Ax v)+1+Aa (Al<|AD v)+1+Aa (Al (Aa (AF v):Int))+1) Ad) (by simp(disch:=omega) only[A5])<|veT<|zB rfl ?_;refine vwh 4 [] [] (True/\0<1/\Ad=Ad/\Aa (zAg (x++Al (Ax v)++[(44:UInt8)]++Al (AD v)++[(44:UInt8)]++Al (Aa (AF v):Int)++[(44:UInt8)]))=(Aa x+Aa (Al<|Ax v)+1+Aa (Al<|AD v)+1+Aa (Al (Aa (AF v):Int))+1)*1/\Aa x+Aa (Al<|Ax v)+1+Aa (Al<|AD v)+1+Aa (Al (Aa (AF v):Int))+1=(Aa x+Aa (Al<|Ax v)+1+Aa (Al<|AD v)+1+Aa (Al (Aa (AF v):Int))+1)*1/\5=5/\1=1/\Aa (zAg<|BE<|BF<|bs<|AF v)=Aa (BE<|BF<|bs<|AF v)*1/\0<1/\0<1/\5=5/\(Aa x+Aa (Al<|Ax v)+1+Aa (Al<|AD v)+1+Aa (Al (Aa (AF v):Int))+1+Aa (BE<|BF<|bs<|AF v))*1<=140737488355328/\1=1/\Bt Au=Ab/\(Ab=Ab\/Bv Au=Ad)) ⟨trivial,(by omega),?_⟩ ?_;rotate_left;refine vb 0 (An (zAg (x++Al (Ax v)++[(44:UInt8)]++Al (AD v)++[(44:UInt8)]++Al (Aa (AF v):Int)++[(44:UInt8)])++zAg (BE<|BF<|bs<|AF v)) 5 1 Ad Ab Au) (An (zAg (x++Al (Ax v)++[(44:UInt8)]++Al (AD v)++[(44:UInt8)]++Al (Aa (AF v):Int)++[(44:UInt8)]++AF v)) 5 1 Ad Ab Au) (by simp(disch:=omega) only[bs_dl,zC5])<|vrT 1<|vs 3 (Ay 0 0 (Aa x+Aa (Al<|Ax v)+1+Aa (Al<|AD v)+1+Aa (Al (Aa (AF v):Int))+1+Aa (BE<|BF<|bs<|AF v)) ((Aa x+Aa (Al<|Ax v)+1+Aa (Al<|AD v)+1+Aa (Al (Aa (AF v):Int))+1+Aa (BE<|BF<|bs<|AF v))*1) Ad) (Ay 0 0 (Aa x+Aa (Al<|Ax v)+1+Aa (Al<|AD v)+1+Aa (Al (Aa (AF v):Int))+1+Aa (AF v)) (Aa x+Aa (Al<|Ax v)+1+Aa (Al<|AD v)+1+Aa (Al (Aa (AF v):Int))+1+Aa (AF v)) Ad) (by simp(disch:=omega) only[bs_dl,A5])<|vnil<|zD<|vN<|zB rfl<|vr 2 (i6 (↑i+1))<|vnil<|zC ?_;rotate_left
  all_goals first|(refine⟨rfl,?_,?_,rfl,rfl,?_,by decide,by decide,rfl,?_,rfl,rfl, .inl rfl⟩<;>(try simp only[zBi,Bs,BZ,B7,bs_dl])<;>omega)|skip
  refine⟨i+1,by omega,by omega,?_⟩;rw[e2,e3];refine wk 3 (Ay 0 0 (Aa x+Aa (Al (Ax v))+1+Aa (Al (AD v))+1+Aa (Al (↑(Aa (AF v)):Int))+1+Aa (AF v)) (Aa x+Aa (Al (Ax v))+1+Aa (Al (AD v))+1+Aa (Al (↑(Aa (AF v)):Int))+1+Aa (AF v)) Ad) (Ay 0 0 (Aa (x++Al (Ax v)++[(44:UInt8)]++Al (AD v)++[(44:UInt8)]++Al (↑(Aa (AF v)):Int)++[(44:UInt8)]++AF v)) (Aa (x++Al (Ax v)++[(44:UInt8)]++Al (AD v)++[(44:UInt8)]++Al (↑(Aa (AF v)):Int)++[(44:UInt8)]++AF v)) Ad) (by(simp;omega)) (vk 1)
 have e:i=r.length:=by omega
 subst e;rw[Bf]at ex;focus
  refine vAu<|zA<|vF ((Aa r:Int)<↑(Aa r))<|vZ2<|vA ?_;refine vr 2 (zFn (Aw (Aa x)<|Ak 0<|AO<|byB x)=AI (zPe<|Aw (Aa x)<|Ak 0<|AO<|byB x)/\Aa (Aw (Aa x)<|Ak 0<|AO<|byB x)=Aa x/\Program.underlying AH 5=AI (TypeDesc.int Bw)) (vs 37 (Am<|AG<|A3<|List.toArray<|zPe<|Aw (Aa x)<|Ak 0<|AO<|byB x) (Am<|AG<|A3<|List.toArray x) (by simp(disch:=omega) only[Bb,zG2,zQw])<|veT<|zE ?_) ⟨(by simp[zS4,zQw,zG2,zBi]),⟨(by simp[zS4,zQw,zG2,zBi]),(by kernel_rfl)⟩⟩;refine vre (True) (Am<|AG<|A3<|List.toArray x) (.inr rfl) ?_;rotate_left
 rw[ex];rfl
end
def dvl(l:List UInt8):Nat:=l.foldl (λa b=>a*10+(b.toNat-48)) 0
theorem zX8(u:Nat):dvl (BG u)=u/\∀b∈BG u,48<=b.toNat/\b.toNat<=57:=by
 induction u using Nat.strongRecOn with
 | _ u ih=>
  rw[BG];split
  ·rename_i h;have e:(UInt8.ofNat (48+u)).toNat=48+u:=by rw[UInt8.toNat_ofNat'];omega
   grind [only,dvl,BH]
  rename_i h;obtain⟨h1,h2⟩:=ih (u/10) (by omega);have e:(UInt8.ofNat (48+u%10)).toNat=48+u%10:=by rw[UInt8.toNat_ofNat'];omega
  grind [dvl,only,BH]
theorem zQl{a b:Int}(h:Al a=Al b):a=b:=by
 have key:∀z:Int,z<0->∀u:Nat,Al z≠BG u:=λz hz u e=>by
  unfold Al at e;rw[if_pos hz]at e
  have:=(zX8 u).2 45 (by rw[<-e];simp)
  grind
 by_cases ha:a<0<;>by_cases hb:b<0
 ·unfold Al at h;grind [dvl,List.cons.inj,zX8]
 ·have e:Al b=BG b.toNat:=by unfold Al;rw[if_neg hb]
  grind
 ·have e:Al a=BG a.toNat:=by unfold Al;rw[if_neg ha]
  grind
 unfold Al at h;grind [dvl,zX8]
theorem zJx(z:Int):∀b∈Al z,b≠44:=by
 intro b hb e;subst e;have e2:(44:UInt8).toNat=44:=rfl;unfold Al at hb;grind [zX8]
theorem zX9:∀{a b s t:List UInt8},(∀x∈a,x≠44)->(∀x∈b,x≠44)->a++44::s=b++44::t->a=b/\s=t
 |[],[],s,t,_,_,h=>by simpa using h
 |[],y::b,s,t,_,hb,h=>by
  grind
 |x::a,[],s,t,ha,_,h=>by
  grind
 |x::a,y::b,s,t,ha,hb,h=>by
  simp only[Ck,List.cons.injEq]at h;obtain⟨h1,h2⟩:=zX9 (λz hz=>ha z (BL _ hz)) (λz hz=>hb z (BL _ hz)) h.2;exact⟨by rw[h.1,h1],h2⟩
theorem idV_inj{v w:Va}{s t:List UInt8}(h:idV v++s=idV w++t):v=w/\s=t:=by
 simp only[idV,List.append_assoc,List.singleton_append,Ck,List.nil_append]at h;obtain⟨h1,h⟩:=zX9 (zJx _) (zJx _) h;obtain⟨h2,h⟩:=zX9 (zJx _) (zJx _) h;obtain⟨h3,h⟩:=zX9 (zJx _) (zJx _) h;have g1:=zQl h1;have g2:=zQl h2;clear h1 h2;have h3:v.str.length=w.str.length:=by have:=zQl h3;omega
 obtain⟨h4,h5⟩:=List.append_inj h h3;obtain⟨vk,vi,vs⟩:=v;simp_all
theorem idV_ne(v:Va)(s:List UInt8):idV v++s≠[]:=by
 simp_all [Aa,idV]
theorem idR_inj:∀{r s:List Va},idR r=idR s->r=s
 |[],[],_=>rfl
 |[],w::s,h=>absurd h.symm (idV_ne w (idR s))
 |v::r,[],h=>absurd h (idV_ne v (idR r))
 |v::r,w::s,h=>by
  have h:idV v++idR r=idV w++idR s:=h;obtain⟨h1,h2⟩:=idV_inj h;rw[h1,idR_inj h2]
abbrev kyv(r:List Va):Value:= .string (bs (idR r))
theorem zWa(r s:List Va):vEq (kyv r) (kyv s)=decide (r=s):=by
 simp only[vEq,kyv,bs];rw[Bool.eq_iff_iff];grind [only,idR_inj]
theorem zXi(K:List (List Va))(r:List Va):zEq (K.map kyv) (kyv r)=K.findIdx? λs=>decide (r=s):=by
 unfold zEq;rw[List.findIdx?_map];congr 1;funext s;exact zWa r s
theorem zVf(K:List (List Va)):(K.map kyv).all (zW .string)=true:=by simp[zW]
def addK(K:List (List Va))(r:List Va):List (List Va):=if r∈K then K else K++[r]
def allK(L:List (List Va)):List (List Va):=L.foldl addK []
theorem zYm(L:List (List Va))(r:List Va):r∈allK L↔r∈L:=by
 have key:∀(L K:List (List Va)),r∈L.foldl addK K↔r∈K\/r∈L:=by
  intro L;induction L<;>grind [addK,BL]
 rw[allK,key];simp
abbrev zHo(K:List (List Va)):D:= .mfz (K.map kyv) (K.map λ_=>bD Ad)
abbrev zGv(K:List (List Va×Nat)):D:= .mfz (K.map λp=>kyv p.1) (K.map λp=>natD p.2)
def tlk(K:List (List Va×Nat))(r:List Va):Option Nat:=(K.find? λp=>decide (r=p.1)).map (·.2)
theorem look_v(K:List (List Va))(r:List Va):zSb Ab (bD Ab) (K.map kyv) (K.map λ_=>bD Ad) (kyv r)=bD (decide (r∈K)):=by
 grind [zSb,zXi,List.findIdx?_eq_none_iff,ctD,B8,A4]
theorem look_t(z:D)(K:List (List Va×Nat))(r:List Va):zSb Ab z (K.map λp=>kyv p.1) (K.map λp=>natD p.2) (kyv r)=match tlk K r with
  |some w=>natD w
  |none=>z:=by
 induction K with
 |nil=>rfl
 |cons p K ih=>
  unfold zSb zEq tlk at*;rw[BC,BC,List.findIdx?_cons,zWa,List.find?_cons];by_cases h:r=p.1
  ·rw[decide_eq_true h];rfl
  grind
theorem zF9(K:List (List Va×Nat)):(K.map λp=>kyv p.1).all (zW .string)=true:=by simp[zW]
section
attribute [local irreducible] seqW awp zAf zAn zAd Weak updS zAx retL Pure Acts rP setP setQ cP nP fr
set_option maxRecDepth 4096
theorem zP6(x:List Va)(cols:List Nat)(h:∀v∈x,Vs v):∀v∈zT x cols,Vs v:=by
 intro v hv;obtain⟨c,_,rfl⟩:=Bh.1 hv;rw[A0];cases e:x[c]? with
 |none=>exact⟨by decide,by decide,by decide⟩
 |some u=>exact h u (List.mem_of_getElem? e)
theorem zL8:LeD (.val (.slice AM 0 0)) (natD 0):=by
 have e:natD 0= .row [] 0:=by simp[natD,dg]
 rw[e];exact LeD.nil_row
def wbad(f:Nat)(VT:Nat->List Rw)(x:Rw)(c:Nat×List Nat):Bool:=decide (f<=c.1)&&decide (zT x c.2∉VT c.1)
def wone(f:Nat)(VT:Nat->List Rw)(TT:Nat->List (Rw×Nat))(x:Rw)(c:Nat×List Nat):Nat:=if c.1<f then(tlk (TT c.1) (zT x c.2)).getD 0 else if zT x c.2∈VT c.1 then 1 else 0
def wtL(f:Nat)(VT:Nat->List Rw)(TT:Nat->List (Rw×Nat))(x:Rw)(ch:List (Nat×List Nat)):Nat:=(ch.map (wone f VT TT x)).foldl (· *·) 1
theorem wtL_succ(f:Nat)(VT:Nat->List Rw)(TT:Nat->List (Rw×Nat))(x:Rw)(ch:List (Nat×List Nat))(i:Nat)(h:i<ch.length):wtL f VT TT x (ch.take (i+1))=wtL f VT TT x (ch.take i)*wone f VT TT x (ch.getD i Af):=by
 grind [wtL,Bl,AV]
theorem mul0:∀(l:List Nat),l.foldl (· *·) 0=0
 |[]=>rfl
 |a::l=>by rw[B9,Nat.zero_mul];exact mul0 l
theorem wtL_bad{f:Nat}{VT:Nat->List Rw}{TT:Nat->List (Rw×Nat)}{x:Rw}{ch:List (Nat×List Nat)}{p:Nat}(h:p<ch.length)(hb:wbad f VT x (ch.getD p Af)=Ad):wtL f VT TT x ch=0:=by
 have h0:wone f VT TT x (ch.getD p Af)=0:=by
  unfold wbad at hb;simp only[BI,decide_eq_true_eq]at hb;grind [wone]
 have e:ch=ch.take p++ch.getD p Af::ch.drop (p+1):=by
  simp_all
 rw[e];unfold wtL;rw[B3,List.foldl_append,BC,B9,h0,Nat.mul_zero,mul0]
theorem zD0{p:Nat->Bool}{n:Nat}(h:∃i,i<n/\p i=Ad):∃i,i<n/\p i=Ad/\∀j,j<i->p j=false:=by
 induction n with
 |zero=>obtain⟨i,h1,_⟩:=h;omega
 |succ n ih=>
  by_cases h2:∃i,i<n/\p i=Ad;all_goals grind
def Twe:Par:=⟨λ_=>Ab,λ_ _=>AM,λk=>decide (k<11),λ_=>Ab,λ_=>Ab⟩
theorem Twe_ok:zA7 AH Twe:=by intro t n f h;cases h
theorem keep11{st:List Bk}(h:st.length=11):∀k,k<st.length->Twe.keep k=true:=λk hk=>by
 show decide (k<11)=Ad;rw[decide_eq_true_eq];omega
theorem zHc:∀k,11<=k->Twe.keep k=false:=λk hk=>by
 show decide (k<11)=Ab;rw[decide_eq_false_iff_not];omega
abbrev chfB(l:List D):Bk:=⟨l,200,2,Ad,Ad, .plain⟩
abbrev chK(c:Nat×List Nat):Bk:=⟨chC c,200,0,Ab,Ab, .plain⟩
section
variable (b : Bd) (x : Rw) (ch : List (Nat × List Nat)) (gv gt : Nat → D) (VT : Nat → List Rw) (TT : Nat → List (Rw × Nat))
 (hx : x.length ≤ 1000) (hxs : ∀ v ∈ x, Vs v) (hch : ch.length ≤ 1000) (hc : ∀ c ∈ ch, c.1 < b.n ∧ c.2.length ≤ 1000 ∧ ∀ j ∈ c.2, j < x.length)
 (hv : ∀ c ∈ ch, b.f ≤ c.1 → gv c.1 = zHo (VT c.1)) (ht : ∀ c ∈ ch, c.1 < b.f → gt c.1 = zGv (TT c.1))
 (hS : ∀ i, i ≤ ch.length → Sm (wtL b.f VT TT x (ch.take i))) (hS1 : ∀ c ∈ ch, ∀ p ∈ TT c.1, Sm p.2)
 (c7 c8 c9 c10 : List D) (t8 t10 : TypeId) (s10 : Nat) (ks : List Value) (h5 : blw 11 (fA b.n gv)) (h6 : blw 11 (fA b.n gt))
include hx hxs hch hc hv ht hS hS1 h5 h6
abbrev q20_(x0:List (Nat×List Nat)):=Aj (Ah chC x0) (Aa x0)
theorem zV6:Acts AH 97 [.own 4 0, .row (ch.flatMap chC) ch.length,rowV x] [blI b,blX,blG b,blE b,blB b,blV (fA b.n gv),blT (fA b.n gt),blU c7,blM t8 ks c8,chfB c9,⟨c10,t10,s10,Ad,Ab, .plain⟩] [] (natD (wtL b.f VT TT x ch))
  [blI b,blX,blG b,blE b,blB b,blV (fA b.n gv),blT (fA b.n gt),blU c7,blM t8 ks c8,chfB c9,⟨c10,t10,s10,Ad,Ab, .plain⟩]:=by
 have hnm:∀e∈[blI b,blX,blG b,blE b,blB b,blV (fA b.n gv),blT (fA b.n gt),blU c7,blM t8 ks c8,chfB c9,(⟨c10,t10,s10,Ad,Ab, .plain⟩:Bk)],namB 11 e:=zHf (by omega) h5 h6 λe he=>by
  simp only[BA,Cl,or_false]at he;rcases he with rfl|rfl|rfl<;>exact .inl rfl
 have hcc:∀c:Nat×List Nat,(chC c).length=2:=λ_=>rfl;have step:∀i,i<ch.length->ch.getD i Af∈ch:=λi h=>by rw[A0,AV h];exact A4 h
 obtain⟨m,res,bs,hres,hm,hgood,hend⟩:∃(m:Nat)(res:D)(bs:List Bk),LeD res (natD (wtL b.f VT TT x ch))/\m<=ch.length/\(∀j,j<m->wbad b.f VT x (ch.getD j Af)=Ab)/\((m=ch.length/\res=natD (wtL b.f VT TT x ch)/\bs=[])\/(m<ch.length/\wbad b.f VT x (ch.getD m Af)=Ad/\res= .val (.slice AM 0 0)/\bs=[chK (ch.getD m Af)])):=by
  by_cases hbad:∃p,p<ch.length/\wbad b.f VT x (ch.getD p Af)=Ad
  ·obtain⟨p,hp,hpb,hmin⟩:=zD0 (p:=λi=>wbad b.f VT x (ch.getD i Af)) hbad;exact⟨p,_,_,by rw[wtL_bad (TT:=TT) hp hpb];exact zL8,by omega,hmin, .inr ⟨hp,hpb,rfl,rfl⟩⟩
  exact⟨ch.length,_,_,Bx _,AY _,λi hi=>by
   cases e:wbad b.f VT x (ch.getD i Af)with
   |false=>rfl
   |true=>exact absurd ⟨i,hi,e⟩ hbad, .inl ⟨rfl,rfl,rfl⟩⟩
 refine Acts.res (x:=res) ?_ hres;refine Acts.cutN (bs:=bs) ?_ (AY _) hnm (λj hj=>by rcases hend with⟨_,rfl,_⟩|⟨_,_,rfl,_⟩<;>rfl);obtain⟨one,e1⟩:∃o:Nat,o=1:=⟨1,rfl⟩;have hof:Pure AH 36 [.val (.int .u64 1)] [] (natD one):=by subst e1;exact of_c 1 (by decide)
 have hw0:wtL b.f VT TT x (ch.take 0)=one:=e1.symm;refine zN Twe_ok mixed Tryz.func97 rfl (keep11 rfl) ?_;focus
  refine vAu<|vA<|vc hof<|veT<|zA<|vAe<|zH ?_;rotate_left
 refine zK (λ(i:Nat)=>fr 56 [(0,Ae 4 0),(2,rowV x),(7,natD<|wtL (Ai b) VT TT x<|Aw i ch),(12,(q20_ ch)),(13,iD<|Aa ch),(14,iD i)]) (λ(i:Nat)=>[blI b,blX,blG b,blE b,blB b,blV<|fA b.n gv,blT<|fA b.n gt,blU c7,blM t8 ks c8,chfB c9,⟨c10,t10,s10,Ad,Ab,.plain⟩]) (λ(i:Nat)=>m-i) (λ(i:Nat)=>i<=m) 0 ?_ ?_ ?_
 ·omega
 ·rw[hw0];refine vk 11 ?_;all_goals exact zHc
 intro i h1;rcases AX i m with h3'|h3'
 ·have h3:i<ch.length:=by omega
  have hg2:=zCz hcc ch i h3;have hle:=zEv hcc ch i h3;have hne:=zDe hcc (by decide) ch (by omega);have hmem:=step i h3;have hgd:=hgood i h3';have hsu:=wtL_succ b.f VT TT x ch i h3;obtain⟨n1,n2,n3⟩:=hc _ hmem;have hv1:=hv _ hmem;have ht1:=ht _ hmem;have hs1:=hS1 _ hmem;have hsi:=hS i (by omega);generalize ch.getD i Af=c at*;have hpk:=pick_c x c.2 _ _ rfl rfl (by omega) (by omega) n3;have hpl:(zT x c.2).length=c.2.length:=by simp[zT]
  have hid:=zCr (zT x c.2) c.2.length hpl (by omega) (zP6 x c.2 hxs);by_cases hf:c.1<b.f
  ·have hgt:((fA b.n gt).drop c.1).headD .unk=zGv (TT c.1):=by rw[zD4 n1];exact ht1 hf
   have hps:=zCa (g:=gt) n1;unfold wone at hsu;rw[if_pos hf]at hsu;have hlk:=look_t (.val (.slice AM 0 0)) (TT c.1) (zT x c.2);cases e:tlk (TT c.1) (zT x c.2)with
   | none=>
    rw[e]at hlk hsu;dsimp only[Option.getD_none]at hlk hsu;have hmu:Pure AH 86 [natD (wtL b.f VT TT x (ch.take i)), .val (.slice AM 0 0)] [] (natD (wtL b.f VT TT x (ch.take i)*0)):=(zW7 _ 0 hsi Sm.zero).le (.cons (.refl _) (.cons zL8 .nil));focus
     refine vAu (zA (vT ((i:Int)<↑(Aa ch)) (vKB (vA (vr 2 (ix ↑i ↑(Aa ch) (Ah chC ch≠[])/\2<=Aa (Ak (i*2) (Ah chC ch))) ?_)))));refine vs 17 (AJ (Aw 2 (Ak (i*2) (Ah chC ch)))) (AJ (chC c)) (by simp(disch:=omega) only[hg2]) (ve (Ab=Ab/\Ad=Ad/\2=2/\2<=2) (vA (vr 3 (True/\0<1) (vc hpk (vc hid (veT (zA (vd [0,2,3,4,5,1,6,7] (ve (True/\True/\True/\0<2/\0<9) (vT ((↑(Az c):Int)<↑(Ai b)) (vd [0,1,2,3,5,9,4,6,7,8,10,11,12] (vr 9 (True/\True/\0<2/\0<2/\(0:Int)<=(↑(Az c):Int)/\(↑(Az c):Int)<(↑(Ag b):Int)) ?_))))))))))));refine vo 38 6 (Az c) (vr 1 (0<Aa (Ak (Az c) (AO (blT (fA (Ag b) gt))))) (vsh 39 hgt (vr 1 (zW (A7 (A8 A9 "string" 1 16 Ad 8 8 (AI (AG (A3 #[]))) Ad #[])) (AG (YtjcofbkhoeockaaGreatDoor.bs (idR (zT x (AL c)))))=Ad/\Bo (Ao (λ(p:List Va×Nat)=>kyv (Az p)) (TT (Az c))) (zW (A7 (A8 A9 "string" 1 16 Ad 8 8 (AI (AG (A3 #[]))) Ad #[])))=Ad) (vsh 41 hlk (vc hmu (vrT 1 (vnil (zD (vN (zB rfl (vr 2 (i6 (↑i+1)) (vnil ?_))))))))) ⟨(by kernel_rfl),(by exact zF9 _)⟩)));refine zC ?_;rotate_left
    refine⟨i+1,by omega,by omega,?_⟩;rw[hsu];refine wkn (fr 56 [(0,Ae 4 0),(2,rowV x),(7,Aj [] (Aa (dg (wtL (Ai b) VT TT x (Aw i ch)*0)))),(9,Ae 11 0),(10,Am (AG (YtjcofbkhoeockaaGreatDoor.bs (idR (zT x (AL c)))))),(12,(q20_ ch)),(13,iD (Aa ch)),(14,iD ↑(i+1)),(30,bD (decide ((↑(Az c):Int)<(↑(Ai b):Int)))),(31,natD (wtL (Ai b) VT TT x (Aw i ch))),(32,Ae 4 0),(33,Ae 4 0),(34,Ae 4 8),(35,Ay 6 0 (Ag b) (Ag b) Ad),(36,Ae 11 0),(37,iD ↑(Az c)),(38,Ae 6 (Az c)),(39,zGv (TT (Az c))),(40,Am (AG (YtjcofbkhoeockaaGreatDoor.bs (idR (zT x (AL c)))))),(41,nl),(42,Aj [] (Aa (dg (wtL (Ai b) VT TT x (Aw i ch)*0)))),(54,iD ↑(i+1))]) [blI b,blX,blG b,blE b,blB b,blV (fA (Ag b) gv),blT (fA (Ag b) gt),blU c7,blM t8 ks c8,chfB c9,An c10 t10 s10 Ad Ab Au,An [iD ↑(Az c),Aj (nsD (AL c)) (Aa (AL c))] 200 0 Ab Ab Au] ?_;refine zA5 (N:=11) (4<11/\True) rfl hnm (λk hk=>zHc k (by omega)) ?_ ⟨by omega,trivial⟩;refine vk 12 ?_;grind [zHc]
   | some w=>
    rw[e]at hlk hsu;dsimp only[BM]at hlk hsu;have hw:Sm w:=by
     unfold tlk at e;obtain⟨q,q1,q2⟩:=CC.1 e;grind
    have hmu:=zW7 (wtL b.f VT TT x (ch.take i)) w hsi hw;focus
     refine vAu (zA (vT ((i:Int)<↑(Aa ch)) (vKB (vA (vr 2 (ix ↑i ↑(Aa ch) (Ah chC ch≠[])/\2<=Aa (Ak (i*2) (Ah chC ch))) ?_)))));refine vs 17 (AJ (Aw 2 (Ak (i*2) (Ah chC ch)))) (AJ (chC c)) (by simp(disch:=omega) only[hg2]) (ve (Ab=Ab/\Ad=Ad/\2=2/\2<=2) (vA (vr 3 (True/\0<1) (vc hpk (vc hid (veT (zA (vd [0,2,3,4,5,1,6,7] (ve (True/\True/\True/\0<2/\0<9) (vT ((↑(Az c):Int)<↑(Ai b)) (vd [0,1,2,3,5,9,4,6,7,8,10,11,12] (vr 9 (True/\True/\0<2/\0<2/\(0:Int)<=(↑(Az c):Int)/\(↑(Az c):Int)<(↑(Ag b):Int)) ?_))))))))))));refine vo 38 6 (Az c) (vr 1 (0<Aa (Ak (Az c) (AO (blT (fA (Ag b) gt))))) (vsh 39 hgt (vr 1 (zW (A7 (A8 A9 "string" 1 16 Ad 8 8 (AI (AG (A3 #[]))) Ad #[])) (AG (YtjcofbkhoeockaaGreatDoor.bs (idR (zT x (AL c)))))=Ad/\Bo (Ao (λ(p:List Va×Nat)=>kyv (Az p)) (TT (Az c))) (zW (A7 (A8 A9 "string" 1 16 Ad 8 8 (AI (AG (A3 #[]))) Ad #[])))=Ad) (vsh 41 hlk (vc hmu (vrT 1 (vnil (zD (vN (zB rfl (vr 2 (i6 (↑i+1)) (vnil ?_))))))))) ⟨(by kernel_rfl),(by exact zF9 _)⟩)));refine zC ?_;rotate_left
    refine⟨i+1,by omega,by omega,?_⟩;rw[hsu];refine wkn (fr 56 [(0,Ae 4 0),(2,rowV x),(7,natD (wtL (Ai b) VT TT x (Aw i ch)*w)),(9,Ae 11 0),(10,Am (AG (YtjcofbkhoeockaaGreatDoor.bs (idR (zT x (AL c)))))),(12,(q20_ ch)),(13,iD (Aa ch)),(14,iD ↑(i+1)),(30,bD (decide ((↑(Az c):Int)<(↑(Ai b):Int)))),(31,natD (wtL (Ai b) VT TT x (Aw i ch))),(32,Ae 4 0),(33,Ae 4 0),(34,Ae 4 8),(35,Ay 6 0 (Ag b) (Ag b) Ad),(36,Ae 11 0),(37,iD ↑(Az c)),(38,Ae 6 (Az c)),(39,zGv (TT (Az c))),(40,Am (AG (YtjcofbkhoeockaaGreatDoor.bs (idR (zT x (AL c)))))),(41,natD w),(42,natD (wtL (Ai b) VT TT x (Aw i ch)*w)),(54,iD ↑(i+1))]) [blI b,blX,blG b,blE b,blB b,blV (fA (Ag b) gv),blT (fA (Ag b) gt),blU c7,blM t8 ks c8,chfB c9,An c10 t10 s10 Ad Ab Au,An [iD ↑(Az c),Aj (nsD (AL c)) (Aa (AL c))] 200 0 Ab Ab Au] ?_;refine zA5 (N:=11) (4<11/\True) rfl hnm (λk hk=>zHc k (by omega)) ?_ ⟨by omega,trivial⟩;refine vk 12 ?_;grind [zHc]
  have hgt:((fA b.n gv).drop c.1).headD .unk=zHo (VT c.1):=by rw[zD4 n1];exact hv1 (by omega)
  have hps:=zCa (g:=gv) n1;have hin:zT x c.2∈VT c.1:=by
   simp_all [wbad,Bool.true_and]
  unfold wone at hsu;rw[if_neg hf,if_pos hin,A5]at hsu;have hlk:=look_v (VT c.1) (zT x c.2);rw[decide_eq_true hin]at hlk;focus
   refine vAu (zA (vT ((i:Int)<↑(Aa ch)) (vKB (vA (vr 2 (ix ↑i ↑(Aa ch) (Ah chC ch≠[])/\2<=Aa (Ak (i*2) (Ah chC ch))) ?_)))));refine vs 17 (AJ (Aw 2 (Ak (i*2) (Ah chC ch)))) (AJ (chC c)) (by simp(disch:=omega) only[hg2]) (ve (Ab=Ab/\Ad=Ad/\2=2/\2<=2) (vA (vr 3 (True/\0<1) (vc hpk (vc hid (veT (zA (vd [0,2,3,4,5,1,6,7] (ve (True/\True/\True/\0<2/\0<9) (vF ((↑(Az c):Int)<↑(Ai b)) (zA (vd [0,1,2,4,8,3,5,6,7,9,10] ?_))))))))))));refine vr 8 (True/\True/\0<3/\0<2/\(0:Int)<=(↑(Az c):Int)/\(↑(Az c):Int)<(↑(Ag b):Int)) (vo 49 5 (Az c) (vr 1 (0<Aa (Ak (Az c) (AO (blV (fA (Ag b) gv))))) (vsh 50 hgt (vr 1 (zW (A7 (A8 A9 "string" 1 16 Ad 8 8 (AI (AG (A3 #[]))) Ad #[])) (AG (YtjcofbkhoeockaaGreatDoor.bs (idR (zT x (AL c)))))=Ad/\Bo (Ao kyv (VT (Az c))) (zW (A7 (A8 A9 "string" 1 16 Ad 8 8 (AI (AG (A3 #[]))) Ad #[])))=Ad) (vsh 52 hlk (veT (vf (zQ (zD (vN (zB rfl (vr 2 (i6 (↑i+1)) ?_)))))))) ⟨(by kernel_rfl),(by exact zVf _)⟩))));refine vnil (zC ?_);rotate_left
  refine⟨i+1,by omega,by omega,?_⟩;rw[hsu];refine wkn (fr 56 [(0,Ae 4 0),(2,rowV x),(7,natD (wtL (Ai b) VT TT x (Aw i ch))),(12,(q20_ ch)),(13,iD (Aa ch)),(14,iD ↑(i+1)),(53,bD Ab),(54,iD ↑(i+1))]) [blI b,blX,blG b,blE b,blB b,blV (fA (Ag b) gv),blT (fA (Ag b) gt),blU c7,blM t8 ks c8,chfB c9,An c10 t10 s10 Ad Ab Au,An [iD ↑(Az c),Aj (nsD (AL c)) (Aa (AL c))] 200 0 Ab Ab Au] ?_;refine zA5 (N:=11) (4<11/\True) rfl hnm (λk hk=>zHc k (by omega)) ?_ ⟨by omega,trivial⟩;refine vk 12 ?_;grind [zHc]
 obtain rfl:i=m:=by omega
 rcases hend with⟨rfl,rfl,rfl⟩|⟨h3,hgd,rfl,rfl⟩
 ·rw[Bf];focus
   refine vAu<|zA<|vF ((Aa ch:Int)<↑(Aa ch))<|vZ2<|vA ?_;refine veT<|zE ?_;refine zM (True) [natD<|wtL (Ai b) VT TT x ch] (.inr rfl) ?_;rotate_left
  exact⟨by kernel_rfl,by kernel_rfl⟩
 have hg2:=zCz hcc ch i h3;have hle:=zEv hcc ch i h3;have hne:=zDe hcc (by decide) ch (by omega);have hmem:=step i h3;obtain⟨n1,n2,n3⟩:=hc _ hmem;have hv1:=hv _ hmem;generalize ch.getD i Af=c at*;unfold wbad at hgd;simp only[BI,decide_eq_true_eq]at hgd;have hpk:=pick_c x c.2 _ _ rfl rfl (by omega) (by omega) n3;have hpl:(zT x c.2).length=c.2.length:=by simp[zT]
 have hid:=zCr (zT x c.2) c.2.length hpl (by omega) (zP6 x c.2 hxs);have hgt:((fA b.n gv).drop c.1).headD .unk=zHo (VT c.1):=by rw[zD4 n1];exact hv1 hgd.1
 have hps:=zCa (g:=gv) n1;have hlk:=look_v (VT c.1) (zT x c.2);rw[decide_eq_false hgd.2]at hlk;have hf:¬c.1<b.f:=by omega
 focus
  refine vAu (zA (vT ((i:Int)<↑(Aa ch)) (vKB (vA (vr 2 (ix ↑i ↑(Aa ch) (Ah chC ch≠[])/\2<=Aa (Ak (i*2) (Ah chC ch))) ?_)))));refine vs 17 (AJ (Aw 2 (Ak (i*2) (Ah chC ch)))) (AJ (chC c)) (by simp(disch:=omega) only[hg2]) (ve (Ab=Ab/\Ad=Ad/\2=2/\2<=2) (vA (vr 3 (True/\0<1) (vc hpk (vc hid (veT (zA (vd [0,2,3,4,5,1,6,7] (ve (True/\True/\True/\0<2/\0<9) (vF ((↑(Az c):Int)<↑(Ai b)) (zA (vd [0,1,2,4,8,3,5,6,7,9,10] ?_))))))))))));refine vr 8 (True/\True/\0<3/\0<2/\(0:Int)<=(↑(Az c):Int)/\(↑(Az c):Int)<(↑(Ag b):Int)) (vo 49 5 (Az c) (vr 1 (0<Aa (Ak (Az c) (AO (blV (fA (Ag b) gv))))) (vsh 50 hgt (vr 1 (zW (A7 (A8 A9 "string" 1 16 Ad 8 8 (AI (AG (A3 #[]))) Ad #[])) (AG (bs (idR (zT x (AL c)))))=Ad/\Bo (Ao kyv (VT (Az c))) (zW (A7 (A8 A9 "string" 1 16 Ad 8 8 (AI (AG (A3 #[]))) Ad #[])))=Ad) (vsh 52 hlk (veT (vt (vAe (zE (zL (zG ?_))))))) ⟨(by kernel_rfl),(by exact zVf _)⟩))));refine zG (zL (zG ?_));refine zM (True) [nl] (.inr rfl) ?_;rotate_left
 exact⟨by kernel_rfl,by kernel_rfl⟩
end
abbrev zG1(desc:Bool)(t:WT):D:= .agg [bD desc,t.x]
theorem nilx_le:LeD (.val (.pointer AM)) WT.nil.x:=λI w β v h=>by
 simp only[Rel]at h;subst h;simp only[Rel,WT.d];exact⟨rfl,trivial⟩
theorem agg2_le{a b b':D}(h:LeD b b'):LeD (.agg [a,b]) (.agg [a,b']):=λI w β v hr=>by
 simp only[Rel,RelL]at hr⊢;obtain⟨vs,rfl,v1,us,rfl,h1,h2,v2,us',rfl,h3,h4,h5⟩:=hr;exact⟨_,rfl,v1,_,rfl,h1,h2,v2,us',rfl,h3,h _ _ _ _ h4,h5⟩
theorem wnew_c(desc:Bool):Pure AH 41 [bD desc] [] (zG1 desc .nil):=by
 refine Pure.res (x:= .agg [bD desc, .val (.pointer AM)]) ?_ (agg2_le nilx_le);refine zF zBm mixed Tryz.func41 rfl ?_;refine vAu<|vA<|ve (((1=1/\1<=2/\True)/\Ad=Ad)/\Ab=Ab/\Ad=Ad/\2=2/\2<=2)<|zE<|vret (2<=2)<|.inr rfl
theorem zV5(desc:Bool)(t:WT):Pure AH 28 [zG1 desc t] [] (iD (t.sz:Nat)):=by
 refine zF zBm mixed Tryz.func28 rfl ?_;refine vAu<|vA<|vr 2 (True/\0<1)<|vca [Ap<|WT.d t] (by exact zYu _)<|veT<|zE<|vret (True)<|.inr rfl
theorem wtotal_c(desc:Bool)(t:WT)(h:Sm t.tot):Pure AH 87 [zG1 desc t] [] (natD t.tot):=by
 refine zF zBm mixed Tryz.func87 rfl ?_;refine vAu<|vA<|vr 2 (True/\0<1)<|vca [Ap<|WT.d t] (by exact zZz _)<|vc (zL7 _ h)<|veT<|zE<|vret (True)<|.inr rfl
theorem zX7{w:Nat}(h:0<w):0<(dg w).length:=by
 grind [dg]
theorem wPut_c(desc:Bool)(t:WT)(v:Va)(w:Nat)(hv:vok v=Ad)(hw:0<w)(h1:t.sz+1<=1000000000)(h2:Sm (t.tot+w)):Pure AH 42 [zG1 desc t,vaD v,natD w] [] (.tup [zG1 desc (t.put desc v w),iD 0]):=by
 have h3:=zX7 hw;have h4:=(h2.le (Nat.le_add_left w t.tot)).len;refine zF zBm mixed Tryz.func42 rfl ?_;focus
  refine vAu<|zA<|vA<|vr 1 (3<=3)<|vca [AJ [iD<|Ax v,iD<|AD v,Am<|AG<|bs<|AF v]] (by exact zV8 _)<|vrT 1<|vs 10 (bD !vok v) (bD Ab) (by simp(disch:=omega) only[Cm,hv])<|veT<|vf<|zQ ?_;refine vN<|vA<|vrT 1<|vca [natD w] (by exact zL7 _ (h2.le (by omega)))<|veT<|zA<|vAe<|vEf ((Aa (dg w):Int)) ((0:Int))<|zQ<|zC ?_;refine zAw<|zA<|vd [0,3,6,1,2,4,5,7,8,9,10,11]<|vr 8 (True/\True/\0<2/\2<=2/\0<1/\3<=3/\(3=3/\3<=4/\1=1/\4<=4/\True)/\Ad=Ad)<|vc (zZ0 desc t v w t h1 h2)<|ve (((1=1/\1<=2/\1=1/\2<=2/\True)/\Ad=Ad)/\Ab=Ab/\Ad=Ad/\2=2/\2<=2)<|zE<|vret (2<=2)<|.inr rfl
def Tw:Par:=⟨λf=>f==60||f==69||f==61,λ_ _=>AM,λk=>decide (k<6),λ_=>Ab,λ_=>Ab⟩
theorem Tw_ok:zA7 AH Tw:=by intro t n f h;cases h
theorem keep6{st:List Bk}(h:st.length=6):∀k,k<st.length->Tw.keep k=true:=λk hk=>by
 show decide (k<6)=Ad;rw[decide_eq_true_eq];omega
theorem keep6F:∀k,6<=k->Tw.keep k=false:=λk hk=>by
 show decide (k<6)=Ab;rw[decide_eq_false_iff_not];omega
abbrev vB1(v:Va):Bk:=⟨vaC v,64,0,Ab,Ab, .plain⟩
abbrev nB1(d:D):Bk:=⟨[d],44,0,Ab,Ab, .plain⟩
abbrev iB1(i:Int):Bk:=⟨[iD i],3,0,Ab,Ab, .plain⟩
abbrev tB1(desc:Bool)(t:WT)(fz:Bool):Bk:=⟨[bD desc,t.x],57,0,Ab,fz, .plain⟩
theorem wat1_c(desc:Bool)(v:Va)(w:Nat)(l r:WT)(i:Nat)(h:(WT.node v w l r).Ok)(hi:i<(WT.node v w l r).sz)(b0 b2 b5:Bk)(u:Va)(nd:D):
  Acts AH 69 [zL6 v w l r, .own 1 0, .own 3 0, .own 4 0] [b0,iB1 i,b2,vB1 u,nB1 nd,b5] []
   (iD (if i<l.sz then-1 else if i>l.sz then 1 else 0)) [b0,iB1 (if i>l.sz then(i-(l.sz+1):Nat)else i),b2,if i=l.sz then vB1 v else vB1 u,if i=l.sz then nB1 (natD w)else nB1 nd,b5]:=by
 have h1:=h.1;have h2:=h.2;simp only[WT.sz,WT.tot]at h1 h2 hi;rcases Nat.lt_trichotomy i l.sz with hlt|hlt|hlt
 ·rw[if_pos hlt,if_neg (by omega),if_neg (by omega),if_neg (by omega)];refine zN Tw_ok mixed Tryz.func69 rfl (keep6 rfl) ?_;focus
   refine vAu<|vA<|vr 4 (True/\0<5)<|vca [Ap<|WT.d l] (by exact zYu _)<|veT<|zA<|vA<|ve (0<1)<|vT ((i:Int)<↑(WT.sz l)) ?_;refine vAe<|zE<|zG ?_;refine zM (True) [q0_] (.inr rfl) ?_;rotate_left
  exact⟨by kernel_rfl,by kernel_rfl⟩
 ·rw[if_neg (by omega),if_neg (by omega),if_neg (by omega),if_pos hlt,if_pos hlt];refine zN Tw_ok mixed Tryz.func69 rfl (keep6 rfl) ?_;focus
   refine vAu<|vA<|vr 4 (True/\0<5)<|vca [Ap<|WT.d l] (by exact zYu _)<|veT<|zA<|vA<|ve (0<1)<|vF ((i:Int)<↑(WT.sz l)) ?_;refine vK<|zA<|vA<|ve (0<1)<|vF ((i:Int)>(↑(WT.sz l):Int))<|vK<|zA<|vd [0,1,2,3,5,6,7,8,4,9,10,11,12]<|vr 10 (True/\True/\True/\True/\3<=9/\0<6) ?_;refine vca [natD w] (by exact zL7 _ (h2.le (by omega)))<|ve ((A2 (vB1 u)=Ab/\Ad=Ad/\3=3/\3<=3)/\A2 (nB1 nd)=Ab/\Ad=Ad/\1=1/\1<=1)<|vAe<|zE ?_;refine zM (True) [q2_] (.inr rfl) ?_;rotate_left
  exact⟨by kernel_rfl,by kernel_rfl⟩
 rw[if_neg (by omega),if_pos hlt,if_pos hlt,if_neg (by omega),if_neg (by omega)];have he:((i:Int)-((l.sz:Int)+1))=((i-(l.sz+1):Nat):Int):=by omega
 refine zN Tw_ok mixed Tryz.func69 rfl (keep6 rfl) ?_;focus
  refine vAu<|vA<|vr 4 (True/\0<5)<|vca [Ap<|WT.d l] (by exact zYu _)<|veT<|zA<|vA<|ve (0<1)<|vF ((i:Int)<↑(WT.sz l)) ?_;refine vK<|zA<|vA<|ve (0<1)<|vT ((i:Int)>(↑(WT.sz l):Int))<|vA<|vr 4 (0<1/\i6 (↑(WT.sz l)+1)/\i6 ((i:Int)-((↑(WT.sz l):Int)+(1:Int))))<|vs 21 (iD ((i:Int)-((↑(WT.sz l):Int)+(1:Int)))) (iD (↑(i-(WT.sz l+1)):Int)) (by simp(disch:=omega) only[he])<|ve (A2 (iB1 (i:Int))=Ab/\Ad=Ad/\1=1/\1<=1)<|zA ?_;refine zB rfl<|veT<|zE<|zG ?_;refine zM (True) [q1_] (.inr rfl) ?_;rotate_left
 exact⟨by kernel_rfl,by kernel_rfl⟩
def WT.go:WT->Nat->Nat×Nat×(Va×Nat)
 | .nil,i=>(0,i,Af)
 | .node v w l r,i=>if i<l.sz then((l.go i).1+1,(l.go i).2)else if i>l.sz then((r.go (i-(l.sz+1))).1+1,(r.go (i-(l.sz+1))).2)else(1,i,(v,w))
theorem WT.go_lst:∀(t:WT)(i:Nat),i<t.sz->t.lst[i]?=AI (t.go i).2.2
 | .nil,i,h=>by simp[WT.sz]at h
 | .node v w l r,i,h=>by
  simp only[WT.sz]at h;simp only[WT.go,WT.lst];have hl:=WT.lst_length l;split
  ·rename_i h1;rw[CD (by omega)];exact WT.go_lst l i h1
  rename_i h1;rw[Co (by omega),hl];split
  ·rename_i h2;rw[show i-l.sz=(i-(l.sz+1))+1 by omega,List.getElem?_cons_succ];exact WT.go_lst r _ (by omega)
  grind
theorem WT.go_le:∀(t:WT)(i:Nat),(t.go i).1<=t.ht
 | .nil,i=>AY _
 | .node v w l r,i=>by
  have h1:=WT.go_le l i;have h2:=WT.go_le r (i-(l.sz+1));simp only[WT.go,WT.ht];grind
abbrev q21_(x0:Bool)(x1:WT):=An [bD x0,Ap (WT.d x1)] 57 0 Ab Ab Au
set_option maxHeartbeats 1000000 in
theorem zZy(desc:Bool)(t:WT)(i:Nat)(h:t.Ok)(hi:i<t.sz)(b0 b2:Bk)(u:Va)(nd:D):
  Acts AH 60 [zG1 desc t, .clo (.func 69) [] [.own 1 0, .own 3 0, .own 4 0]] [b0,iB1 i,b2,vB1 u,nB1 nd] []
   (iD (t.go i).1) [b0,iB1 (t.go i).2.1,b2,vB1 (t.go i).2.2.1,nB1 (natD (t.go i).2.2.2),tB1 desc t Ab]:=by
 have hg:=WT.go_le t i;have hz:=WT.ht_le_sz t;have hs:=h.1;refine zN Tw_ok mixed Tryz.func60 rfl (by intro k hk;show decide (k<6)=Ad;simp at hk⊢;omega) ?_;focus
  refine vAu<|vAe<|zA<|vA<|ve (True/\0<1)<|zH ?_;rotate_left
 refine zS7 (λ(cur:WT)(j:Nat)(n:Nat)(x:Va)(y:D)=>fr 33 [(1,AZ (Fn.func (69:FuncId)) [] [Ae 1 0,Ae 3 0,Ae 4 0]),(5,iD n),(6,WT.d cur)]) (λcur (j:Nat)(n:Nat)(x:Va)(y:D)=>[b0,iB1 j,b2,vB1 x,nB1 y,tB1 desc t Ab]) (λcur j n x y=>cur.sz) (λ(cur:WT)(j n:Nat)(x:Va)(y:D)=>n+(cur.go j).1=(t.go i).1/\(cur.go j).2=(t.go i).2/\j<cur.sz/\cur.Ok) t i 0 u nd ?_ ?_ ?_
 ·grind
 ·refine wkn (fr 33 [(1,AZ (Fn.func (69:FuncId)) [] [Ae 1 0,Ae 3 0,Ae 4 0]),(4,iD 0),(5,iD 0),(6,Ap (WT.d t))]) [b0,iB1 (↑i:Int),b2,vB1 u,nB1 nd,An [bD desc,Ap (WT.d t)] 57 0 Ab Ab Au] (zC8 [(1,1),(5,1),(6,4)] (AZ (Fn.func (69:FuncId)) [] [Ae 1 0,Ae 3 0,Ae 4 0]=AZ (Fn.func (69:FuncId)) [] [Ae 1 0,Ae 3 0,Ae 4 0]/\iD 0=iD (↑(0:Nat):Int)/\WT.d t=WT.d t) 6 [] ⟨rfl,(by kernel_rfl),rfl⟩ ?_);exact keep6F
 rintro cur j n x y ⟨k1,k2,k3,k4⟩;cases cur with
 |nil=>simp[WT.sz]at k3
 | node v w l r=>
  obtain⟨o1,o2,o3⟩:=k4.node;have st:=wat1_c desc v w l r j k4 k3 b0 b2 (tB1 desc t Ab) x y;simp only[WT.sz]at k3;simp only[WT.go]at k1 k2;rw[WT.d_node];by_cases c1:j<l.sz
  ·rw[if_pos c1,if_neg (by omega),if_neg (by omega),if_neg (by omega)]at st;rw[if_pos c1]at k1 k2;focus
    refine zA<|vAu<|vt<|vK<|zH<|vA<|ve (i6 (↑n+1))<|zA ?_;refine zB rfl<|vrT 2<|vnt [b0,iB1 (j:Int),b2,vB1 x,nB1 y,tB1 desc t Ab] ?_;refine zY [] [] [AK [iD<|Ax v,iD<|AD v,Am<|AG<|bs<|AF v,natD w,Ap<|WT.d l,Ap<|WT.d r,iD (↑(max (WT.ht l) (WT.ht r)+1):Int),iD ↑(WT.sz l+1+WT.sz r),natD (WT.tot l+w+WT.tot r)],Ae 1 0,Ae 3 0,Ae 4 0] [AK [iD<|Ax v,iD<|AD v,Am<|AG<|bs<|AF v,natD w,Ap<|WT.d l,Ap<|WT.d r,iD (↑(max (WT.ht l) (WT.ht r)+1):Int),iD ↑(WT.sz l+1+WT.sz r),natD (WT.tot l+w+WT.tot r)],Ae 1 0,Ae 3 0,Ae 4 0] (A1 _) (by exact st) ?_;refine v0s<|veT<|zH<|vAe<|vt<|zB rfl<|vr 5 (True/\0<5)<|vnil<|zD<|zD<|zC ?_;rotate_left
   refine⟨l,j,n+1,x,y,⟨by simp only at k1;omega,k2,c1,o1⟩,by simp only[WT.sz];omega,?_⟩;refine wkn (fr 33 [(1,AZ (Fn.func (69:FuncId)) [] [Ae 1 0,Ae 3 0,Ae 4 0]),(5,iD (↑n+1)),(6,Ap (WT.d l)),(7,iD (-1)),(18,bD Ad),(21,AK [iD (Ax v),iD (AD v),Am (AG (bs (AF v))),natD w,Ap (WT.d l),Ap (WT.d r),iD (↑(max (WT.ht l) (WT.ht r)+1):Int),iD ↑(WT.sz l+1+WT.sz r),natD (WT.tot l+w+WT.tot r)]),(22,AK [iD (Ax v),iD (AD v),Am (AG (bs (AF v))),natD w,Ap (WT.d l),Ap (WT.d r),iD (↑(max (WT.ht l) (WT.ht r)+1):Int),iD ↑(WT.sz l+1+WT.sz r),natD (WT.tot l+w+WT.tot r)]),(23,AK [Ap (WT.d l),Ap (WT.d r),iD (↑(max (WT.ht l) (WT.ht r)+1):Int),iD ↑(WT.sz l+1+WT.sz r),natD (WT.tot l+w+WT.tot r)]),(24,Ap (WT.d l))]) [b0,An [iD ↑j] 3 0 Ab Ab Au,b2,An [iD (Ax x),iD (AD x),Am (AG (bs (AF x)))] 64 0 Ab Ab Au,An [y] 44 0 Ab Ab Au,(q21_ desc t)] (zC8 [(1,1),(5,1),(6,4)] (AZ (Fn.func (69:FuncId)) [] [Ae 1 0,Ae 3 0,Ae 4 0]=AZ (Fn.func (69:FuncId)) [] [Ae 1 0,Ae 3 0,Ae 4 0]/\iD (↑n+1)=iD ↑(n+1)/\WT.d l=WT.d l) 6 [] ⟨rfl,(by kernel_rfl),rfl⟩ ?_);all_goals exact keep6F
  by_cases c2:j>l.sz
  ·rw[if_neg c1,if_pos c2,if_pos c2,if_neg (by omega),if_neg (by omega)]at st;rw[if_neg c1,if_pos c2]at k1 k2;focus
    refine zA<|vAu<|vt<|vK<|zH<|vA<|ve (i6 (↑n+1))<|zA ?_;refine zB rfl<|vrT 2<|vnt [b0,iB1 (j:Int),b2,vB1 x,nB1 y,tB1 desc t Ab] ?_;refine zY [] [] [AK [iD<|Ax v,iD<|AD v,Am<|AG<|bs<|AF v,natD w,Ap<|WT.d l,Ap<|WT.d r,iD (↑(max (WT.ht l) (WT.ht r)+1):Int),iD ↑(WT.sz l+1+WT.sz r),natD (WT.tot l+w+WT.tot r)],Ae 1 0,Ae 3 0,Ae 4 0] [AK [iD<|Ax v,iD<|AD v,Am<|AG<|bs<|AF v,natD w,Ap<|WT.d l,Ap<|WT.d r,iD (↑(max (WT.ht l) (WT.ht r)+1):Int),iD ↑(WT.sz l+1+WT.sz r),natD (WT.tot l+w+WT.tot r)],Ae 1 0,Ae 3 0,Ae 4 0] (A1 _) (by exact st) ?_;refine v0s<|veT<|zH<|vAe<|vf<|vAe<|vt<|zB rfl<|vr 5 (True/\0<4)<|vnil ?_;refine zD<|zD<|zC ?_;rotate_left
   refine⟨r,j-(l.sz+1),n+1,x,y,⟨by simp only at k1;omega,k2,by omega,o2⟩,by simp only[WT.sz];omega,?_⟩;refine wkn (fr 33 [(1,AZ (Fn.func (69:FuncId)) [] [Ae 1 0,Ae 3 0,Ae 4 0]),(5,iD (↑n+1)),(6,Ap (WT.d r)),(25,bD Ad),(28,AK [iD (Ax v),iD (AD v),Am (AG (bs (AF v))),natD w,Ap (WT.d l),Ap (WT.d r),iD (↑(max (WT.ht l) (WT.ht r)+1):Int),iD ↑(WT.sz l+1+WT.sz r),natD (WT.tot l+w+WT.tot r)]),(29,AK [iD (Ax v),iD (AD v),Am (AG (bs (AF v))),natD w,Ap (WT.d l),Ap (WT.d r),iD (↑(max (WT.ht l) (WT.ht r)+1):Int),iD ↑(WT.sz l+1+WT.sz r),natD (WT.tot l+w+WT.tot r)]),(30,AK [Ap (WT.d r),iD (↑(max (WT.ht l) (WT.ht r)+1):Int),iD ↑(WT.sz l+1+WT.sz r),natD (WT.tot l+w+WT.tot r)]),(31,Ap (WT.d r))]) [b0,An [iD (↑(j-(WT.sz l+1)):Int)] 3 0 Ab Ab Au,b2,An [iD (Ax x),iD (AD x),Am (AG (bs (AF x)))] 64 0 Ab Ab Au,An [y] 44 0 Ab Ab Au,(q21_ desc t)] (zC8 [(1,1),(5,1),(6,4)] (AZ (Fn.func (69:FuncId)) [] [Ae 1 0,Ae 3 0,Ae 4 0]=AZ (Fn.func (69:FuncId)) [] [Ae 1 0,Ae 3 0,Ae 4 0]/\iD (↑n+1)=iD ↑(n+1)/\WT.d r=WT.d r) 6 [] ⟨rfl,(by kernel_rfl),rfl⟩ ?_);all_goals exact keep6F
  rw[if_neg c1,if_neg c2,if_neg c2,if_pos (by omega),if_pos (by omega)]at st;rw[if_neg c1,if_neg c2]at k1 k2;simp only at k1;focus
   refine zA<|vAu<|vt<|vK<|zH<|vA<|ve (i6 (↑n+1))<|zA ?_;refine zB rfl<|vrT 2<|vnt [b0,iB1 (j:Int),b2,vB1 x,nB1 y,tB1 desc t Ab] ?_;refine zY [] [] [AK [iD<|Ax v,iD<|AD v,Am<|AG<|bs<|AF v,natD w,Ap<|WT.d l,Ap<|WT.d r,iD (↑(max (WT.ht l) (WT.ht r)+1):Int),iD ↑(WT.sz l+1+WT.sz r),natD (WT.tot l+w+WT.tot r)],Ae 1 0,Ae 3 0,Ae 4 0] [AK [iD<|Ax v,iD<|AD v,Am<|AG<|bs<|AF v,natD w,Ap<|WT.d l,Ap<|WT.d r,iD (↑(max (WT.ht l) (WT.ht r)+1):Int),iD ↑(WT.sz l+1+WT.sz r),natD (WT.tot l+w+WT.tot r)],Ae 1 0,Ae 3 0,Ae 4 0] (A1 _) (by exact st) ?_;refine v0s<|veT<|zH<|vAe<|vf<|vAe<|vf<|vAe ?_;refine zE<|zL<|zL<|zG<|zL<|zG ?_;refine zM (True) [Am<|AC Bi ((n:Int)+(1:Int))] (.inr rfl) ?_;rotate_left
  rw[<-k1,<-k2];exact⟨by kernel_rfl,by kernel_rfl⟩
abbrev q22_:=An [nl] 44 0 Ab Ab Au
abbrev q23_(x0:Bool)(x1:WT):=AJ [bD x0,Ap (WT.d x1)]
set_option maxHeartbeats 1000000 in
theorem wat_c(desc:Bool)(t:WT)(i:Nat)(h:t.Ok)(hi:i<t.sz):Pure AH 29 [zG1 desc t,iD i] [] (.tup [vaD (t.go i).2.2.1,natD (t.go i).2.2.2,bD Ad]):=by
 have hs:=h.1;have hw:=zZy desc t i h hi (tB1 desc t Ab) (vB1 ⟨0,0,[]⟩) ⟨0,0,[]⟩ nl;refine zF Tw_ok mixed Tryz.func29 rfl ?_;focus
  refine vAu<|zA<|zA<|vd [0,1,2,3,4,5,6,7]<|vw 5 [] [(2,Ab)] (0<1/\decide ((i:Int)<0)=Ab/\0<1/\2<=2)<|vc (zV5 desc t)<|veT<|vF ((i:Int)>=(↑(WT.sz t):Int))<|vK ?_;refine vAe<|vAe<|vA<|vr 2 (2<=2)<|vnt [(q21_ desc t),An [iD i] 3 0 Ab Ab Au,q6_,q6_,q22_] ?_;refine zY [] [] [(q23_ desc t),AZ (Fn.func 69) [] [Ae 1 0,Ae 3 0,Ae 4 0]] [(q23_ desc t),AZ (Fn.func 69) [] [Ae 1 0,Ae 3 0,Ae 4 0]] (A1 _) (by exact hw) ?_;refine v0s<|veT<|zA ?_;refine zA6 [0,1] [(2,[(1,100000)],[3,4])] rfl ?_;refine vr 2 (3<=3/\0<1)<|vnil<|zBz rfl rfl<|vr 1 (Ab=Ab/\Ad=Ad/\3=3/\3<=3)<|vnil ?_;refine zEd (C:=0<1/\AI (natD (AL (AL (AL (WT.go t i)))))=AI (Bm [natD (AL (AL (AL (WT.go t i))))] Uk)) ⟨(by omega),(by kernel_rfl)⟩ ?_;refine vrT 2<|vnil<|zBu<|vN<|zE<|vret (3<=3)<|.inr rfl
def WT.look(desc:Bool)(u:Va):WT->Option Nat
 | .nil=>AM
 | .node v w l r=>if WT.cmp desc u v<0 then l.look desc u else if WT.cmp desc u v>0 then r.look desc u else AI w
def WT.seen(desc:Bool)(u:Va):WT->Nat
 | .nil=>0
 | .node v w l r=>if WT.cmp desc u v<0 then l.seen desc u+1 else if WT.cmp desc u v>0 then r.seen desc u+1 else 1
theorem WT.seen_le(desc:Bool)(u:Va):∀(t:WT),t.seen desc u<=t.ht
 | .nil=>AY _
 | .node v w l r=>by
  have h1:=WT.seen_le desc u l;have h2:=WT.seen_le desc u r;simp only[WT.seen,WT.ht];grind
abbrev bB1(b:Bool):Bk:=⟨[bD b],4,0,Ab,Ab, .plain⟩
abbrev optD(o:Option Nat):D:=match o with
 |some w=>natD w
 |none=>nl
theorem WT.cmp_vals(desc:Bool)(a b:Va):WT.cmp desc a b=-1\/WT.cmp desc a b=0\/WT.cmp desc a b=1:=by
 unfold WT.cmp;split<;>exact(zA8 _ _).1
def Tg:Par:=⟨λf=>f==60||f==61,λ_ _=>AM,λk=>decide (k<5),λ_=>Ab,λ_=>Ab⟩
theorem Tg_ok:zA7 AH Tg:=by intro t n f h;cases h
theorem keep5{st:List Bk}(h:st.length<=5):∀k,k<st.length->Tg.keep k=true:=λk hk=>by
 show decide (k<5)=Ad;rw[decide_eq_true_eq];omega
theorem keep5F:∀k,5<=k->Tg.keep k=false:=λk hk=>by
 show decide (k<5)=Ab;rw[decide_eq_false_iff_not];omega
theorem wget1_c(desc:Bool)(t:WT)(u v:Va)(w:Nat)(l r:WT)(hw:Sm w)(b4:Bk):
  Acts AH 61 [zL6 v w l r, .own 0 0, .own 1 0, .own 2 0, .own 3 0] [tB1 desc t Ab,vB1 u,nB1 nl,bB1 Ab,b4] []
   (iD (WT.cmp desc u v)) [tB1 desc t Ab,vB1 u,if WT.cmp desc u v=0 then nB1 (natD w)else nB1 nl,bB1 (decide (WT.cmp desc u v=0)),b4]:=by
 refine zN Tg_ok mixed Tryz.func61 rfl (keep5 (by simp)) ?_;focus
  refine vAu<|zA<|vd [2,3,4,5,0,1,6,7,8]<|vr 7 (True/\True/\2<=2/\3<=3/\3<=9)<|vc (zNj desc t u v)<|veT<|zA<|vAe ?_;refine zAa (t:=WT.cmp desc u v !=(0:Int)) (by kernel_rfl) (λhc=>?_)<|λhc=>?_;simp only[bne_iff_ne]at hc;refine vAe<|zE<|zG ?_;refine zM (True) [Am<|AC Bi<|WT.cmp desc u v] (.inr rfl) ?_;rotate_left;simp only[bne_eq_false_iff_eq]at hc;refine vK<|vA<|vr 5 (True/\True/\0<6)<|vc (zL7 _ hw)<|ve ((Ab=Ab/\Ad=Ad/\1=1/\1<=1)/\Ab=Ab/\Ad=Ad/\1=1/\1<=1)<|vAe<|zE ?_;refine zM (True) [q2_] (.inr rfl) ?_;rotate_left
 ·have h0:¬WT.cmp desc u v=0:=by assumption
  rw[if_neg h0,decide_eq_false h0];exact⟨by kernel_rfl,by kernel_rfl⟩
 have h0:WT.cmp desc u v=0:=by assumption
 rw[if_pos h0,decide_eq_true h0,h0];exact⟨by kernel_rfl,by kernel_rfl⟩
abbrev q24_:=An [bD Ab] 4 0 Ab Ab Au
set_option maxHeartbeats 1000000 in
theorem zYt(desc:Bool)(t:WT)(u:Va)(h:t.Ok):
  Acts AH 60 [zG1 desc t, .clo (.func 61) [] [.own 0 0, .own 1 0, .own 2 0, .own 3 0]] [tB1 desc t Ab,vB1 u,nB1 nl,bB1 Ab] []
   (iD (t.seen desc u)) [tB1 desc t Ab,vB1 u,nB1 (optD (t.look desc u)),bB1 (t.look desc u).isSome,tB1 desc t Ab]:=by
 have hg:=WT.seen_le desc u t;have hz:=WT.ht_le_sz t;have hs:=h.1;refine zN Tg_ok mixed Tryz.func60 rfl (keep5 (by simp)) ?_;focus
  refine vAu<|vAe<|zA<|vA<|ve (True/\0<1)<|zH ?_;rotate_left
 refine zGd (λ(cur:WT)(n:Nat)=>fr 33 [(1,AZ (Fn.func (61:FuncId)) [] [Ae 0 0,Ae 1 0,Ae 2 0,Ae 3 0]),(5,iD n),(6,WT.d cur)]) (λcur (n:Nat)=>[tB1 desc t Ab,vB1 u,nB1 nl,bB1 Ab,tB1 desc t Ab]) (λcur n=>cur.sz) (λ(cur:WT)(n:Nat)=>n+cur.seen desc u=t.seen desc u/\cur.look desc u=t.look desc u/\cur.Ok) t 0 ?_ ?_ ?_
 ·grind
 ·refine wkn (fr 33 [(1,AZ (Fn.func (61:FuncId)) [] [Ae 0 0,Ae 1 0,Ae 2 0,Ae 3 0]),(4,iD 0),(5,iD 0),(6,Ap (WT.d t))]) [tB1 desc t Ab,vB1 u,nB1 nl,bB1 Ab,An [bD desc,Ap (WT.d t)] 57 0 Ab Ab Au] (zC8 [(1,1),(5,1),(6,4)] (AZ (Fn.func (61:FuncId)) [] [Ae 0 0,Ae 1 0,Ae 2 0,Ae 3 0]=AZ (Fn.func (61:FuncId)) [] [Ae 0 0,Ae 1 0,Ae 2 0,Ae 3 0]/\iD 0=iD (↑(0:Nat):Int)/\WT.d t=WT.d t) 5 [] ⟨rfl,(by kernel_rfl),rfl⟩ ?_);exact keep5F
 rintro cur n ⟨k1,k2,k4⟩;cases cur with
 | nil=>
  simp only[WT.seen,WT.look]at k1 k2;rw[<-k2,<-k1];focus
   refine zA<|vAu<|vf<|vZ2<|vA ?_;refine veT<|zE ?_;refine zM (True) [Am<|AC Bi (n:Int)] (.inr rfl) ?_;rotate_left
  exact⟨by kernel_rfl,by kernel_rfl⟩
 | node v w l r=>
  obtain⟨o1,o2,o3⟩:=k4.node;have st:=wget1_c desc t u v w l r o3 (tB1 desc t Ab);have hc:=WT.cmp_vals desc u v;simp only[WT.seen,WT.look]at k1 k2;rw[WT.d_node];by_cases c1:WT.cmp desc u v<0
  ·rw[if_neg (by omega),decide_eq_false (by omega)]at st;rw[if_pos c1]at k1 k2;focus
    refine zA<|vAu<|vt<|vK<|zH<|vA<|ve (i6 (↑n+1))<|zA ?_;refine zB rfl<|vrT 2<|vnt [tB1 desc t Ab,vB1 u,nB1 nl,bB1 Ab,tB1 desc t Ab] ?_;refine zY [] [] [AK [iD<|Ax v,iD<|AD v,Am<|AG<|bs<|AF v,natD w,Ap<|WT.d l,Ap<|WT.d r,iD (↑(max (WT.ht l) (WT.ht r)+1):Int),iD ↑(WT.sz l+1+WT.sz r),natD (WT.tot l+w+WT.tot r)],Ae 0 0,Ae 1 0,Ae 2 0,Ae 3 0] [AK [iD<|Ax v,iD<|AD v,Am<|AG<|bs<|AF v,natD w,Ap<|WT.d l,Ap<|WT.d r,iD (↑(max (WT.ht l) (WT.ht r)+1):Int),iD ↑(WT.sz l+1+WT.sz r),natD (WT.tot l+w+WT.tot r)],Ae 0 0,Ae 1 0,Ae 2 0,Ae 3 0] (A1 _) (by exact st) ?_;refine v0s<|veT<|zH<|vAe<|vT (WT.cmp desc u v<0)<|zB rfl<|vr 5 (True/\0<5)<|vnil<|zD<|zD<|zC ?_;rotate_left
   refine⟨l,n+1,⟨by omega,k2,o1⟩,by simp only[WT.sz];omega,?_⟩;refine wkn (fr 33 [(1,AZ (Fn.func (61:FuncId)) [] [Ae 0 0,Ae 1 0,Ae 2 0,Ae 3 0]),(5,iD (↑n+1)),(6,Ap (WT.d l)),(7,iD (WT.cmp desc u v)),(18,bD (decide (WT.cmp desc u v<0))),(21,AK [iD (Ax v),iD (AD v),Am (AG (bs (AF v))),natD w,Ap (WT.d l),Ap (WT.d r),iD (↑(max (WT.ht l) (WT.ht r)+1):Int),iD ↑(WT.sz l+1+WT.sz r),natD (WT.tot l+w+WT.tot r)]),(22,AK [iD (Ax v),iD (AD v),Am (AG (bs (AF v))),natD w,Ap (WT.d l),Ap (WT.d r),iD (↑(max (WT.ht l) (WT.ht r)+1):Int),iD ↑(WT.sz l+1+WT.sz r),natD (WT.tot l+w+WT.tot r)]),(23,AK [Ap (WT.d l),Ap (WT.d r),iD (↑(max (WT.ht l) (WT.ht r)+1):Int),iD ↑(WT.sz l+1+WT.sz r),natD (WT.tot l+w+WT.tot r)]),(24,Ap (WT.d l))]) [(q21_ desc t),An [iD (Ax u),iD (AD u),Am (AG (bs (AF u)))] 64 0 Ab Ab Au,q22_,q24_,(q21_ desc t)] (zC8 [(1,1),(5,1),(6,4)] (AZ (Fn.func (61:FuncId)) [] [Ae 0 0,Ae 1 0,Ae 2 0,Ae 3 0]=AZ (Fn.func (61:FuncId)) [] [Ae 0 0,Ae 1 0,Ae 2 0,Ae 3 0]/\iD (↑n+1)=iD ↑(n+1)/\WT.d l=WT.d l) 5 [] ⟨rfl,(by kernel_rfl),rfl⟩ ?_);all_goals exact keep5F
  by_cases c2:WT.cmp desc u v>0
  ·rw[if_neg (by omega),decide_eq_false (by omega)]at st;rw[if_neg c1,if_pos c2]at k1 k2;focus
    refine zA<|vAu<|vt<|vK<|zH<|vA<|ve (i6 (↑n+1))<|zA ?_;refine zB rfl<|vrT 2<|vnt [tB1 desc t Ab,vB1 u,nB1 nl,bB1 Ab,tB1 desc t Ab] ?_;refine zY [] [] [AK [iD<|Ax v,iD<|AD v,Am<|AG<|bs<|AF v,natD w,Ap<|WT.d l,Ap<|WT.d r,iD (↑(max (WT.ht l) (WT.ht r)+1):Int),iD ↑(WT.sz l+1+WT.sz r),natD (WT.tot l+w+WT.tot r)],Ae 0 0,Ae 1 0,Ae 2 0,Ae 3 0] [AK [iD<|Ax v,iD<|AD v,Am<|AG<|bs<|AF v,natD w,Ap<|WT.d l,Ap<|WT.d r,iD (↑(max (WT.ht l) (WT.ht r)+1):Int),iD ↑(WT.sz l+1+WT.sz r),natD (WT.tot l+w+WT.tot r)],Ae 0 0,Ae 1 0,Ae 2 0,Ae 3 0] (A1 _) (by exact st) ?_;refine v0s<|veT<|zH<|vAe<|vF (WT.cmp desc u v<0)<|vAe<|vT (WT.cmp desc u v>(0:Int))<|zB rfl<|vr 5 (True/\0<4)<|vnil ?_;refine zD<|zD<|zC ?_;rotate_left
   refine⟨r,n+1,⟨by omega,k2,o2⟩,by simp only[WT.sz];omega,?_⟩;refine wkn (fr 33 [(1,AZ (Fn.func (61:FuncId)) [] [Ae 0 0,Ae 1 0,Ae 2 0,Ae 3 0]),(5,iD (↑n+1)),(6,Ap (WT.d r)),(25,bD (decide (WT.cmp desc u v>(0:Int)))),(28,AK [iD (Ax v),iD (AD v),Am (AG (bs (AF v))),natD w,Ap (WT.d l),Ap (WT.d r),iD (↑(max (WT.ht l) (WT.ht r)+1):Int),iD ↑(WT.sz l+1+WT.sz r),natD (WT.tot l+w+WT.tot r)]),(29,AK [iD (Ax v),iD (AD v),Am (AG (bs (AF v))),natD w,Ap (WT.d l),Ap (WT.d r),iD (↑(max (WT.ht l) (WT.ht r)+1):Int),iD ↑(WT.sz l+1+WT.sz r),natD (WT.tot l+w+WT.tot r)]),(30,AK [Ap (WT.d r),iD (↑(max (WT.ht l) (WT.ht r)+1):Int),iD ↑(WT.sz l+1+WT.sz r),natD (WT.tot l+w+WT.tot r)]),(31,Ap (WT.d r))]) [(q21_ desc t),An [iD (Ax u),iD (AD u),Am (AG (bs (AF u)))] 64 0 Ab Ab Au,q22_,q24_,(q21_ desc t)] (zC8 [(1,1),(5,1),(6,4)] (AZ (Fn.func (61:FuncId)) [] [Ae 0 0,Ae 1 0,Ae 2 0,Ae 3 0]=AZ (Fn.func (61:FuncId)) [] [Ae 0 0,Ae 1 0,Ae 2 0,Ae 3 0]/\iD (↑n+1)=iD ↑(n+1)/\WT.d r=WT.d r) 5 [] ⟨rfl,(by kernel_rfl),rfl⟩ ?_);all_goals exact keep5F
  rw[if_pos (by omega),decide_eq_true (by omega)]at st;rw[if_neg c1,if_neg c2]at k1 k2;focus
   refine zA<|vAu<|vt<|vK<|zH<|vA<|ve (i6 (↑n+1))<|zA ?_;refine zB rfl<|vrT 2<|vnt [tB1 desc t Ab,vB1 u,nB1 nl,bB1 Ab,tB1 desc t Ab] ?_;refine zY [] [] [AK [iD<|Ax v,iD<|AD v,Am<|AG<|bs<|AF v,natD w,Ap<|WT.d l,Ap<|WT.d r,iD (↑(max (WT.ht l) (WT.ht r)+1):Int),iD ↑(WT.sz l+1+WT.sz r),natD (WT.tot l+w+WT.tot r)],Ae 0 0,Ae 1 0,Ae 2 0,Ae 3 0] [AK [iD<|Ax v,iD<|AD v,Am<|AG<|bs<|AF v,natD w,Ap<|WT.d l,Ap<|WT.d r,iD (↑(max (WT.ht l) (WT.ht r)+1):Int),iD ↑(WT.sz l+1+WT.sz r),natD (WT.tot l+w+WT.tot r)],Ae 0 0,Ae 1 0,Ae 2 0,Ae 3 0] (A1 _) (by exact st) ?_;refine v0s<|veT<|zH<|vAe<|vF (WT.cmp desc u v<0)<|vAe<|vF (WT.cmp desc u v>(0:Int))<|vAe ?_;refine zE<|zL<|zL<|zG<|zL<|zG ?_;refine zM (True) [Am<|AC Bi ((n:Int)+(1:Int))] (.inr rfl) ?_;rotate_left
  rw[<-k2,<-k1];exact⟨by kernel_rfl,by kernel_rfl⟩
theorem wget_c(desc:Bool)(t:WT)(u:Va)(h:t.Ok):Pure AH 23 [zG1 desc t,vaD u] [] (.tup [natD ((t.look desc u).getD 0),bD (t.look desc u).isSome]):=by
 have hw:=zYt desc t u h;rcases hl:t.look desc u with _|w
 ·rw[hl]at hw;refine zF Tg_ok mixed Tryz.func23 rfl ?_;focus
   refine vAu<|vAe<|vA<|ve (Ab=Ab/\Ad=Ad/\1=1/\1<=1)<|vA<|vr 2 (2<=2)<|vnt [(q21_ desc t),An [iD<|Ax u,iD<|AD u,Am<|AG<|bs<|AF u] 64 0 Ab Ab Au,q22_,q24_] ?_;refine zY [] [] [(q23_ desc t),AZ (Fn.func 61) [] [Ae 0 0,Ae 1 0,Ae 2 0,Ae 3 0]] [(q23_ desc t),AZ (Fn.func 61) [] [Ae 0 0,Ae 1 0,Ae 2 0,Ae 3 0]] (A1 _) (by exact hw) ?_;refine v0s<|veT<|zA<|vd [0,2,1,3]<|ve (0<1/\0<1)<|zE<|vret (True)<|.inr rfl
 rw[hl]at hw;refine zF Tg_ok mixed Tryz.func23 rfl ?_;focus
  refine vAu<|vAe<|vA<|ve (Ab=Ab/\Ad=Ad/\1=1/\1<=1)<|vA<|vr 2 (2<=2)<|vnt [(q21_ desc t),An [iD<|Ax u,iD<|AD u,Am<|AG<|bs<|AF u] 64 0 Ab Ab Au,q22_,q24_] ?_;refine zY [] [] [(q23_ desc t),AZ (Fn.func 61) [] [Ae 0 0,Ae 1 0,Ae 2 0,Ae 3 0]] [(q23_ desc t),AZ (Fn.func 61) [] [Ae 0 0,Ae 1 0,Ae 2 0,Ae 3 0]] (A1 _) (by exact hw) ?_;refine v0s<|veT<|zA<|vd [0,2,1,3]<|ve (0<1/\0<1)<|zE<|vret (True)<|.inr rfl
 all_goals rfl
theorem zEy{m n:Nat}{g:Nat->D}:blw m (fA n g)↔∀c,c<n->∀j,m<=j->refs j (g c)=false:=by
 have key:∀(l:List Nat)(j:Nat),zX j (l.map g)=Ab↔∀c∈l,refs j (g c)=false:=λl j=>by
  induction l<;>simp_all [zX,only,BC,Cp,List.forall_mem_cons]
 constructor
 ·intro h c hc j hj;exact(key _ j).1 (h j hj) c (B_.2 hc)
 intro h j hj;exact(key _ j).2 λc hc=>h c (B_.1 hc) j hj
def redK(w:Rw->Nat)(cols:List Nat)(rows:List Rw):List Rw:=allK ((rows.filter λx=>decide (0<w x)).map λx=>zT x cols)
theorem redK_succ(w:Rw->Nat)(cols:List Nat)(rows:List Rw)(i:Nat)(h:i<rows.length):redK w cols (rows.take (i+1))=if 0<w (rows.getD i [])then addK (redK w cols (rows.take i)) (zT (rows.getD i []) cols)else redK w cols (rows.take i):=by
 unfold redK;rw[Bl h,List.filter_append,B3,A0,AV h,BM];grind [only,allK]
abbrev mapB(K:List (List Va)):Bk:=⟨K.map λ_=>bD Ad,170,0,Ad,Ab, .map (K.map kyv)⟩
theorem mput_b(K:List (List Va))(r:List Va):mput (mapB K) (K.map kyv) (kyv r) (bD Ad)=mapB (addK K r):=by
 unfold mput addK;rw[zXi];cases e:K.findIdx? λs=>decide (r=s)with
 |none=>
  grind
 | some i=>
  rw[B8]at e;obtain⟨h,h1,_⟩:=e;have:r∈K:=by
   grind
  rw[if_pos this];simp only[mapB];congr 1;apply List.ext_getElem (by simp);grind
def Tre:Par:=⟨λf=>f==94||f==97,λ_ _=>AM,λk=>decide (k<8),λ_=>Ab,λ_=>Ab⟩
theorem Tre_ok:zA7 AH Tre:=by intro t n f h;cases h
theorem keep8{st:List Bk}(h:st.length=8):∀k,k<st.length->Tre.keep k=true:=λk hk=>by
 show decide (k<8)=Ad;rw[decide_eq_true_eq];omega
theorem zDi:∀k,8<=k->Tre.keep k=false:=λk hk=>by
 show decide (k<8)=Ab;rw[decide_eq_false_iff_not];omega
abbrev keyC(b:Bd)(v:Nat):List Nat:=zBy (λu=>(b.L.getD v Af).k.testBit u) (b.R.getD v Af).1
abbrev chV(b:Bd)(v:Nat):List (Nat×List Nat):=chI b.L (b.R.getD v Af).1 v b.L.length
structure Bok(b:Bd)(v:Nat)(gv gt:Nat->D)(VT:Nat->List Rw)(TT:Nat->List (Rw×Nat)):Prop where
 n:b.n<=1000
 vn:v<b.n
 L:b.L.length=b.n
 R:b.R.length=b.n
 k:∀c∈b.L,c.k<4294967296
 V:(b.R.getD v Af).1.length<=1000
 V2:∀u∈(b.R.getD v Af).1,u<32
 r:∀x∈(b.R.getD v Af).2,x.length=(b.R.getD v Af).1.length/\∀u∈x,Vs u
 rl:(b.R.getD v Af).2.length<=65536
 hv:∀c∈chV b v,b.f<=c.1->gv c.1=zHo (VT c.1)
 ht:∀c∈chV b v,c.1<b.f->gt c.1=zGv (TT c.1)
 ne:∀c∈chV b v,c.1≠v
 S:∀x∈(b.R.getD v Af).2,∀i,i<=(chV b v).length->Sm (wtL b.f VT TT x ((chV b v).take i))
 S1:∀c∈chV b v,∀p∈TT c.1,Sm p.2
 gw:∀c,c<b.n->∀j,8<=j->refs j (gv c)=Ab
 tw:∀c,c<b.n->∀j,8<=j->refs j (gt c)=Ab
theorem zHd{L:List Bg}{V:List Nat}{v i:Nat}{c:Nat×List Nat}(h:c∈chI L V v i):c.1<i/\(L.getD c.1 Af).p=(v:Int)/\c.2=zBy (λu=>(L.getD c.1 Af).k.testBit u) V:=by
 obtain⟨u,hu,rfl⟩:=Bh.1 h;grind
theorem zM1(b:Bd)(v:Nat)(hv:v<b.R.length)(hl:b.L.length<=1000)(hV:(b.R.getD v Af).1.length<=1000)(hV2:∀u∈(b.R.getD v Af).1,u<32)(hk:∀c∈b.L,c.k<4294967296)(c5 c6 c7 c8:List D)(t8:TypeId)(ks:List Value)(h5:blw 9 c5)(h6:blw 9 c6):
  Acts AH 94 [.own 4 0,iD (v:Nat)] [blI b,blX,blG b,blE b,blB b,blV c5,blT c6,blU c7,blM t8 ks c8] [] (.osl 9 0 (chV b v).length ((chV b v).length*2) Ad)
   [blI b,blX,blG b,blE b,blB b,blV c5,blT c6,blU c7,blM t8 ks c8,chB (chV b v)]:=by simp_all [zZr]
abbrev q25_(x0:Bd)(x1:Nat):=Aj (nsD (Az (AA (Ar x0) x1 Af))) (Aa (Az (AA (Ar x0) x1 Af)))
abbrev q26_(x0:Bd):=An [iD ↑(Ag x0),iD ↑(Ai x0),(q17_ x0),(q18_ x0),(q19_ x0)] 31 0 Ab Ab Au
abbrev q27_:=An [nl,nl,nl,nl,nl] 46 0 Ab Ab Au
abbrev q28_(x0:Bd):=An [iD ↑(Ag x0),Ay 3 0 (Aa (AN x0)) (Aa (AN x0)) Ad] 77 0 Ab Ab Au
abbrev q29_(x0:Bd):=An (Ao u32D (Bd.E x0)) 36 1 Ad Ad Au
abbrev q30_(x0:Bd):=An [iD ↑(Ag x0),iD ↑(Ai x0),(q17_ x0),(q18_ x0),(q19_ x0),(q16_ x0),(q15_ x0),Ay 5 0 (Ag x0) (Ag x0) Ad,Ay 6 0 (Ag x0) (Ag x0) Ad,Ay 7 0 (Ai x0) (Ai x0) Ad] 120 0 Ab Ab Au
theorem reduce_c(b:Bd)(v:Nat)(gv gt:Nat->D)(VT:Nat->List Rw)(TT:Nat->List (Rw×Nat))(h:Bok b v gv gt VT TT)(c7:List D):
  Acts AH 51 [.own 4 0,iD (v:Nat)] [blI b,blX,blG b,blE b,blB b,blV (fA b.n gv),blT (fA b.n gt),blU c7] [] (.tup [])
   [blI b,blX,blG b,blE b,blB b,blV (fA b.n λc=>if c=v then zHo (redK (λx=>wtL b.f VT TT x (chV b v)) (keyC b v) (b.R.getD v Af).2)else gv c),blT (fA b.n gt),blU c7]:=by
 have hgv1:∀m,9<=m->blw m (fA b.n λc=>if c=v then .mref 8 else gv c):=λm hm=>zEy.2 λc hc j hj=>by
  split
  ·simp[refs];omega
  exact h.gw c hc j (by omega)
 have hgt1:∀m,9<=m->blw m (fA b.n gt):=λm hm=>zEy.2 λc hc j hj=>h.tw c hc j (by omega);have hch:=zM1 b v (by rw[h.R];exact h.vn) (by rw[h.L];exact h.n) h.V h.V2 h.k (fA b.n λc=>if c=v then .mref 8 else gv c) (fA b.n gt) c7 [] 170 [] (hgv1 9 (AY _)) (hgt1 9 (AY _));have hset:(fA b.n gv).set v (.mref 8)=fA b.n λc=>if c=v then .mref 8 else gv c:=zEw
 have hac:∀a:List Nat×List Rw,(atR a).length=3:=λ_=>rfl;have hbc:∀a:Bg,(bgC a).length=3:=λ_=>rfl;have hvL:v<b.L.length:=by rw[h.L];exact h.vn
 have hvR:v<b.R.length:=by rw[h.R];exact h.vn
 have hav:(b.R.flatMap atR).drop (v*3)= .row (nsD (b.R.getD v Af).1) (b.R.getD v Af).1.length::iD ((b.R.getD v Af).1.length:Nat):: .row ((b.R.getD v Af).2.map rowV) (b.R.getD v Af).2.length::(b.R.drop (v+1)).flatMap atR:=zMo hac b.R v hvR;have hne:=zDe hac (by decide) b.R (by omega);have hbat:=zMo hbc b.L v hvL;have hbne:=zDe hbc (by decide) b.L (by omega);have hic:Pure AH 95 [.row (nsD (b.R.getD v Af).1) (b.R.getD v Af).1.length,u32D (b.L.getD v Af).k] [] (.row (nsD (keyC b v)) (keyC b v).length):=icols_c (b.R.getD v Af).1 _ rfl h.V h.V2 (b.L.getD v Af).k (h.k _ (by rw[A0,AV hvL];exact A4 hvL));have hn:=h.n;have hvn:=h.vn;have hfl:(fA b.n gv).length=b.n:=zEx;refine Acts.post (T:=Tre) (x:= .tup []) (s:=[blI b,blX,blG b,blE b,blB b,blV (fA b.n λc=>if c=v then .mref 8 else gv c),blT (fA b.n gt),blU c7,mapB (redK (λx=>wtL b.f VT TT x (chV b v)) (keyC b v) (b.R.getD v Af).2),chfB ((chV b v).flatMap chC),⟨[],0,0,Ad,Ab, .plain⟩]) ?_ ?_ (keep8 rfl)
 ·refine zN Tre_ok mixed Tryz.func51 rfl (keep8 rfl) ?_;focus
   refine vAs<|vr 7 (True/\0<3/\True/\(0:Int)<=(v:Int)/\(v:Int)<↑(Ag b))<|vo 14 5 v<|vr 1 (A2 (blV<|fA (Ag b) gv)=Ab/\zD3 (AR 8)=Ad/\1=1/\v+1<=Aa (AO<|blV<|fA (Ag b) gv))<|vb 5 (An (setAt (AO<|blV<|fA (Ag b) gv) v<|cellsOf<|AR 8) (Bp<|blV<|fA (Ag b) gv) (Bq<|blV<|fA (Ag b) gv) Ad Ab<|Bj<|blV<|fA (Ag b) gv) (An (fA (Ag b) λ(c:Nat)=>if c=v then AR 8 else gv c) (170:TypeId) 1 Ad Ab A_) (by simp(disch:=omega) only[cellsOf,setAt,hset])<|veT<|zA ?_;refine zA6 [0,1,3,4,5,7,11,12,13,15,6,8,9,10,14,16,17,18] [(2,[(6,100000),(8,100000),(9,100000),(10,100000),(14,100000),(16,100000),(17,100000),(18,100000)],[19,20,21])] rfl ?_;refine vr 12 (True/\True/\0<4/\ix ↑v (Aa (Ar b):Int) (Ah atR (Ar b)≠[]))<|vs 23 (AK<|Ak (AB (v:Int)*3)<|Ah atR<|Ar b) (AK (Aj (nsD<|Az<|AA (Ar b) v Af) (Aa<|Az<|AA (Ar b) v Af)::iD (↑(Aa<|Az<|AA (Ar b) v Af):Int)::Aj (Ao rowV<|AL<|AA (Ar b) v Af) (Aa<|AL<|AA (Ar b) v Af)::Ah atR (Ak (v+1)<|Ar b))) (by simp(disch:=omega) only[AS,hav])<|vr 4 (True/\0<Aa (Aj (nsD<|Az<|AA (Ar b) v Af) (Aa<|Az<|AA (Ar b) v Af)::iD (↑(Aa<|Az<|AA (Ar b) v Af):Int)::Aj (Ao rowV<|AL<|AA (Ar b) v Af) (Aa<|AL<|AA (Ar b) v Af)::Ah atR (Ak (v+1)<|Ar b))/\0<5/\ix ↑v (Aa (Aq b):Int) (Ah bgC (Aq b)≠[]))<|vs 31 (AK<|Ak (AB (v:Int)*3)<|Ah bgC<|Aq b) (AK (iD (↑(Bg.v<|AA (Aq b) v Af):Int)::u32D (Bg.k<|AA (Aq b) v Af)::iD (Ba<|AA (Aq b) v Af)::Ah bgC (Ak (v+1)<|Aq b))) (by simp(disch:=omega) only[AS,Ck,List.nil_append,hbat])<|vr 2 (True/\0<Aa (u32D (Bg.k<|AA (Aq b) v Af)::iD (Ba<|AA (Aq b) v Af)::Ah bgC (Ak (v+1)<|Aq b)))<|vnil<|zBz rfl rfl<|vnt [blI b,blX,blG b,blE b,blB b,An (fA (Ag b) λ(c:Nat)=>if c=v then AR 8 else gv c) (170:TypeId) 1 Ad Ab A_,blT<|fA (Ag b) gt,blU c7,An [] 170 0 Ad Ab<|BB []] ?_;refine zY [] [] [Ae 4 0,iD v] [Ae 4 0,iD v] (A1 _) (by exact hch) ?_;refine vnil ?_;refine zEd (C:=0<4/\AI ((q15_ b))=AI (Bm [(q15_ b),Ay 5 0 (Ag b) (Ag b) Ad,Ay 6 0 (Ag b) (Ag b) Ad,Ay 7 0 (Ai b) (Ai b) Ad] Uk)/\ix ↑v (Aa (Ar b):Int) (Ah atR (Ar b)≠[])/\AI (AK ((q25_ b v)::iD (↑(Aa (Az (AA (Ar b) v Af))):Int)::Aj (Ao rowV (AL (AA (Ar b) v Af))) (Aa (AL (AA (Ar b) v Af)))::Ah atR (Ak (v+1) (Ar b))))=AI (AK (Ak (AB (v:Int)*3) (Ah atR (Ar b))))/\True/\AI (AK ((q25_ b v)::iD (↑(Aa (Az (AA (Ar b) v Af))):Int)::Aj (Ao rowV (AL (AA (Ar b) v Af))) (Aa (AL (AA (Ar b) v Af)))::Ah atR (Ak (v+1) (Ar b))))=AI (AK (Ak 0 ((q25_ b v)::iD (↑(Aa (Az (AA (Ar b) v Af))):Int)::Aj (Ao rowV (AL (AA (Ar b) v Af))) (Aa (AL (AA (Ar b) v Af)))::Ah atR (Ak (v+1) (Ar b)))))/\0<Aa ((q25_ b v)::iD (↑(Aa (Az (AA (Ar b) v Af))):Int)::Aj (Ao rowV (AL (AA (Ar b) v Af))) (Aa (AL (AA (Ar b) v Af)))::Ah atR (Ak (v+1) (Ar b)))/\AI ((q25_ b v))=AI (Bm ((q25_ b v)::iD (↑(Aa (Az (AA (Ar b) v Af))):Int)::Aj (Ao rowV (AL (AA (Ar b) v Af))) (Aa (AL (AA (Ar b) v Af)))::Ah atR (Ak (v+1) (Ar b))) Uk)/\0<5/\AI ((q16_ b))=AI (Bm [(q16_ b),(q15_ b),Ay 5 0 (Ag b) (Ag b) Ad,Ay 6 0 (Ag b) (Ag b) Ad,Ay 7 0 (Ai b) (Ai b) Ad] Uk)/\ix ↑v (Aa (Aq b):Int) (Ah bgC (Aq b)≠[])/\AI (AK (iD (↑(Bg.v (AA (Aq b) v Af)):Int)::u32D (Bg.k (AA (Aq b) v Af))::iD (Ba (AA (Aq b) v Af))::Ah bgC (Ak (v+1) (Aq b))))=AI (AK (Ak (AB (v:Int)*3) (Ah bgC (Aq b))))/\True/\AI (AK (u32D (Bg.k (AA (Aq b) v Af))::iD (Ba (AA (Aq b) v Af))::Ah bgC (Ak (v+1) (Aq b))))=AI (AK (Ak 1 (iD (↑(Bg.v (AA (Aq b) v Af)):Int)::u32D (Bg.k (AA (Aq b) v Af))::iD (Ba (AA (Aq b) v Af))::Ah bgC (Ak (v+1) (Aq b)))))/\0<Aa (u32D (Bg.k (AA (Aq b) v Af))::iD (Ba (AA (Aq b) v Af))::Ah bgC (Ak (v+1) (Aq b)))/\AI (dig (Bg.k (AA (Aq b) v Af)))=AI (Bm (u32D (Bg.k (AA (Aq b) v Af))::iD (Ba (AA (Aq b) v Af))::Ah bgC (Ak (v+1) (Aq b))) Uk)) ⟨(by omega),(by kernel_rfl),⟨(by omega),⟨(by omega),(by assumption)⟩⟩,?_,trivial,(by kernel_rfl),(lb (by kernel_rfl)),(by kernel_rfl),(by omega),(by kernel_rfl),⟨(by omega),⟨(by omega),(by assumption)⟩⟩,?_,trivial,(by kernel_rfl),(lb (by kernel_rfl)),(by kernel_rfl)⟩ ?_;rotate_left;rotate_left;refine v0s<|vc hic<|vrT 2<|vnil<|zBu<|zC<|vnn (fr 67 [(0,Ae 4 0),(1,iD v),(4,Ay 9 0 (Aa<|chV b v) (Aa (chV b v)*2) Ad),(5,Aj (nsD<|keyC b v)<|Aa<|keyC b v),(15,Ae 4 0),(16,iD v),(17,Ay 9 0 (Aa<|chV b v) (Aa (chV b v)*2) Ad),(18,Ae 4 0),(19,Ae 4 0),(20,Ae 4 6),(21,(q15_ b)),(22,iD v),(23,AK ((q25_ b v)::iD (↑(Aa<|Az<|AA (Ar b) v Af):Int)::Aj (Ao rowV<|AL<|AA (Ar b) v Af) (Aa<|AL<|AA (Ar b) v Af)::Ah atR (Ak (v+1)<|Ar b))),(24,AK ((q25_ b v)::iD (↑(Aa<|Az<|AA (Ar b) v Af):Int)::Aj (Ao rowV<|AL<|AA (Ar b) v Af) (Aa<|AL<|AA (Ar b) v Af)::Ah atR (Ak (v+1)<|Ar b))),(25,(q25_ b v)),(26,Ae 4 0),(27,Ae 4 0),(28,Ae 4 5),(29,(q16_ b)),(30,iD v),(31,AK (iD (↑(Bg.v<|AA (Aq b) v Af):Int)::u32D (Bg.k<|AA (Aq b) v Af)::iD (Ba<|AA (Aq b) v Af)::Ah bgC (Ak (v+1)<|Aq b))),(32,AK (u32D (Bg.k<|AA (Aq b) v Af)::iD (Ba<|AA (Aq b) v Af)::Ah bgC (Ak (v+1)<|Aq b))),(33,dig<|Bg.k<|AA (Aq b) v Af),(34,Aj (nsD<|keyC b v)<|Aa<|keyC b v)]) [(q26_ b),q27_,(q28_ b),(q29_ b),(q30_ b),An (fA (Ag b) λ(c:Nat)=>if c=v then AR 8 else gv c) 170 1 Ad Ab A_,An (fA (Ag b) gt) 177 1 Ad Ab A_,An c7 88 1 Ad Ab Au,An [] 170 0 Ad Ab<|BB [],An (Ah chC<|chV b v) 200 2 Ad Ab Au] ?_;rotate_left
  ·first|exact Eq.trans (b:=AI (AK (.row (nsD (b.R.getD v Af).1) (b.R.getD v Af).1.length::iD ((b.R.getD v Af).1.length:Nat):: .row ((b.R.getD v Af).2.map rowV) (b.R.getD v Af).2.length::(b.R.drop (v+1)).flatMap atR))) (by kernel_rfl) (congrArg (λl=>AI (AK l)) hav.symm)|exact Eq.trans (b:=AI (AK (bgC (b.L.getD v Af)++(b.L.drop (v+1)).flatMap bgC))) (by kernel_rfl) (congrArg (λl=>AI (AK l)) hbat.symm)
  ·first|exact Eq.trans (b:=AI (AK (.row (nsD (b.R.getD v Af).1) (b.R.getD v Af).1.length::iD ((b.R.getD v Af).1.length:Nat):: .row ((b.R.getD v Af).2.map rowV) (b.R.getD v Af).2.length::(b.R.drop (v+1)).flatMap atR))) (by kernel_rfl) (congrArg (λl=>AI (AK l)) hav.symm)|exact Eq.trans (b:=AI (AK (bgC (b.L.getD v Af)++(b.L.drop (v+1)).flatMap bgC))) (by kernel_rfl) (congrArg (λl=>AI (AK l)) hbat.symm)
  have hf:frz Ad [blI b,blX,blG b,blE b,blB b,blV (fA b.n λc=>if c=v then .mref 8 else gv c),blT (fA b.n gt),blU c7,blM 170 [] [],chB (chV b v)] zAc (.osl 9 0 (chV b v).length ((chV b v).length*2) Ad)=AI (.row ((chV b v).flatMap chC) (chV b v).length,[9]):=by
   rw[show zAc=8+1 from rfl,zJ2 (e:=chB (chV b v)) rfl rfl rfl];simp_all [D,chV,chC,Bb,zN7]
  refine zBx ((Weak.frzSlot (s:=4) (by kernel_rfl) hf).trans<|Weak.phant ⟨[],0,0,Ad,Ab,.plain⟩) ?_;have hro:=zTv ((b.R.getD v Af).1.length:Nat) (b.R.getD v Af).2 h.rl (λr hr=>by rw[(h.r r hr).1];have:=h.V;omega);have hrw:=h.r;have hS:=h.S;have hcl:∀c∈chV b v,c.2.length<=1000/\∀j∈c.2,j<(b.R.getD v Af).1.length:=λc hc=>by
   obtain⟨_,_,e⟩:=zHd hc;rw[e];refine⟨A6 (BN _ _) ?_,zJ7 _ _⟩;rw[BO];exact h.V
  have hcl2:(keyC b v).length<=1000:=A6 (BN _ _) (by rw[BO];exact h.V);have hkl:∀c∈keyC b v,c<(b.R.getD v Af).1.length:=zJ7 (λu=>(b.L.getD v Af).k.testBit u) (b.R.getD v Af).1;have hchl:(chV b v).length<=1000:=A6 (zVt _ _ _ _) (by rw[h.L];exact h.n);have hV:=h.V;have hchn:∀c∈chV b v,c.1<b.n:=λc hc=>by rw[<-h.L];exact(zHd hc).1
  have hrl:=h.rl;have hhv:=h.hv;have hht:=h.ht;have hne2:=h.ne;have hS1:=h.S1;focus
   refine vAs<|vr 6 (True/\0<4/\ix ↑v (Aa (Ar b):Int) (Ah atR (Ar b)≠[]))<|vs 40 (AK<|Ak (AB (v:Int)*3)<|Ah atR<|Ar b) (AK (Aj (nsD<|Az<|AA (Ar b) v Af) (Aa<|Az<|AA (Ar b) v Af)::iD (↑(Aa<|Az<|AA (Ar b) v Af):Int)::Aj (Ao rowV<|AL<|AA (Ar b) v Af) (Aa<|AL<|AA (Ar b) v Af)::Ah atR (Ak (v+1)<|Ar b))) (by simp(disch:=omega) only[AS,hav])<|vr 2 (True/\2<=Aa (iD (↑(Aa<|Az<|AA (Ar b) v Af):Int)::Aj (Ao rowV<|AL<|AA (Ar b) v Af) (Aa<|AL<|AA (Ar b) v Af)::Ah atR (Ak (v+1)<|Ar b)))<|vc hro<|veT<|zH ?_;rotate_left
  generalize hRv:(b.R.getD v Af).2=rows at*;generalize hCv:chV b v=ch at*;generalize hKv:keyC b v=cols at*;refine zK (λ(i:Nat)=>fr 67 [(0,Ae 4 0),(1,iD v),(4,(q20_ ch)),(5,(q5_ cols)),(43,Aj (Ao rowV rows)<|Aa rows),(44,iD<|Aa rows),(45,iD i)]) (λ(i:Nat)=>[blI b,blX,blG b,blE b,blB b,blV (fA b.n λc=>if c=v then .mref 8 else gv c),blT<|fA b.n gt,blU c7,mapB<|redK (λx=>wtL b.f VT TT x ch) cols<|rows.take i,chfB<|ch.flatMap chC,(⟨[],0,0,Ad,Ab,.plain⟩:Bk)]) (λ(i:Nat)=>rows.length-i) (λ(i:Nat)=>i<=rows.length) 0 ?_ ?_ ?_
  ·omega
  ·refine vk 11 ?_;grind [zDi]
  intro i h1;rcases AX i rows.length with h3|h3
  ·have hhd:=zBf rowV rows [] i h3;have hmne:rows.map rowV≠[]:=zAm (by omega);have hmem:rows.getD i []∈rows:=by rw[A0,AV h3];exact A4 h3
   obtain⟨r1,r2⟩:=hrw _ hmem;have hsx:=hS _ hmem;have hsu:=redK_succ (λx=>wtL b.f VT TT x ch) cols rows i h3;generalize rows.getD i []=x at*;generalize hKg:redK (λx=>wtL b.f VT TT x ch) cols (rows.take i)=K at*;have hwt:=zV6 b x ch (λc=>if c=v then .mref 8 else gv c) gt VT TT (by omega) r2 hchl (λc hc=>⟨hchn c hc,by rw[r1];exact hcl c hc⟩) (λc hc hf=>by rw[if_neg (hne2 c hc)];exact hhv c hc hf) hht hsx hS1 c7 (K.map λ_=>bD Ad) (ch.flatMap chC) [] 170 0 0 (K.map kyv) (hgv1 11 (by omega)) (hgt1 11 (by omega));have hpk:=pick_c x cols _ _ rfl rfl (by omega) (by omega) (λc hc=>by rw[r1];exact hkl c hc);have hpl:(zT x cols).length=cols.length:=by simp[zT]
   have hid:=zCr (zT x cols) cols.length hpl (by omega) (zP6 x cols r2);generalize wtL b.f VT TT x ch=w at*;have hmp:=mput_b K (zT x cols);have hget:((fA b.n λc=>if c=v then .mref 8 else gv c).drop v).headD .unk= .mref 8:=by rw[zD4 hvn];exact if_pos rfl
   have hps:=zCa (g:=λc=>if c=v then .mref 8 else gv c) hvn;rcases Cb w with hw|hw
   ·have hdl:dg w=[]:=by subst hw;simp[dg]
    rw[if_neg (by omega)]at hsu;focus
     refine vAu<|zA<|vT ((i:Int)<↑(Aa rows))<|vKB<|vA<|vr 1 (ix ↑i ↑(Aa rows) (Ao rowV rows≠[])) ?_;refine vp 47 i (Ao rowV rows)<|vr 1 (0<Aa (Ak i<|Ao rowV rows))<|vsh 48 hhd<|veT<|vA<|vrT 3<|vnt [blI b,blX,blG b,blE b,blB b,blV (fA (Ag b) λ(c:Nat)=>if c=v then AR 8 else gv c),blT<|fA (Ag b) gt,blU c7,mapB K,chfB<|Ah chC ch,An [] (0:TypeId) 0 Ad Ab Au] ?_;refine zY [] [] [Ae 4 0,(q20_ ch),(q3_ x)] [Ae 4 0,(q20_ ch),(q3_ x)] (A1 _) (by exact hwt) ?_;refine v0s<|veT<|zFs (t:=decide ((Aa (dg w):Int)>(0:Int))) (by kernel_rfl) (by simpa using by omega)<|zQ<|zD<|vN<|zB rfl<|vr 2 (i6 (↑i+1))<|vnil<|zC ?_;rotate_left
    refine⟨i+1,by omega,by omega,?_⟩;rw[hsu];refine vk 11 ?_;grind [zDi]
   have hdl:=zX7 hw;rw[if_pos hw]at hsu;focus
    refine vAu (zA (vT ((i:Int)<↑(Aa rows)) (vKB (vA (vr 1 (ix ↑i ↑(Aa rows) (Ao rowV rows≠[])) ?_)))));refine vp 47 i (Ao rowV rows) (vr 1 (0<Aa (Ak i (Ao rowV rows))) (vsh 48 hhd (veT (vA (vrT 3 (vnt [blI b,blX,blG b,blE b,blB b,blV (fA (Ag b) λ(c:Nat)=>if c=v then AR 8 else gv c),blT (fA (Ag b) gt),blU c7,mapB K,chfB (Ah chC ch),An [] (0:TypeId) 0 Ad Ab Au] ?_))))));refine zY [] [] [Ae 4 0,(q20_ ch),(q3_ x)] [Ae 4 0,(q20_ ch),(q3_ x)] (A1 _) (by exact hwt) ?_;refine v0s (veT (vT ((Aa (dg w):Int)>(0:Int)) (vd [0,1,2,4,7,8,3,5,6,9,10,11] (vr 8 (True/\0<3/\(0:Int)<=(v:Int)/\(v:Int)<↑(Ag b)) (vo 60 5 v (vr 1 (0<Aa (Ak v (fA (Ag b) λ(c:Nat)=>if c=v then AR 8 else gv c))) (vsh 61 hget (vc hpk (vc hid (vr 1 (Ab=Ab/\zW (A7 (A8 A9 "string" 1 16 Ad 8 8 (AI (AG (A3 #[]))) Ad #[])) (AG (bs (idR (zT x cols))))=Ad/\Bo (Ao kyv K) (zW (A7 (A8 A9 "string" 1 16 Ad 8 8 (AI (AG (A3 #[]))) Ad #[])))=Ad/\¬8∈[]) (vb 8 (mput (An (Ao (λ(x:Rw)=>bD Ad) K) 170 0 Ad Ab (BB (Ao kyv K))) (Ao kyv K) (AG (bs (idR (zT x cols)))) (bD Ad)) (mapB (addK K (zT x cols))) (by simp(disch:=omega) only[hmp]) (vnil (zD ?_))) ⟨(by kernel_rfl),⟨(by kernel_rfl),⟨(by exact zVf _),(by decide)⟩⟩⟩))))))))));refine vN (zB rfl (vr 2 (i6 (↑i+1)) (vnil (zC ?_))));rotate_left
   refine⟨i+1,by omega,by omega,?_⟩;rw[hsu];refine vk 11 ?_;grind [zDi]
  obtain rfl:i=rows.length:=by omega
  rw[Bf];focus
   refine vAu<|zA<|vF ((Aa rows:Int)<↑(Aa rows))<|vY2 ?_;refine zM (True) [] (.inl rfl) ?_;rotate_left
  exact⟨by kernel_rfl,by kernel_rfl⟩
 generalize redK (λx=>wtL b.f VT TT x (chV b v)) (keyC b v) (b.R.getD v Af).2=K;have e2:(fA b.n λc=>if c=v then .mref 8 else gv c).set v (zHo K)=fA b.n λc=>if c=v then zHo K else gv c:=by
  simp_all [zEw,zB5]
 have hw:=BP (T:=Tre) (sl:=[D.tup []]) (st:=[blI b,blX,blG b,blE b,blB b,blV (fA b.n λc=>if c=v then .mref 8 else gv c),blT (fA b.n gt),blU c7,mapB K,chfB ((chV b v).flatMap chC),⟨[],0,0,Ad,Ab, .plain⟩]) (j:=5) (i:=v) (d:= .mref 8) (x:=zHo K) (ks:=[8]) rfl rfl rfl (by rw[zX6 hvn];exact congrArg AI (if_pos rfl)) rfl (by decide);refine hw.trans ?_;show Weak Tre _ ([blI b,blX,blG b,blE b,blB b,blV ((fA b.n λc=>if c=v then .mref 8 else gv c).set v (zHo K)),blT (fA b.n gt),blU c7]++[{mapB K with fz:=Ad},chfB ((chV b v).flatMap chC),⟨[],0,0,Ad,Ab, .plain⟩]) _ _;rw[e2];refine zHm (N:=8) rfl (zHf (AY _) (zEy.2 λc hc j hj=>?_) (zEy.2 h.tw) (by simp)) (by intro j hj;cases hj) zDi;split
 ·rfl
 exact h.gw c hc j hj
structure Bu where
 key:List Va
 desc:Bool
 t:WT
instance : Inhabited WT := ⟨.nil⟩
instance : Inhabited Bu := ⟨⟨[], Ab, .nil⟩⟩
abbrev buC(b:Bu):List D:=[.row (zJ b.key) b.key.length,bD b.desc,b.t.x]
abbrev busD(l:List Bu):D:= .row (l.flatMap buC) l.length
theorem zCg(b:Bu):(buC b).length=3:=rfl
abbrev buB(l:List Bu):Bk:=⟨l.flatMap buC,91,3,Ad,Ab, .plain⟩
def Bu.Ok(b:Bu):Prop:=b.key.length<=10000/\∀v∈b.key,Vs v
set_option maxHeartbeats 2000000 in
theorem copies_c(l:List Bu)(n:Nat)(hn:l.length=n)(hl:n<=1000000)(hk:∀b∈l,b.key.length<=10000):Pure AH 74 [.row (l.flatMap buC) n] [] (.row (l.flatMap buC) n):=by
 subst hn;refine zF zBm mixed Tryz.func74 rfl ?_;focus
  refine vAu<|vAe<|zA<|vAe<|zH ?_;rotate_left
 refine zK (λ(i:Nat)=>fr 23 [(2,nl),(3,Ay 0 0 i (i*3) Ad),(6,Aj (Ah buC l)<|Aa l),(7,iD<|Aa l),(8,iD i)]) (λi=>[buB<|l.take i]) (λi=>l.length-i) (λi=>i<=l.length) 0 ?_ ?_ ?_
 ·omega
 ·refine vk 0
 rintro i h1;rcases AX i l.length with hi|hi
 ·have e1:=zEj l i hi;have hb:(l.getD i Af).key.length<=10000:=by rw[A0,AV hi];exact hk _ (A4 _)
  have e0:=zCz zCg l i hi;obtain⟨b,eb⟩:∃b,b=l.getD i default:=⟨_,rfl⟩;rw[<-eb]at e1 hb e0;have e2:=zX4 (g:=buC) (l.take i) b;have e3:=zDj zCg (l.take i);have e4:(l.take i).length=i:=by simp;omega
  have e5:=zA0 b.key;rw[e4]at e3;focus
   refine vAu<|zA<|vT ((i:Int)<↑(Aa l))<|vKB<|vA<|vr 2 (ix ↑i ↑(Aa l) (Ah buC l≠[])/\3<=Aa (Ak (i*3)<|Ah buC l)) ?_ ⟨⟨(by omega),⟨(by omega),(by exact zDe zCg (by decide) _ (by omega))⟩⟩,(by exact zEv zCg _ _ (by omega))⟩;refine vs 11 (AJ<|Aw 3<|Ak (i*3)<|Ah buC l) (AJ<|buC b) (by simp(disch:=omega) only[e0])<|ve (Ab=Ab/\Ad=Ad/\3=3/\3<=3)<|vd [0,1,4,2,3,5,6,7,8,9]<|vr 4 (True/\True/\0<3)<|vc (zGc (zJ b.key) _ e5 (by omega))<|vr 4 (2<=2/\((1=1/\1<=3/\2=2/\3<=3/\True)/\Ad=Ad)/\((3=3/\3<=3/\True)/\0<3/\3=3/\3<=16777216/\1<=9223372036854775807)/\Bk.arr (buB<|Aw i l)=Ad/\Aa (AO<|buB<|Aw i l)=i*3/\i*3=i*3/\Bp (buB<|Aw i l)=91/\Bq (buB<|Aw i l)=3/\3=3/\0<3/\0<40/\91=91/\(i+1)*40<=140737488355328/\3=3/\Bt (Bj<|buB<|Aw i l)=Ab/\(Ab=Ab\/Bv (Bj<|buB<|Aw i l)=Ad))<|vb 0 (An (AO (buB<|Aw i l)++[Aj (zJ<|Bu.key b)<|Aa<|Bu.key b,bD<|Bu.desc b,Ap<|WT.d<|Bu.t b]) (Bp<|buB<|Aw i l) (Bq<|buB<|Aw i l) Ad Ab<|Bj<|buB<|Aw i l) (An (Ah buC (Aw i l++[b])) (91:TypeId) 3 Ad Ab Au) (by simp(disch:=omega) only[zX4])<|vrT 1<|vnil<|zD<|vN<|zB rfl<|vr 2 (i6 (↑i+1)) ?_;refine vnil<|zC ?_;rotate_left
  refine⟨i+1,by omega,by omega,?_⟩;rw[e1];refine vk 1
 have e:i=l.length:=by omega
 subst e;rw[Bf];focus
  refine vAu<|zA<|vF ((Aa l:Int)<↑(Aa l))<|vZ2<|vA ?_;refine veT<|zE ?_;refine zCf (True) (Aj (Aw (Aa l*3)<|Ak 0<|AO<|buB l)<|Aa l) (Aj (Ah buC l)<|Aa l) (.inr rfl) trivial (by simp(disch:=omega) only[Bb,zN7 zCg]) rfl
theorem free_c(desc:List Bool)(n:Nat)(hn:desc.length=n)(b c p:List D)(bn cn pn:Nat)(tot:Nat)(v:Int)(hl:n<=1000000):Pure AH 58 [.agg [.row (desc.map bD) n, .row b bn, .row c cn, .row p pn,natD tot],iD v] [] (bD (decide (0<=v)&&decide (v<(n:Int)))):=by
 subst hn;refine zF zBm mixed Tryz.func58 rfl ?_;by_cases h0:0<=v
 ·rw[decide_eq_true h0];refine vAu<|vA<|vew [] [(2,Ad)] (decide (v>=(0:Int))=Ad/\True/\0<5)<|zE<|vret (True)<|.inr rfl
 rw[decide_eq_false h0];refine vAu<|vA<|vew [] [(2,Ab)] (decide (v>=(0:Int))=Ab)<|zE<|vret (True)<|.inr rfl
end
def gAdd(desc:Bool)(l:List Bu)(k:List Va)(v:Va)(w:Nat):List Bu:=match l.getLast? with
 |some b=>if b.key=k then l.dropLast++[⟨b.key,desc,b.t.put desc v w⟩]else l++[⟨k,desc,WT.nil.put desc v w⟩]
 |none=>[⟨k,desc,WT.nil.put desc v w⟩]
theorem zGn(desc:Bool)(k:List Va)(v:Va)(w:Nat):gAdd desc [] k v w=[⟨k,desc,WT.nil.put desc v w⟩]:=rfl
theorem zJ1(desc:Bool)(m:List Bu)(b:Bu)(k:List Va)(v:Va)(w:Nat)(h:b.key=k):gAdd desc (m++[b]) k v w=m++[⟨b.key,desc,b.t.put desc v w⟩]:=by
 grind [gAdd,List.getLast?_concat,only,List.dropLast_concat]
theorem zMm(desc:Bool)(m:List Bu)(b:Bu)(k:List Va)(v:Va)(w:Nat)(h:b.key≠k):gAdd desc (m++[b]) k v w=m++[b]++[⟨k,desc,WT.nil.put desc v w⟩]:=by
 grind [gAdd,List.getLast?_concat,only]
abbrev kyX(x:List Va):List Va:=x.take (x.length-1)
abbrev vaX(x:List Va):Va:=x.getD (x.length-1) Af
def grpL(desc:Bool)(w:List Va->Nat)(rows:List (List Va)):List Bu:=rows.foldl (λl x=>if 0<w x then gAdd desc l (kyX x) (vaX x) (w x)else l) []
theorem zDy(desc:Bool)(w:List Va->Nat)(rows:List (List Va))(x:List Va):grpL desc w (rows++[x])=if 0<w x then gAdd desc (grpL desc w rows) (kyX x) (vaX x) (w x)else grpL desc w rows:=by
 grind [grpL]
theorem grpL_succ(desc:Bool)(w:List Va->Nat)(rows:List (List Va))(i:Nat)(h:i<rows.length):grpL desc w (rows.take (i+1))=if 0<w (rows.getD i [])then gAdd desc (grpL desc w (rows.take i)) (kyX (rows.getD i [])) (vaX (rows.getD i [])) (w (rows.getD i []))else grpL desc w (rows.take i):=by
 grind [Bl,zDy,AV]
structure Gok(desc:Bool)(n s:Nat)(Q:List Va->Prop)(b:Bu):Prop where
 d:b.desc=desc
 q:Q b.key
 n:b.t.sz<=n
 s:b.t.tot<=s
theorem Gok.mono{desc:Bool}{n s n' s':Nat}{Q:List Va->Prop}{b:Bu}(h:Gok desc n s Q b)(h1:n<=n')(h2:s<=s'):Gok desc n' s' Q b:=⟨h.d,h.q,A6 h.n h1,A6 h.s h2⟩
theorem gAdd_ok{desc:Bool}{n s:Nat}{Q:List Va->Prop}{l:List Bu}{k:List Va}{v:Va}{w:Nat}(h:∀b∈l,Gok desc n s Q b)(hq:Q k):∀b∈gAdd desc l k v w,Gok desc (n+1) (s+w) Q b:=by
 have hp:=λt=>WT.put_le desc v w t;have hnew:Gok desc (n+1) (s+w) Q ⟨k,desc,WT.nil.put desc v w⟩:=⟨rfl,hq,by have:=(hp .nil).1;simp only[WT.sz]at this;show(WT.nil.put desc v w).sz<=_;omega,by have:=(hp .nil).2;simp only[WT.tot]at this;show(WT.nil.put desc v w).tot<=_;omega⟩;rcases Cq l with rfl|⟨m,b0,rfl⟩
 ·grind [zGn,BH]
 rw[Cr]at*;by_cases e:b0.key=k
 ·rw[zJ1 _ _ _ _ _ _ e];intro b hb;rcases Ct.1 hb with hb|hb
  ·exact(h b (List.mem_append_left _ hb)).mono (by omega) (by omega)
  rw[BH]at hb;subst hb;have h0:=h b0 (by simp);have h1:=hp b0.t;exact⟨rfl,h0.q,A6 h1.1 (by have:=h0.n;omega),A6 h1.2 (by have:=h0.s;omega)⟩
 rw[zMm _ _ _ _ _ _ e];intro b hb;rcases Ct.1 hb with hb|hb
 ·exact(h b hb).mono (by omega) (by omega)
 grind
theorem gAdd_len{desc:Bool}{l:List Bu}{k:List Va}{v:Va}{w:Nat}:(gAdd desc l k v w).length<=l.length+1:=by
 rcases Cq l with rfl|⟨m,b0,rfl⟩
 ·simp[zGn]
 rw[Cr];by_cases e:b0.key=k;all_goals grind [zJ1,zMm]
def sumW(w:List Va->Nat)(rows:List (List Va)):Nat:=(rows.map w).sum
theorem sumW_snoc(w:List Va->Nat)(rows:List (List Va))(x:List Va):sumW w (rows++[x])=sumW w rows+w x:=by simp[sumW]
theorem zQp{desc:Bool}{w:List Va->Nat}{Q:List Va->Prop}(rows:List (List Va))(hq:∀x∈rows,Q (kyX x)):(grpL desc w rows).length<=rows.length/\∀b∈grpL desc w rows,Gok desc rows.length (sumW w rows) Q b:=by
 have key:∀(r l:List (List Va)),(∀x∈l,Q (kyX x))->l.reverse=r->(grpL desc w l).length<=l.length/\∀b∈grpL desc w l,Gok desc l.length (sumW w l) Q b:=by
  intro r;induction r with
  |nil=>
   intro l _ e;obtain rfl:l=[]:=by simpa using e
   exact⟨AY _,λb hb=>by cases hb⟩
  |cons x r ih=>
   intro l hl e;obtain rfl:l=r.reverse++[x]:=by rw[<-List.reverse_reverse l,e,List.reverse_cons]
   obtain⟨i1,i2⟩:=ih r.reverse (λy hy=>hl y (List.mem_append_left _ hy)) (List.reverse_reverse r);rw[zDy,Bs,sumW_snoc];split
   ·exact⟨A6 gAdd_len (by simpa using i1),gAdd_ok i2 (hl x (by simp))⟩
   exact⟨A6 i1 (by simp),λb hb=>(i2 b hb).mono (by simp) (by omega)⟩
 exact key _ rows hq rfl
theorem sumW_take(w:List Va->Nat)(rows:List (List Va))(i:Nat)(h:i<rows.length):sumW w (rows.take i)+w (rows.getD i [])<=sumW w rows:=by
 grind [AV,List.drop_eq_getElem_cons,Cu,only,sumW]
def tput(K:List (List Va×Nat))(r:List Va)(w:Nat):List (List Va×Nat):=match K.findIdx? λp=>decide (r=p.1)with
 |some i=>K.set i (r,w)
 |none=>K++[(r,w)]
def totL(l:List Bu):List (List Va×Nat):=l.foldl (λK b=>tput K b.key b.t.tot) []
theorem totL_succ(l:List Bu)(i:Nat)(h:i<l.length):totL (l.take (i+1))=tput (totL (l.take i)) (l.getD i Af).key (l.getD i Af).t.tot:=by
 grind [totL,Bl,AV]
theorem zXh(K:List (List Va×Nat))(r:List Va):zEq (K.map λp=>kyv p.1) (kyv r)=K.findIdx? λp=>decide (r=p.1):=by
 unfold zEq;rw[List.findIdx?_map];congr 1;funext s;exact zWa r s.1
section
attribute [local irreducible] seqW awp zAf zAn zAd Weak updS zAx retL Pure Acts rP setP setQ cP nP fr
set_option maxRecDepth 4096
abbrev mapT(K:List (List Va×Nat)):Bk:=⟨K.map λp=>natD p.2,177,0,Ad,Ab, .map (K.map λp=>kyv p.1)⟩
theorem mput_t(K:List (List Va×Nat))(r:List Va)(w:Nat):mput (mapT K) (K.map λp=>kyv p.1) (kyv r) (natD w)=mapT (tput K r w):=by
 unfold mput tput;rw[zXh];cases e:K.findIdx? λs=>decide (r=s.1)with
 |none=>simp
 | some i=>
  rw[B8]at e;obtain⟨h,h1,_⟩:=e;have hr:r=K[i].1:=by simpa using h1
  have e1:(K.map λp=>natD p.2).set i (natD w)=(K.set i (r,w)).map λp=>natD p.2:=by rw[Cc]
  have e2:(K.set i (r,w)).map (λp=>kyv p.1)=K.map λp=>kyv p.1:=by
   rw[Cc];apply Cd;grind
  simp only[mapT,e1,e2]
theorem cellsX{x:List Va}(h:0<x.length):(zJ x).take ((x.length-1)*3)=zJ (kyX x):=by
 have e:x=kyX x++x.drop (x.length-1):=(Cu _ _).symm;conv=>lhs;rw[e,zJ8]
 have hl:(zJ (kyX x)).length=(x.length-1)*3:=by rw[zA0,Cv];omega
 grind
abbrev q31_:=An [] 177 0 Ad Ab (BB [])
abbrev q32_(x0:Bd)(x1:Nat->D):=An (fA (Ag x0) x1) 170 1 Ad Ab A_
abbrev q33_(x0:Bd)(x1:Nat->D):=An (fA (Ai x0) x1) 88 1 Ad Ab Au
abbrev q34_(x0:List (Nat×List Nat)):=An (Ah chC x0) 200 2 Ad Ad Au
abbrev q35_(x0:List Va):=Aj (zJ (kyX x0)) (Aa x0-1)
abbrev q36_(x0:Bu):=Aj (zJ (Bu.key x0)) (Aa (Bu.key x0))
set_option maxHeartbeats 4000000 in
theorem group_c(b:Bd)(v:Nat)(gv gt gu:Nat->D)(VT:Nat->List Rw)(TT:Nat->List (Rw×Nat))(h:Bok b v gv gt VT TT)(hvf:v<b.f)(hdl:b.desc.length=b.f)(hV1:0<(b.R.getD v Af).1.length)(hok:∀x∈(b.R.getD v Af).2,x.all vok=Ad)(hsum:Sm (sumW (λx=>wtL b.f VT TT x (chV b v)) (b.R.getD v Af).2)):
  Acts AH 52 [.own 4 0,iD (v:Nat)] [blI b,blX,blG b,blE b,blB b,blV (fA b.n gv),blT (fA b.n gt),blU (fA b.f gu)] [] (iD 0)
   [blI b,blX,blG b,blE b,blB b,blV (fA b.n gv),blT (fA b.n λc=>if c=v then zGv (totL (grpL (b.desc.getD v Ab) (λx=>wtL b.f VT TT x (chV b v)) (b.R.getD v Af).2))else gt c),blU (fA b.f λc=>if c=v then busD (grpL (b.desc.getD v Ab) (λx=>wtL b.f VT TT x (chV b v)) (b.R.getD v Af).2)else gu c)]:=by
 have hgt1:∀m,9<=m->blw m (fA b.n λc=>if c=v then .mref 8 else gt c):=λm hm=>zEy.2 λc hc j hj=>by
  split
  ·simp[refs];omega
  exact h.tw c hc j (by omega)
 have hgv1:∀m,9<=m->blw m (fA b.n gv):=λm hm=>zEy.2 λc hc j hj=>h.gw c hc j (by omega);have hch:=zM1 b v (by rw[h.R];exact h.vn) (by rw[h.L];exact h.n) h.V h.V2 h.k (fA b.n gv) (fA b.n λc=>if c=v then .mref 8 else gt c) (fA b.f gu) [] 177 [] (hgv1 9 (AY _)) (hgt1 9 (AY _));have hset:(fA b.n gt).set v (.mref 8)=fA b.n λc=>if c=v then .mref 8 else gt c:=zEw
 have hac:∀a:List Nat×List Rw,(atR a).length=3:=λ_=>rfl;have hvR:v<b.R.length:=by rw[h.R];exact h.vn
 have hav:(b.R.flatMap atR).drop (v*3)= .row (nsD (b.R.getD v Af).1) (b.R.getD v Af).1.length::iD ((b.R.getD v Af).1.length:Nat):: .row ((b.R.getD v Af).2.map rowV) (b.R.getD v Af).2.length::(b.R.drop (v+1)).flatMap atR:=zMo hac b.R v hvR;have hne:=zDe hac (by decide) b.R (by omega);have hdes:=zBf (λx:Bool=>bD x) b.desc Ab v (by omega);have hdne:b.desc.map (λx:Bool=>bD x)≠[]:=zAm (by omega);have hn:=h.n;have hvn:=h.vn;have hfl:(fA b.n gt).length=b.n:=zEx;refine Acts.post (T:=Tre) (x:=iD 0) (s:=[blI b,blX,blG b,blE b,blB b,blV (fA b.n gv),blT (fA b.n λc=>if c=v then .mref 8 else gt c),blU (fA b.f λc=>if c=v then busD (grpL (b.desc.getD v Ab) (λx=>wtL b.f VT TT x (chV b v)) (b.R.getD v Af).2)else gu c),mapT (totL (grpL (b.desc.getD v Ab) (λx=>wtL b.f VT TT x (chV b v)) (b.R.getD v Af).2)),chfB ((chV b v).flatMap chC),{buB (grpL (b.desc.getD v Ab) (λx=>wtL b.f VT TT x (chV b v)) (b.R.getD v Af).2)with fz:=Ad}]) ?_ ?_ (keep8 rfl)
 ·refine zN Tre_ok mixed Tryz.func52 rfl (keep8 rfl) ?_;focus
   refine vAu<|vA<|vr 7 (True/\0<2/\True/\(0:Int)<=(v:Int)/\(v:Int)<↑(Ag b))<|vo 22 6 v<|vr 1 (A2 (blT<|fA (Ag b) gt)=Ab/\zD3 (AR 8)=Ad/\1=1/\v+1<=Aa (AO<|blT<|fA (Ag b) gt))<|vb 6 (An (setAt (AO<|blT<|fA (Ag b) gt) v<|cellsOf<|AR 8) (Bp<|blT<|fA (Ag b) gt) (Bq<|blT<|fA (Ag b) gt) Ad Ab<|Bj<|blT<|fA (Ag b) gt) (An (fA (Ag b) λ(c:Nat)=>if c=v then AR 8 else gt c) (177:TypeId) 1 Ad Ab A_) (by simp(disch:=omega) only[cellsOf,setAt,hset])<|veT<|vA<|vrT 2 ?_;refine vnt [blI b,blX,blG b,blE b,blB b,blV<|fA (Ag b) gv,An (fA (Ag b) λ(c:Nat)=>if c=v then AR 8 else gt c) (177:TypeId) 1 Ad Ab A_,blU<|fA (Ai b) gu,q31_] ?_;refine zY [] [] [Ae 4 0,iD v] [Ae 4 0,iD v] (A1 _) (by exact hch) ?_;refine v0s<|vrT 1<|vnil<|zC<|vnn (fr 137 [(0,Ae 4 0),(1,iD v),(4,iD 0),(5,Ay 9 0 (Aa<|chV b v) (Aa (chV b v)*2) Ad),(23,Ae 4 0),(24,iD v),(25,Ay 9 0 (Aa<|chV b v) (Aa (chV b v)*2) Ad)]) [(q26_ b),q27_,(q28_ b),(q29_ b),(q30_ b),(q32_ b gv),An (fA (Ag b) λ(c:Nat)=>if c=v then AR 8 else gt c) 177 1 Ad Ab A_,(q33_ b gu),q31_,An (Ah chC<|chV b v) 200 2 Ad Ab Au] ?_;rotate_left
  have hf:frz Ad [blI b,blX,blG b,blE b,blB b,blV (fA b.n gv),blT (fA b.n λc=>if c=v then .mref 8 else gt c),blU (fA b.f gu),blM 177 [] [],chB (chV b v)] zAc (.osl 9 0 (chV b v).length ((chV b v).length*2) Ad)=AI (.row ((chV b v).flatMap chC) (chV b v).length,[9]):=by
   rw[show zAc=8+1 from rfl,zJ2 (e:=chB (chV b v)) rfl rfl rfl];simp_all [D,chV,chC,Bb,zN7]
  refine zBx (Weak.frzSlot (s:=5) (by kernel_rfl) hf) ?_;have hro:=zTv ((b.R.getD v Af).1.length:Nat) (b.R.getD v Af).2 h.rl (λr hr=>by rw[(h.r r hr).1];have:=h.V;omega);have hrw:=h.r;have hS:=h.S;have hcl:∀c∈chV b v,c.2.length<=1000/\∀j∈c.2,j<(b.R.getD v Af).1.length:=λc hc=>by
   obtain⟨_,_,e⟩:=zHd hc;rw[e];refine⟨A6 (BN _ _) ?_,zJ7 _ _⟩;rw[BO];exact h.V
  have hchl:(chV b v).length<=1000:=A6 (zVt _ _ _ _) (by rw[h.L];exact h.n);have hV:=h.V;have hchn:∀c∈chV b v,c.1<b.n:=λc hc=>by rw[<-h.L];exact(zHd hc).1
  have hrl:=h.rl;have hhv:=h.hv;have hht:=h.ht;have hne2:=h.ne;have hS1:=h.S1;focus
   refine vAs<|vrT 1<|vnil<|zC<|vnn (fr 137 [(0,Ae 4 0),(1,iD v),(4,iD 0),(5,Aj (Ah chC<|chV b v)<|Aa<|chV b v),(6,nl),(23,Ae 4 0),(24,iD v),(25,Ay 9 0 (Aa<|chV b v) (Aa (chV b v)*2) Ad)]) [(q26_ b),q27_,(q28_ b),(q29_ b),(q30_ b),(q32_ b gv),An (fA (Ag b) λ(c:Nat)=>if c=v then AR 8 else gt c) 177 1 Ad Ab A_,(q33_ b gu),q31_,(λ(e:Bk)=>An (AO e) (Bp e) (Bq e) (Bk.arr e) Ad (Bj e))<|An (Ah chC<|chV b v) 200 2 Ad Ab Au] ?_;rotate_left
  refine zBx ((Weak.nilS 6 10 Ad (by kernel_rfl)).trans<|Weak.phant<|buB []) ?_;focus
   refine zA<|vAs<|vr 6 (True/\0<4/\ix ↑v (Aa (Ar b):Int) (Ah atR (Ar b)≠[]))<|vs 31 (AK<|Ak (AB (v:Int)*3)<|Ah atR<|Ar b) (AK (Aj (nsD<|Az<|AA (Ar b) v Af) (Aa<|Az<|AA (Ar b) v Af)::iD (↑(Aa<|Az<|AA (Ar b) v Af):Int)::Aj (Ao rowV<|AL<|AA (Ar b) v Af) (Aa<|AL<|AA (Ar b) v Af)::Ah atR (Ak (v+1)<|Ar b))) (by simp(disch:=omega) only[AS,hav])<|vr 2 (True/\2<=Aa (iD (↑(Aa<|Az<|AA (Ar b) v Af):Int)::Aj (Ao rowV<|AL<|AA (Ar b) v Af) (Aa<|AL<|AA (Ar b) v Af)::Ah atR (Ak (v+1)<|Ar b)))<|vc hro<|veT<|zH ?_;rotate_left
  generalize hRv:(b.R.getD v Af).2=rows at*;generalize hCv:chV b v=ch at*;generalize hDv:b.desc.getD v Ab=desc at*;have hgo:∀i,(grpL desc (λx=>wtL b.f VT TT x ch) (rows.take i)).length<=i/\∀u∈grpL desc (λx=>wtL b.f VT TT x ch) (rows.take i),Gok desc i (sumW (λx=>wtL b.f VT TT x ch) (rows.take i)) (λk=>k.length<=1000/\∀u∈k,Vs u) u:=λi=>by
   obtain⟨q1,q2⟩:=zQp (desc:=desc) (w:=λx=>wtL b.f VT TT x ch) (Q:=λk=>k.length<=1000/\∀u∈k,Vs u) (rows.take i) λx hx=>by
    grind
   exact⟨A6 q1 (by simp;omega),λu hu=>(q2 u hu).mono (by simp;omega) (AY _)⟩
  have hnm:∀l,∀e∈[blI b,blX,blG b,blE b,blB b,blV (fA b.n gv),blT (fA b.n λc=>if c=v then .mref 8 else gt c),blU (fA b.f gu),blM 177 [] [],chfB (ch.flatMap chC),buB l],namB 11 e:=λl=>zHf (by omega) (hgv1 11 (by omega)) (hgt1 11 (by omega)) λe he=>by
   simp only[BA,Cl,or_false]at he;rcases he with rfl|rfl|rfl<;>exact .inl rfl
  have k5:=killL (hgv1 10 (by omega) 10 (by omega));have k6:=killL (hgt1 10 (by omega) 10 (by omega));refine zK (λ(i:Nat)=>fr 137 [(0,Ae 4 0),(1,iD v),(5,(q20_ ch)),(6,Ay 10 0 (Aa<|grpL desc (λ(x:List Va)=>wtL (Ai b) VT TT x ch)<|Aw i rows) (Aa (grpL desc (λ(x:List Va)=>wtL (Ai b) VT TT x ch)<|Aw i rows)*3) Ad),(34,Aj (Ao rowV rows)<|Aa rows),(35,iD<|Aa rows),(36,iD i)]) (λ(i:Nat)=>[blI b,blX,blG b,blE b,blB b,blV<|fA b.n gv,blT (fA b.n λc=>if c=v then .mref 8 else gt c),blU<|fA b.f gu,blM 177 [] [],chfB<|ch.flatMap chC,buB<|grpL desc (λx=>wtL b.f VT TT x ch)<|rows.take i]) (λ(i:Nat)=>rows.length-i) (λ(i:Nat)=>i<=rows.length) 0 ?_ ?_ ?_
  ·omega
  ·simp only[show grpL desc (λx=>wtL b.f VT TT x ch) (rows.take 0)=[]from rfl,B7,Nat.zero_mul];refine vk 11 ?_;grind [zDi]
  intro i h1;rcases AX i rows.length with h3|h3
  ·have hhd:=zBf rowV rows [] i h3;have hmne:rows.map rowV≠[]:=zAm (by omega);have hmem:rows.getD i []∈rows:=by rw[A0,AV h3];exact A4 h3
   obtain⟨r1,r2⟩:=hrw _ hmem;have hsx:=hS _ hmem;have hvx:=hok _ hmem;have hsu:=grpL_succ desc (λx=>wtL b.f VT TT x ch) rows i h3;obtain⟨g1,g2⟩:=hgo i;have hsm:=sumW_take (λx=>wtL b.f VT TT x ch) rows i h3;generalize rows.getD i []=x at*;generalize hGg:grpL desc (λx=>wtL b.f VT TT x ch) (rows.take i)=l at*;have hwt:=zV6 b x ch gv (λc=>if c=v then .mref 8 else gt c) VT TT (by omega) r2 hchl (λc hc=>⟨hchn c hc,by rw[r1];exact hcl c hc⟩) hhv (λc hc hf=>by rw[if_neg (hne2 c hc)];exact hht c hc hf) hsx hS1 (fA b.f gu) [] (ch.flatMap chC) (l.flatMap buC) 177 91 3 [] (hgv1 11 (by omega)) (hgt1 11 (by omega));generalize hwg:wtL b.f VT TT x ch=w at*;generalize hsg:sumW (λx=>wtL b.f VT TT x ch) rows=sw at*;generalize hsi:sumW (λx=>wtL b.f VT TT x ch) (rows.take i)=si at*;have hx0:0<x.length:=by omega
   have hvv:vok (vaX x)=true:=Bz.1 hvx _ (by rw[vaX,A0,AV (by omega)];exact A4 _);have hkx:=cellsX hx0;have hkl:(kyX x).length=x.length-1:=by simp
   have hcln:=zGc (zJ (kyX x)) (x.length-1) (by rw[zA0,hkl]) (by omega);have htv:=zDs x (x.length-1) (by omega);have hxc:=zA0 x;have htn:((x.length:Int)-1).toNat=x.length-1:=by omega
   rcases Cb w with hw|hw
   ·have hdl0:dg w=[]:=by subst hw;simp[dg]
    rw[if_neg (by omega)]at hsu;focus
     refine vAu<|zA<|vT ((i:Int)<↑(Aa rows))<|vKB<|vA<|vr 1 (ix ↑i ↑(Aa rows) (Ao rowV rows≠[])) ?_;refine vp 38 i (Ao rowV rows)<|vr 1 (0<Aa (Ak i<|Ao rowV rows))<|vsh 39 hhd<|veT<|vA<|vrT 3<|vnt [blI b,blX,blG b,blE b,blB b,blV<|fA (Ag b) gv,blT (fA (Ag b) λ(c:Nat)=>if c=v then AR 8 else gt c),blU<|fA (Ai b) gu,blM (177:TypeId) [] [],chfB<|Ah chC ch,buB l] ?_;refine zY [] [] [Ae 4 0,(q20_ ch),(q3_ x)] [Ae 4 0,(q20_ ch),(q3_ x)] (A1 _) (by exact hwt) ?_;refine v0s<|veT<|zA<|vAe<|zGb (t:=(Aa (dg w):Int)==(0:Int)) (by kernel_rfl) (by simpa using by omega)<|vZ<|zB rfl<|vr 2 (i6 (↑i+1)) ?_;refine vnil<|zC ?_;rotate_left
    refine⟨i+1,by omega,by omega,?_⟩;rw[hsu];refine vk 11 ?_;grind [zDi]
   have hdp:=zX7 hw;rw[if_pos hw]at hsu;have hpc:=λ(t:WT)(q1:t.sz<=i)(q2:t.tot<=si)=>wPut_c desc t (vaX x) w hvv hw (by omega) (hsum.le (by omega));rcases Cq l with rfl|⟨m,u,hl⟩
   ·rw[zGn]at hsu;have hp0:=hpc .nil (Br _) (Br _);have hbu:buB [⟨kyX x,desc,WT.nil.put desc (vaX x) w⟩]=⟨[.row (zJ (kyX x)) (x.length-1),bD desc,(WT.nil.put desc (vaX x) w).x],91,3,Ad,Ab, .plain⟩:=by
     grind
    have hnm2:=hnm [⟨kyX x,desc,WT.nil.put desc (vaX x) w⟩];rw[hbu]at hnm2;simp only[B7,Nat.zero_mul];focus
     refine vAu<|zA<|vT ((i:Int)<↑(Aa rows))<|vKB<|vA<|vr 1 (ix ↑i ↑(Aa rows) (Ao rowV rows≠[])) ?_;refine vp 38 i (Ao rowV rows)<|vr 1 (0<Aa (Ak i<|Ao rowV rows))<|vsh 39 hhd<|veT<|vA<|vrT 3<|vnt [blI b,blX,blG b,blE b,blB b,blV<|fA (Ag b) gv,blT (fA (Ag b) λ(c:Nat)=>if c=v then AR 8 else gt c),blU<|fA (Ai b) gu,blM (177:TypeId) [] [],chfB<|Ah chC ch,buB []] ?_;refine zY [] [] [Ae 4 0,(q20_ ch),(q3_ x)] [Ae 4 0,(q20_ ch),(q3_ x)] (A1 _) (by exact hwt) ?_;refine v0s<|veT<|zA<|vAe<|vEf ((Aa (dg w):Int)) ((0:Int))<|vK<|vA<|vr 5 (i6 (↑(Aa x)-1)/\True/\(0:Int)<=(Aa x:Int)-(1:Int)/\True/\0<3/\0<=AB ((Aa x:Int)-(1:Int))/\AB ((Aa x:Int)-(1:Int))<=Aa x/\AB ((Aa x:Int)-(1:Int))=AB ((Aa x:Int)-(1:Int)))<|vs 51 (Aj (Aw ((AB ((Aa x:Int)-(1:Int))-0)*3)<|Ak 0<|zJ x) (AB ((Aa x:Int)-(1:Int))-0)) (Aj (zJ<|kyX x) (Aa x-1)) (by simp(disch:=omega) only[BQ,Bb,htn,hkx]) ?_;refine veT<|zA<|vAe<|vt<|vd [0,1,3,4,5,6,8,2,7,9,10,11,12,13,14,15]<|vr 7 (True/\True)<|vc hcln<|vr 2 (0<8/\ix ↑v (Aa (AW b):Int) (Ao bD (AW b)≠[]))<|vp 76 v (Ao bD<|AW b)<|vr 1 (0<Aa (Ak v<|Ao bD<|AW b))<|vsh 77 hdes<|vc (wnew_c desc) ?_;refine ve (((1=1/\1<=3/\2=2/\3<=3/\True)/\Ad=Ad)/\((3=3/\3<=3/\True)/\0<3/\3=3/\3<=16777216/\1<=9223372036854775807)/\Ad=Ad/\0=0/\0=0/\91=91/\3=3/\3=3/\0<3/\0<40/\91=91/\40<=140737488355328/\3=3/\Ab=Ab/\(Ab=Ab\/Ab=Ad))<|vA<|ve (i6 (↑(1:Nat)-1)/\(0:Int)<=(↑(1:Nat):Int)-(1:Int)/\(↑(1:Nat):Int)-(1:Int)<(↑(1:Nat):Int))<|zA<|vd [0,1,2,4,5,6,7,8,10,3,9,11,12,13,14,15,16,17]<|vr 8 (True/\i6 (↑(Aa x)-1)/\ix ((Aa x:Int)-(1:Int)) (Aa x:Int) (zJ x≠[])) (vs 96 (AK<|Ak (AB ((Aa x:Int)-(1:Int))*3)<|zJ x) (AK<|Ak ((Aa x-1)*3)<|zJ x) (by simp(disch:=omega) only[htn])<|vr 3 (2<=2/\3<=Aa (Ak ((Aa x-1)*3)<|zJ x))<|vs 97 (AJ<|Aw 3<|Ak ((Aa x-1)*3)<|zJ x) (AJ<|vaC<|AA x (Aa x-1) Af) (by simp(disch:=omega) only[htv])<|vc hp0<|ve (0<2/\1<2/\Ab=Ab/\Ad=Ad/\2=2/\2<=2)<|zA<|zA ?_) ⟨trivial,(by omega),⟨(by omega),⟨(by omega),(by exact zHp _ (by omega))⟩⟩⟩;refine zB rfl<|veT<|vf<|vK<|zB rfl<|vr 5 (2<=2/\True/\Ab=Ab/\Ad=Ad/\2=2/\3<=3/\¬10∈[])<|vnil<|zD<|vN<|zB rfl<|vr 2 (i6 (↑i+1)) ?_;refine vnil<|zC ?_;rotate_left
    refine⟨i+1,by omega,by omega,?_⟩;rw[hsu,hbu];refine wkn (fr 137 [(0,Ae 4 0),(1,iD v),(5,(q20_ ch)),(6,Ay 10 0 1 3 Ad),(11,Ae 10 0),(12,Ae 12 0),(13,iD 0),(34,Aj (Ao rowV rows) (Aa rows)),(35,iD (Aa rows)),(36,iD ↑(i+1)),(103,bD Ab),(105,Ae 10 0),(106,AJ [bD desc,Ap (WT.d (WT.put desc (vaX x) w WT.nil))]),(107,Ae 10 0),(108,Ae 10 1),(109,iD ↑(i+1))]) [(q26_ b),q27_,(q28_ b),(q29_ b),(q30_ b),An (Ao (zAi 10) (fA (Ag b) gv)) 170 1 Ad Ab A_,An (Ao (zAi 10) (fA (Ag b) λ(c:Nat)=>if c=v then AR 8 else gt c)) 177 1 Ad Ab A_,(q33_ b gu),q31_,(q34_ ch),An [(q35_ x),bD desc,Ap (WT.d (WT.put desc (vaX x) w WT.nil))] 91 3 Ad Ab Au,An [(q35_ x),bD desc,Ap (WT.d WT.nil)] 91 3 Ad Ab Au,An [bD desc,Ap (WT.d (WT.put desc (vaX x) w WT.nil))] 57 0 Ab Ab Au] ?_;rw[k5,k6];refine zA5 (N:=11) (4<11/\10<11/\True) rfl hnm2 (λk hk=>zDi k (by omega)) ?_ ⟨by omega,by omega,trivial⟩;refine vk 13 ?_;grind [zDi]
   rw [Cr]at hl;obtain⟨uk,ud,ut⟩:=u;have hg:=g2 ⟨uk,ud,ut⟩ (by rw[hl];simp);obtain rfl:ud=desc:=hg.d;have hp0:=hpc ut hg.n hg.s;have huk:=hg.q.1;dsimp only at huk;have hk:l.length=m.length+1:=by rw[hl];simp
   have htk:((l.length:Int)-1).toNat=m.length:=by omega
   have hmC:(m.flatMap buC).length=m.length*3:=zDj zCg m;have hlC:(l.flatMap buC).length=l.length*3:=zDj zCg l;have hat:(l.flatMap buC).drop (m.length*3)=[.row (zJ uk) uk.length,bD ud,ut.x]:=by
    grind
   have hat1:(l.flatMap buC).drop (m.length*3+1)=[bD ud,ut.x]:=by rw[<-List.drop_drop,hat];rfl
   have hs0:0<((l.flatMap buC).drop (m.length*3)).length:=by rw[hat];simp
   have hs1:2<=((l.flatMap buC).drop (m.length*3+1)).length:=by rw[hat1];simp
   by_cases heq:uk=kyX x
   ·have hrq:Pure AH 99 [.row (zJ uk) uk.length, .row (zJ (kyX x)) (x.length-1)] [] (bD Ad):=by
     have:=zE8 uk (kyX x) uk.length (x.length-1) rfl hkl (by omega) (by omega)
     rwa[decide_eq_true heq]at this
    rw[hl,zJ1 _ _ _ _ _ _ heq]at hsu;have hup:buB (m++[⟨uk,ud,ut.put ud (vaX x) w⟩])=⟨((l.flatMap buC).set (m.length*3+1) (bD ud)).set (m.length*3+1+1) (ut.put ud (vaX x) w).x,91,3,Ad,Ab, .plain⟩:=by
     have e:((l.flatMap buC).set (m.length*3+1) (bD ud)).set (m.length*3+1+1) (ut.put ud (vaX x) w).x=(m++[(⟨uk,ud,ut.put ud (vaX x) w⟩:Bu)]).flatMap buC:=by
      rw[hl,Cx,Cx,Ce _ _ (by omega),Ce _ _ (by omega),hmC,show m.length*3+1-m.length*3=1 by omega,show m.length*3+1+1-m.length*3=2 by omega];rfl
     rw[e]
    have hnm2:=hnm (m++[⟨uk,ud,ut.put ud (vaX x) w⟩]);rw[hup]at hnm2;have hln2:(m++[(⟨uk,ud,ut.put ud (vaX x) w⟩:Bu)]).length=l.length:=by rw[hk];simp
    focus
     refine vAu<|zA<|vT ((i:Int)<↑(Aa rows))<|vKB<|vA<|vr 1 (ix ↑i ↑(Aa rows) (Ao rowV rows≠[])) ?_;refine vp 38 i (Ao rowV rows)<|vr 1 (0<Aa (Ak i<|Ao rowV rows))<|vsh 39 hhd<|veT<|vA<|vrT 3<|vnt [blI b,blX,blG b,blE b,blB b,blV<|fA (Ag b) gv,blT (fA (Ag b) λ(c:Nat)=>if c=v then AR 8 else gt c),blU<|fA (Ai b) gu,blM (177:TypeId) [] [],chfB<|Ah chC ch,buB l] ?_;refine zY [] [] [Ae 4 0,(q20_ ch),(q3_ x)] [Ae 4 0,(q20_ ch),(q3_ x)] (A1 _) (by exact hwt) ?_;refine v0s<|veT<|zA<|vAe<|vEf ((Aa (dg w):Int)) ((0:Int))<|vK<|vA<|vr 5 (i6 (↑(Aa x)-1)/\True/\(0:Int)<=(Aa x:Int)-(1:Int)/\True/\0<3/\0<=AB ((Aa x:Int)-(1:Int))/\AB ((Aa x:Int)-(1:Int))<=Aa x/\AB ((Aa x:Int)-(1:Int))=AB ((Aa x:Int)-(1:Int)))<|vs 51 (Aj (Aw ((AB ((Aa x:Int)-(1:Int))-0)*3)<|Ak 0<|zJ x) (AB ((Aa x:Int)-(1:Int))-0)) (Aj (zJ<|kyX x) (Aa x-1)) (by simp(disch:=omega) only[BQ,Bb,htn,hkx]) ?_;refine veT<|zA<|vA<|vw 9 [] [(3,Ab)] (True/\((Aa l:Int)==(0:Int))=Ab/\i6 (↑(Aa l)-1)/\(0:Int)<=(Aa l:Int)-(1:Int)/\(Aa l:Int)-(1:Int)<(Aa l:Int)) (vs 60 (Ae 10 (0+AB ((Aa l:Int)-(1:Int))*3)) (Ae 10 (Aa m*3)) (by simp(disch:=omega) only[Cf,htk])<|vr 2 (True/\0<Aa (Ak (Aa m*3)<|Ah buC l))<|vs 62 (Bm (Ak (Aa m*3)<|Ah buC l) Uk) (Aj (zJ uk)<|Aa uk) (by simp(disch:=omega) only[List.headD_cons,hat])<|vrT 1<|vc hrq<|veT<|vf<|zQ<|zC ?_) ⟨trivial,(by exact decide_eq_false (by omega)),(by omega),(by omega)⟩;refine zAw<|vA<|vr 5 (i6 (↑(Aa l)-1)/\(0:Int)<=(Aa l:Int)-(1:Int)/\(Aa l:Int)-(1:Int)<(Aa l:Int))<|vs 86 (Ae 10 (0+AB ((Aa l:Int)-(1:Int))*3)) (Ae 10 (Aa m*3)) (by simp(disch:=omega) only[Cf,htk])<|veT<|zA<|vd [0,1,2,4,5,6,7,8,10,3,9,11,12,13,14,15,16,17]<|vr 8 (True/\i6 (↑(Aa x)-1)/\ix ((Aa x:Int)-(1:Int)) (Aa x:Int) (zJ x≠[])) (vs 96 (AK<|Ak (AB ((Aa x:Int)-(1:Int))*3)<|zJ x) (AK<|Ak ((Aa x-1)*3)<|zJ x) (by simp(disch:=omega) only[htn])<|vr 2 (2<=Aa (Ak (Aa m*3+1)<|Ah buC l))<|vs 91 (AJ<|Aw 2<|Ak (Aa m*3+1)<|Ah buC l) (AJ [bD ud,WT.x ut]) (by simp(disch:=omega) only[List.take_succ_cons,List.take_nil,hat1])<|vr 1 (3<=Aa (Ak ((Aa x-1)*3)<|zJ x))<|vs 97 (AJ<|Aw 3<|Ak ((Aa x-1)*3)<|zJ x) (AJ<|vaC<|AA x (Aa x-1) Af) (by simp(disch:=omega) only[htv]) ?_) ⟨trivial,(by omega),⟨(by omega),⟨(by omega),(by exact zHp _ (by omega))⟩⟩⟩;refine vc hp0<|ve (0<2/\1<2/\Ab=Ab/\Ad=Ad/\2=2/\2<=2)<|zA<|vAe<|vf<|vK<|zB rfl<|vr 5 (2<=2/\True/\Ab=Ab/\Ad=Ad/\2=2/\Aa m*3+1+2<=Aa (Ah buC l)/\¬10∈[])<|vnil<|zD ?_;refine vN<|zB rfl<|vr 2 (i6 (↑i+1))<|vnil<|zC ?_;rotate_left
    refine⟨i+1,by omega,by omega,?_⟩;rw[hsu,hln2,hup];refine wkn (fr 137 [(0,Ae 4 0),(1,iD v),(5,(q20_ ch)),(6,Ay 10 0 (Aa l) (Aa l*3) Ad),(11,Ae 10 (Aa m*3)),(12,Ae 11 0),(13,iD 0),(34,Aj (Ao rowV rows) (Aa rows)),(35,iD (Aa rows)),(36,iD ↑(i+1)),(103,bD Ab),(105,Ae 10 (Aa m*3)),(106,AJ [bD ud,Ap (WT.d (WT.put ud (vaX x) w ut))]),(107,Ae 10 (Aa m*3)),(108,Ae 10 (Aa m*3+1)),(109,iD ↑(i+1))]) [(q26_ b),q27_,(q28_ b),(q29_ b),(q30_ b),(q32_ b gv),An (fA (Ag b) λ(c:Nat)=>if c=v then AR 8 else gt c) 177 1 Ad Ab A_,(q33_ b gu),q31_,(q34_ ch),An (List.set (List.set (Ah buC l) (Aa m*3+1) (bD ud)) (Aa m*3+1+1) (Ap (WT.d (WT.put ud (vaX x) w ut)))) 91 3 Ad Ab Au,An [bD ud,Ap (WT.d (WT.put ud (vaX x) w ut))] 57 0 Ab Ab Au] ?_;refine zA5 (N:=11) (4<11/\10<11/\True) rfl hnm2 (λk hk=>zDi k (by omega)) ?_ ⟨by omega,by omega,trivial⟩;refine vk 12 ?_;grind [zDi]
   have hrq:Pure AH 99 [.row (zJ uk) uk.length, .row (zJ (kyX x)) (x.length-1)] [] (bD Ab):=by
    have:=zE8 uk (kyX x) uk.length (x.length-1) rfl hkl (by omega) (by omega)
    grind
   rw[hl,zMm _ _ _ _ _ _ heq,<-hl]at hsu;have hp1:=hpc .nil (Br _) (Br _);have hdr1:∀A B E:D,(l.flatMap buC++[A,B,E]).drop (l.length*3+1)=[B,E]:=λA B E=>by
    rw[<-List.drop_drop,<-hlC,List.drop_left];rfl
   have hup:buB (l++[⟨kyX x,ud,WT.nil.put ud (vaX x) w⟩])=⟨((l.flatMap buC++[.row (zJ (kyX x)) (x.length-1),bD ud,WT.nil.x]).set (l.length*3+1) (bD ud)).set (l.length*3+1+1) (WT.nil.put ud (vaX x) w).x,91,3,Ad,Ab, .plain⟩:=by
    have e:((l.flatMap buC++[.row (zJ (kyX x)) (x.length-1),bD ud,WT.nil.x]).set (l.length*3+1) (bD ud)).set (l.length*3+1+1) (WT.nil.put ud (vaX x) w).x=(l++[(⟨kyX x,ud,WT.nil.put ud (vaX x) w⟩:Bu)]).flatMap buC:=by
     rw[Cx,Ce _ _ (by omega),Ce _ _ (by omega),hlC,show l.length*3+1-l.length*3=1 by omega,show l.length*3+1+1-l.length*3=2 by omega];simp_all
    rw[e]
   have hnm2:=hnm (l++[⟨kyX x,ud,WT.nil.put ud (vaX x) w⟩]);rw[hup]at hnm2;have hln2:(l++[(⟨kyX x,ud,WT.nil.put ud (vaX x) w⟩:Bu)]).length=l.length+1:=by simp
   have hs2:∀A B E:D,2<=((l.flatMap buC++[A,B,E]).drop (l.length*3+1)).length:=λA B E=>by rw[hdr1];simp
   have hs3:∀A B E:D,l.length*3+1+2<=(l.flatMap buC++[A,B,E]).length:=λA B E=>by simp[hlC]
   have htl:(((l.length+1:Nat):Int)-1).toNat=l.length:=by omega
   focus
    refine vAu<|zA<|vT ((i:Int)<↑(Aa rows))<|vKB<|vA<|vr 1 (ix ↑i ↑(Aa rows) (Ao rowV rows≠[])) ?_;refine vp 38 i (Ao rowV rows)<|vr 1 (0<Aa (Ak i<|Ao rowV rows))<|vsh 39 hhd<|veT<|vA<|vrT 3<|vnt [blI b,blX,blG b,blE b,blB b,blV<|fA (Ag b) gv,blT (fA (Ag b) λ(c:Nat)=>if c=v then AR 8 else gt c),blU<|fA (Ai b) gu,blM (177:TypeId) [] [],chfB<|Ah chC ch,buB l] ?_;refine zY [] [] [Ae 4 0,(q20_ ch),(q3_ x)] [Ae 4 0,(q20_ ch),(q3_ x)] (A1 _) (by exact hwt) ?_;refine v0s<|veT<|zA<|vAe<|vEf ((Aa (dg w):Int)) ((0:Int))<|vK<|vA<|vr 5 (i6 (↑(Aa x)-1)/\True/\(0:Int)<=(Aa x:Int)-(1:Int)/\True/\0<3/\0<=AB ((Aa x:Int)-(1:Int))/\AB ((Aa x:Int)-(1:Int))<=Aa x/\AB ((Aa x:Int)-(1:Int))=AB ((Aa x:Int)-(1:Int)))<|vs 51 (Aj (Aw ((AB ((Aa x:Int)-(1:Int))-0)*3)<|Ak 0<|zJ x) (AB ((Aa x:Int)-(1:Int))-0)) (Aj (zJ<|kyX x) (Aa x-1)) (by simp(disch:=omega) only[BQ,Bb,htn,hkx]) ?_;refine veT<|zA<|vA<|vw 9 [] [(3,Ab)] (True/\((Aa l:Int)==(0:Int))=Ab/\i6 (↑(Aa l)-1)/\(0:Int)<=(Aa l:Int)-(1:Int)/\(Aa l:Int)-(1:Int)<(Aa l:Int)) (vs 60 (Ae 10 (0+AB ((Aa l:Int)-(1:Int))*3)) (Ae 10 (Aa m*3)) (by simp(disch:=omega) only[Cf,htk])<|vr 2 (True/\0<Aa (Ak (Aa m*3)<|Ah buC l))<|vs 62 (Bm (Ak (Aa m*3)<|Ah buC l) Uk) (Aj (zJ uk)<|Aa uk) (by simp(disch:=omega) only[List.headD_cons,hat])<|vrT 1<|vc hrq<|veT<|vt<|vd [0,1,3,4,5,6,8,2,7,9,10,11,12,13,14,15]<|vr 7 (True/\True) ?_) ⟨trivial,(by exact decide_eq_false (by omega)),(by omega),(by omega)⟩;refine vc hcln<|vr 2 (0<8/\ix ↑v (Aa (AW b):Int) (Ao bD (AW b)≠[]))<|vp 76 v (Ao bD<|AW b)<|vr 1 (0<Aa (Ak v<|Ao bD<|AW b))<|vsh 77 hdes<|vc (wnew_c ud)<|ve (((1=1/\1<=3/\2=2/\3<=3/\True)/\Ad=Ad)/\((3=3/\3<=3/\True)/\0<3/\3=3/\3<=16777216/\1<=9223372036854775807)/\Ad=Ad/\Aa (Ah buC l)=Aa l*3/\Aa l*3=Aa l*3/\91=91/\3=3/\3=3/\0<3/\0<40/\91=91/\(Aa l+1)*40<=140737488355328/\3=3/\Bt Au=Ab/\(Ab=Ab\/Bv Au=Ad))<|vA<|vr 5 (i6 (↑(Aa l+1)-1)/\(0:Int)<=(↑(Aa l+1):Int)-(1:Int)/\(↑(Aa l+1):Int)-(1:Int)<(↑(Aa l+1):Int))<|vs 86 (Ae 10 (0+AB ((↑(Aa l+1):Int)-(1:Int))*3)) (Ae 10 (Aa l*3)) (by simp(disch:=omega) only[Cf,htl])<|veT<|zA<|vd [0,1,2,4,5,6,7,8,10,3,9,11,12,13,14,15,16,17] ?_;refine vr 8 (True/\i6 (↑(Aa x)-1)/\ix ((Aa x:Int)-(1:Int)) (Aa x:Int) (zJ x≠[])) (vs 96 (AK<|Ak (AB ((Aa x:Int)-(1:Int))*3)<|zJ x) (AK<|Ak ((Aa x-1)*3)<|zJ x) (by simp(disch:=omega) only[htn])<|vr 2 (2<=Aa (Ak (Aa l*3+1) (Ah buC l++[Aj (zJ<|kyX x) (Aa x-1),bD ud,Ap<|Am<|BR AM]))) (vs 91 (AJ<|Aw 2<|Ak (Aa l*3+1) (Ah buC l++[Aj (zJ<|kyX x) (Aa x-1),bD ud,Ap<|Am<|BR AM])) (AJ [bD ud,Ap<|Am<|BR AM]) (by simp(disch:=omega) only[List.take_succ_cons,List.take_nil,hdr1])<|vr 1 (3<=Aa (Ak ((Aa x-1)*3)<|zJ x))<|vs 97 (AJ<|Aw 3<|Ak ((Aa x-1)*3)<|zJ x) (AJ<|vaC<|AA x (Aa x-1) Af) (by simp(disch:=omega) only[htv])<|vc hp1<|ve (0<2/\1<2/\Ab=Ab/\Ad=Ad/\2=2/\2<=2)<|zA<|vAe<|vf<|zQ ?_) (by exact hs2 _ _ _)) ⟨trivial,(by omega),⟨(by omega),⟨(by omega),(by exact zHp _ (by omega))⟩⟩⟩;refine vN<|zB rfl<|vr 5 (2<=2/\True/\Ab=Ab/\Ad=Ad/\2=2/\Aa l*3+1+2<=Aa (Ah buC l++[(q35_ x),bD ud,Ap<|Am<|BR AM])/\¬10∈[]) (vnil<|zD<|vN<|zB rfl<|vr 2 (i6 (↑i+1))<|vnil<|zC ?_) ⟨(by omega),trivial,⟨(by kernel_rfl),⟨(by kernel_rfl),⟨(by kernel_rfl),⟨(by exact hs3 _ _ _),(by decide)⟩⟩⟩⟩⟩;rotate_left
   refine⟨i+1,by omega,by omega,?_⟩;rw[hsu,hln2,hup];refine wkn (fr 137 [(0,Ae 4 0),(1,iD v),(5,(q20_ ch)),(6,Ay 10 0 (Aa l+1) ((Aa l+1)*3) Ad),(11,Ae 10 (Aa l*3)),(12,Ae 12 0),(13,iD 0),(34,Aj (Ao rowV rows) (Aa rows)),(35,iD (Aa rows)),(36,iD ↑(i+1)),(103,bD Ab),(105,Ae 10 (Aa l*3)),(106,AJ [bD ud,Ap (WT.d (WT.put ud (vaX x) w WT.nil))]),(107,Ae 10 (Aa l*3)),(108,Ae 10 (Aa l*3+1)),(109,iD ↑(i+1))]) [(q26_ b),q27_,(q28_ b),(q29_ b),(q30_ b),An (Ao (zAi 10) (fA (Ag b) gv)) 170 1 Ad Ab A_,An (Ao (zAi 10) (fA (Ag b) λ(c:Nat)=>if c=v then AR 8 else gt c)) 177 1 Ad Ab A_,(q33_ b gu),q31_,(q34_ ch),An (List.set (List.set (Ah buC l++[(q35_ x),bD ud,Ap (Am (BR AM))]) (Aa l*3+1) (bD ud)) (Aa l*3+1+1) (Ap (WT.d (WT.put ud (vaX x) w WT.nil)))) 91 3 Ad Ab Au,An [(q35_ x),bD ud,Ap (WT.d WT.nil)] 91 3 Ad Ab Au,An [bD ud,Ap (WT.d (WT.put ud (vaX x) w WT.nil))] 57 0 Ab Ab Au] ?_;rw[k5,k6];refine zA5 (N:=11) (4<11/\10<11/\True) rfl hnm2 (λk hk=>zDi k (by omega)) ?_ ⟨by omega,by omega,trivial⟩;refine vk 13 ?_;grind [zDi]
  obtain rfl:i=rows.length:=by omega
  rw[Bf];obtain⟨g1,g2⟩:=hgo rows.length;rw[Bf]at g1 g2;generalize hGg:grpL desc (λx=>wtL b.f VT TT x ch) rows=l at*;generalize hsi:sumW (λx=>wtL b.f VT TT x ch) rows=sw at*;focus
   refine vAu<|zA<|vF ((Aa rows:Int)<↑(Aa rows))<|vZ2<|zA<|zA ?_;refine zB rfl<|veT<|zH ?_;rotate_left
  refine zK (λ(j:Nat)=>fr 137 [(0,Ae 4 0),(1,iD v),(6,Ay 10 0 (Aa l) (Aa l*3) Ad),(110,Ay 10 0 (Aa l) (Aa l*3) Ad),(111,iD<|Aa l),(112,iD j)]) (λ(j:Nat)=>[blI b,blX,blG b,blE b,blB b,blV<|fA b.n gv,blT (fA b.n λc=>if c=v then .mref 8 else gt c),blU<|fA b.f gu,mapT<|totL<|l.take j,chfB<|ch.flatMap chC,buB l]) (λ(j:Nat)=>l.length-j) (λ(j:Nat)=>j<=l.length) 0 ?_ ?_ ?_
  ·omega
  ·rw[show totL (l.take 0)=[]from rfl];refine vk 11 ?_;grind [zDi]
  intro j h4;rcases AX j l.length with h5|h5
  ·have hgt2:=zCz zCg l j h5;have hgle:=zEv zCg l j h5;have hmem:l.getD j Af∈l:=by rw[A0,AV h5];exact A4 h5
   have hg:=g2 _ hmem;have hsu:=totL_succ l j h5;generalize hKj:totL (l.take j)=K at*;generalize l.getD j Af=u at*;have hq1:=hg.q.1;have hid:=zCr u.key u.key.length rfl (by omega) hg.q.2;have htot:=wtotal_c u.desc u.t (hsum.le hg.s);have hmp:=mput_t K u.key u.t.tot;have hget:((fA b.n λc=>if c=v then .mref 8 else gt c).drop v).headD .unk= .mref 8:=by rw[zD4 hvn];exact if_pos rfl
   have hps:=zCa (g:=λc=>if c=v then .mref 8 else gt c) hvn;have hnm2:∀e∈[blI b,blX,blG b,blE b,blB b,blV (fA b.n gv),blT (fA b.n λc=>if c=v then .mref 8 else gt c),blU (fA b.f gu),mapT (tput K u.key u.t.tot),chfB (ch.flatMap chC),buB l],namB 11 e:=zHf (by omega) (hgv1 11 (by omega)) (hgt1 11 (by omega)) λe he=>by
    simp only[BA,Cl,or_false]at he;rcases he with rfl|rfl|rfl<;>exact .inl rfl
   focus
    refine vAu (zA (vT ((j:Int)<↑(Aa l)) (vKB (vA (vr 1 ((0:Int)<=(j:Int)/\(j:Int)<↑(Aa l)) ?_)))));refine vo0 114 10 (j*3) (vr 1 (3<=Aa (Ak (j*3) (AO (buB l)))) (vs 115 (AJ (Aw 3 (Ak (j*3) (AO (buB l))))) (AJ (buC u)) (by simp(disch:=omega) only[hgt2]) (ve (Ab=Ab/\Ad=Ad/\3=3/\3<=3) (vd [0,1,2,4,7,10,3,5,6,8,9,11,12,13] (vr 8 (True/\True/\True/\0<2/\(0:Int)<=(v:Int)/\(v:Int)<↑(Ag b)) (vo 121 6 v (vr 1 (0<Aa (Ak v (AO (blT (fA (Ag b) λ(c:Nat)=>if c=v then AR 8 else gt c))))) (vsh 122 hget (vr 1 (0<3) (vc hid (vr 1 (2<=2) (vc htot (vr 1 (A2 (mapT K)=Ab/\zW (A7 (A8 A9 "string" 1 16 Ad 8 8 (AI (AG (A3 #[]))) Ad #[])) (AG (bs (idR (Bu.key u))))=Ad/\Bo (Ao (λ(p:List Va×Nat)=>kyv (Az p)) K) (zW (A7 (A8 A9 "string" 1 16 Ad 8 8 (AI (AG (A3 #[]))) Ad #[])))=Ad/\¬8∈[]) ?_ ⟨(by kernel_rfl),⟨(by kernel_rfl),⟨(by exact zF9 _),(by decide)⟩⟩⟩)))))))))))));refine vb 8 (mput (mapT K) (Ao (λ(p:List Va×Nat)=>kyv (Az p)) K) (AG (bs (idR (Bu.key u)))) (natD (WT.tot (Bu.t u)))) (mapT (tput K (Bu.key u) (WT.tot (Bu.t u)))) (by simp(disch:=omega) only[hmp]) (vnil (zD (vN (zB rfl (vr 2 (i6 (↑j+1)) (vnil (zC ?_)))))));rotate_left
   refine⟨j+1,by omega,by omega,?_⟩;rw[hsu];refine wkn (fr 137 [(0,Ae 4 0),(1,iD v),(6,Ay 10 0 (Aa l) (Aa l*3) Ad),(15,Ae 11 0),(110,Ay 10 0 (Aa l) (Aa l*3) Ad),(111,iD (Aa l)),(112,iD ↑(j+1)),(116,Ae 4 0),(117,Ae 4 0),(118,Ae 4 8),(119,Ay 6 0 (Ag b) (Ag b) Ad),(120,iD v),(121,Ae 6 v),(122,AR 8),(123,Ae 11 0),(124,(q36_ u)),(125,Am (AG (bs (idR (Bu.key u))))),(126,Ae 11 1),(127,AJ [bD (Bu.desc u),Ap (WT.d (Bu.t u))]),(128,natD (WT.tot (Bu.t u))),(129,iD ↑(j+1))]) [blI b,blX,blG b,blE b,blB b,blV (fA (Ag b) gv),blT (fA (Ag b) λ(c:Nat)=>if c=v then AR 8 else gt c),blU (fA (Ai b) gu),mapT (tput K (Bu.key u) (WT.tot (Bu.t u))),chfB (Ah chC ch),buB l,An [(q36_ u),bD (Bu.desc u),Ap (WT.d (Bu.t u))] 91 0 Ab Ab Au] ?_;refine zA5 (N:=11) (4<11/\10<11/\10<11/\True) rfl hnm2 (λk hk=>zDi k (by omega)) ?_ ⟨by omega,by omega,by omega,trivial⟩;refine vk 12 ?_;grind [zDi]
  obtain rfl:j=l.length:=by omega
  rw[Bf];have hall:=zN7 zCg l l.length rfl;have hsu:(fA b.f gu).set v (busD l)=fA b.f λc=>if c=v then busD l else gu c:=zEw
  have hful:(fA b.f gu).length=b.f:=zEx;focus
   refine vAu<|zA<|vF ((Aa l:Int)<↑(Aa l))<|vZ2<|vA ?_;refine vr 7 (True/\0<1/\(0:Int)<=(v:Int)/\(v:Int)<↑(Ai b))<|vo 136 7 v<|vr 1 (A2 (blU<|fA (Ai b) gu)=Ab/\Ad=Ad/\1=1/\v+1<=Aa (AO<|blU<|fA (Ai b) gu)/\¬7∈[10])<|vb 7 (An (setAt (AO<|blU<|fA (Ai b) gu) v<|cellsOf<|Aj (Aw (Aa l*3)<|Ak 0<|AO<|buB l)<|Aa l) (Bp<|blU<|fA (Ai b) gu) (Bq<|blU<|fA (Ai b) gu) Ad Ab<|Bj<|blU<|fA (Ai b) gu) (An (fA (Ai b) λ(c:Nat)=>if c=v then busD l else gu c) (88:TypeId) 1 Ad Ab Au) (by simp(disch:=omega) only[cellsOf,Bb,setAt,hsu,hall])<|veT<|vAe<|zE ?_;refine zM (True) [q2_] (.inr rfl) ?_;rotate_left
  exact⟨by kernel_rfl,by kernel_rfl⟩
 generalize grpL (b.desc.getD v Ab) (λx=>wtL b.f VT TT x (chV b v)) (b.R.getD v Af).2=l;have e2:(fA b.n λc=>if c=v then .mref 8 else gt c).set v (zGv (totL l))=fA b.n λc=>if c=v then zGv (totL l)else gt c:=by
  simp_all [zEw,zB5]
 have hw:=BP (T:=Tre) (sl:=[iD 0]) (st:=[blI b,blX,blG b,blE b,blB b,blV (fA b.n gv),blT (fA b.n λc=>if c=v then .mref 8 else gt c),blU (fA b.f λc=>if c=v then busD l else gu c),mapT (totL l),chfB ((chV b v).flatMap chC),{buB l with fz:=Ad}]) (j:=6) (i:=v) (d:= .mref 8) (x:=zGv (totL l)) (ks:=[8]) rfl rfl rfl (by rw[zX6 hvn];exact congrArg AI (if_pos rfl)) rfl (by decide);refine hw.trans ?_;show Weak Tre _ ([blI b,blX,blG b,blE b,blB b,blV (fA b.n gv),blT ((fA b.n λc=>if c=v then .mref 8 else gt c).set v (zGv (totL l))),blU (fA b.f λc=>if c=v then busD l else gu c)]++[{mapT (totL l)with fz:=Ad},chfB ((chV b v).flatMap chC),{buB l with fz:=Ad}]) _ _;rw[e2];refine zHm (N:=8) rfl (zHf (AY _) (zEy.2 h.gw) (zEy.2 λc hc j hj=>?_) (by simp)) (by intro j hj;cases hj) zDi;split
 ·rfl
 exact h.tw c hc j hj
def rone(L:List Bg)(f:Nat)(VT:Nat->List Rw)(TT:Nat->List (Rw×Nat))(v:Nat):Nat:=if 0<=(L.getD v Af).p then 1 else if v<f then(tlk (TT v) []).getD 0 else if VT v=[]then 0 else 1
def rtL(L:List Bg)(f:Nat)(VT:Nat->List Rw)(TT:Nat->List (Rw×Nat))(i:Nat):Nat:=((AT i).map (rone L f VT TT)).foldl (· *·) 1
theorem zWq(L:List Bg)(f:Nat)(VT:Nat->List Rw)(TT:Nat->List (Rw×Nat))(i:Nat):rtL L f VT TT (i+1)=rtL L f VT TT i*rone L f VT TT i:=by
 grind [rtL,Cy]
theorem rtL_bad{L:List Bg}{f:Nat}{VT:Nat->List Rw}{TT:Nat->List (Rw×Nat)}{p n:Nat}(h:p<n)(hb:rone L f VT TT p=0):rtL L f VT TT n=0:=by
 induction n with
 |zero=>omega
 |succ n ih=>
  rw[zWq];grind
def rbad(L:List Bg)(f:Nat)(VT:Nat->List Rw)(v:Nat):Bool:=decide ((L.getD v Af).p<0)&&decide (f<=v)&&decide (VT v=[])
def zG0(A:List (List Nat×List Rw)):Bool:=A.any λa=>decide (a.2=[])
def totB(b:Bd)(VT:Nat->List Rw)(TT:Nat->List (Rw×Nat)):Nat:=if zG0 b.A then 0 else rtL b.L b.f VT TT b.L.length
def Tto:Par:=⟨λ_=>Ab,λ_ _=>AM,λk=>decide (k<8),λo=>match o with
 | .call {callee:= .builtin .len,argTypes:=t,..}=>t==#[170]
 |_=>Ab,λ_=>Ab⟩
theorem Tto_ok:zA7 AH Tto:=by intro t n f h;cases h
theorem keepO{st:List Bk}(h:st.length=8):∀k,k<st.length->Tto.keep k=true:=λk hk=>by
 show decide (k<8)=Ad;rw[decide_eq_true_eq];omega
theorem zFr:∀k,8<=k->Tto.keep k=false:=λk hk=>by
 show decide (k<8)=Ab;rw[decide_eq_false_iff_not];omega
abbrev atK(a:List Nat×List Rw):Bk:=⟨atR a,87,0,Ab,Ab, .plain⟩
abbrev bgK1(c:Bg):Bk:=⟨bgC c,99,0,Ab,Ab, .plain⟩
abbrev q37_(x0:Bg):=An [iD ↑(Bg.v x0),dig (Bg.k x0),iD (Ba x0)] 99 0 Ab Ab Au
theorem total_c(b:Bd)(gv gt:Nat->D)(VT:Nat->List Rw)(TT:Nat->List (Rw×Nat))(c7:List D)(hn:b.n<=1000)(hL:b.L.length=b.n)(hA:b.A.length<=1000)(hAl:∀a∈b.A,a.2.length<=65536)
  (hv:∀v,v<b.n->b.f<=v->(b.L.getD v Af).p<0->gv v=zHo (VT v))(ht:∀v,v<b.n->v<b.f->(b.L.getD v Af).p<0->gt v=zGv (TT v))
  (hS:∀i,i<=b.n->Sm (rtL b.L b.f VT TT i))(hS1:∀v,v<b.n->∀p∈TT v,Sm p.2)
  (hgw:∀c,c<b.n->∀j,8<=j->refs j (gv c)=Ab)(htw:∀c,c<b.n->∀j,8<=j->refs j (gt c)=Ab):
  Acts AH 53 [.own 4 0] [blI b,blX,blG b,blE b,blB b,blV (fA b.n gv),blT (fA b.n gt),blU c7] [] (natD (totB b VT TT)) [blI b,blX,blG b,blE b,blB b,blV (fA b.n gv),blT (fA b.n gt),blU c7]:=by
 have hnm:∀e∈[blI b,blX,blG b,blE b,blB b,blV (fA b.n gv),blT (fA b.n gt),blU c7],namB 8 e:=zHf (AY _) (zEy.2 hgw) (zEy.2 htw) (by simp);have hac:∀a:List Nat×List Rw,(atR a).length=3:=λ_=>rfl;have hbc:∀c:Bg,(bgC c).length=3:=λ_=>rfl;obtain⟨m1,m2,res,bs,hres,hm1,hgood1,hm2,hgood2,hend⟩:∃(m1 m2:Nat)(res:D)(bs:List Bk),LeD res (natD (totB b VT TT))/\m1<=b.A.length/\(∀j,j<m1->0<(b.A.getD j Af).2.length)/\m2<=b.L.length/\(∀j,j<m2->rbad b.L b.f VT j=Ab)/\
   ((m1<b.A.length/\(b.A.getD m1 Af).2=[]/\res= .val (.slice AM 0 0)/\bs=[atK (b.A.getD m1 Af)])\/(m1=b.A.length/\m2=b.L.length/\res=natD (rtL b.L b.f VT TT b.L.length)/\bs=[])\/(m1=b.A.length/\m2<b.L.length/\rbad b.L b.f VT m2=Ad/\res= .val (.slice AM 0 0)/\bs=[bgK1 (b.L.getD m2 Af)])):=by
  by_cases h1:∃p,p<b.A.length/\decide ((b.A.getD p Af).2=[])=Ad
  ·obtain⟨p,hp,hpb,hmin⟩:=zD0 (p:=λi=>decide ((b.A.getD i Af).2=[])) h1;have hpb2:(b.A.getD p Af).2=[]:=by simpa using hpb
   have e:totB b VT TT=0:=by
    grind [totB,zG0,BS,AV,A4]
   refine⟨p,0,_,_,by rw[e];exact zL8,by omega,λj hj=>?_,Br _,λj hj=>by omega, .inl ⟨hp,hpb2,rfl,rfl⟩⟩;grind
  have hall:∀j,j<b.A.length->0<(b.A.getD j Af).2.length:=λj hj=>List.length_pos_iff.2 λhh=>h1 ⟨j,hj,by simpa using hh⟩;have e:totB b VT TT=rtL b.L b.f VT TT b.L.length:=by
   grind [totB,zG0,BS,BT,AV]
  by_cases h2:∃p,p<b.L.length/\rbad b.L b.f VT p=Ad
  ·obtain⟨p,hp,hpb,hmin⟩:=zD0 h2;refine⟨b.A.length,p,_,_,?_,AY _,hall,by omega,hmin, .inr (.inr ⟨rfl,hp,hpb,rfl,rfl⟩)⟩;rw[e,rtL_bad (TT:=TT) hp]
   ·exact zL8
   unfold rbad at hpb;simp only[BI,decide_eq_true_eq]at hpb;grind [rone]
  refine⟨b.A.length,b.L.length,_,_,by rw[e];exact Bx _,AY _,hall,AY _,λj hj=>?_, .inr (.inl ⟨rfl,rfl,rfl,rfl⟩)⟩;grind
 refine Acts.res (x:=res) ?_ hres;refine Acts.cutN (bs:=bs) ?_ (AY _) hnm (λj hj=>by rcases hend with⟨_,_,rfl,_⟩|⟨_,_,rfl,_⟩|⟨_,_,_,rfl,_⟩<;>rfl);obtain⟨one,e1⟩:∃o:Nat,o=1:=⟨1,rfl⟩;have hof:Pure AH 36 [.val (.int .u64 1)] [] (natD one):=by subst e1;exact of_c 1 (by decide)
 have hw0:rtL b.L b.f VT TT 0=one:=e1.symm;refine zN Tto_ok mixed Tryz.func53 rfl (keepO rfl) ?_;focus
  refine vAu<|zA<|vA<|ve (True/\True/\0<6)<|zH ?_;rotate_left
 refine zK (λ(i:Nat)=>fr 66 [(0,Ae 4 0),(12,(q19_ b)),(13,iD (Aa (AN b):Int)),(14,iD i)]) (λ(i:Nat)=>[blI b,blX,blG b,blE b,blB b,blV<|fA b.n gv,blT<|fA b.n gt,blU c7]) (λ(i:Nat)=>m1-i) (λ(i:Nat)=>i<=m1) 0 ?_ ?_ ?_
 ·omega
 ·refine vk 8 ?_;all_goals exact zFr
 intro i h1;rcases AX i m1 with h3'|h3'
 ·have h3:i<b.A.length:=by omega
  have hg2:=zCz hac b.A i h3;have hle:=zEv hac b.A i h3;have hne:=zDe hac (by decide) b.A (by omega);have hgd:=hgood1 i h3';generalize b.A.getD i Af=a at*;have hlen:=zKe (a.1.length:Nat) (a.2.map rowV) a.2.length;focus
   refine vAu<|zA<|vT ((i:Int)<(Aa (AN b):Int))<|vKB<|vA<|vr 2 (ix ↑i (Aa (AN b):Int) (Ah atR (AN b)≠[])/\3<=Aa (Ak (i*3)<|Ah atR<|AN b)) ?_;refine vs 17 (AJ<|Aw 3<|Ak (i*3)<|Ah atR<|AN b) (AJ<|atR a) (by simp(disch:=omega) only[hg2])<|ve (Ab=Ab/\Ad=Ad/\3=3/\3<=3)<|vA<|vr 2 (True/\2<=2)<|vc hlen<|veT<|vEf ((Aa (AL a):Int)) ((0:Int))<|zQ<|zD<|vN<|zB rfl<|vr 2 (i6 (↑i+1)) ?_;refine vnil<|zC ?_;rotate_left
  refine⟨i+1,by omega,by omega,?_⟩;refine wkn (fr 66 [(0,Ae 4 0),(12,(q19_ b)),(13,iD (Aa (AN b):Int)),(14,iD ↑(i+1)),(21,bD ((Aa (AL a):Int)==(0:Int))),(22,iD ↑(i+1))]) [blI b,blX,blG b,blE b,blB b,blV (fA (Ag b) gv),blT (fA (Ag b) gt),blU c7,An [Aj (nsD (Az a)) (Aa (Az a)),iD (Aa (Az a):Int),Aj (Ao rowV (AL a)) (Aa (AL a))] 87 0 Ab Ab Au] ?_;refine zA5 (N:=8) (4<8/\True) rfl hnm (λk hk=>zFr k (by omega)) ?_ ⟨by omega,trivial⟩;refine vk 9 ?_;grind [zFr]
 obtain rfl:i=m1:=by omega
 rcases hend with⟨h3,he,rfl,rfl⟩|hend
 ·have hg2:=zCz hac b.A i h3;have hle:=zEv hac b.A i h3;have hne:=zDe hac (by decide) b.A (by omega);generalize b.A.getD i Af=a at*;have hl0:a.2.length=0:=by rw[he];rfl
  have hlen:=zKe (a.1.length:Nat) (a.2.map rowV) a.2.length;focus
   refine vAu<|zA<|vT ((i:Int)<(Aa (AN b):Int))<|vKB<|vA<|vr 2 (ix ↑i (Aa (AN b):Int) (Ah atR (AN b)≠[])/\3<=Aa (Ak (i*3)<|Ah atR<|AN b)) ?_;refine vs 17 (AJ<|Aw 3<|Ak (i*3)<|Ah atR<|AN b) (AJ<|atR a) (by simp(disch:=omega) only[hg2])<|ve (Ab=Ab/\Ad=Ad/\3=3/\3<=3)<|vA<|vr 2 (True/\2<=2)<|vc hlen<|veT<|vEt ((Aa (AL a):Int)) ((0:Int))<|vAe<|zE<|zL<|zG ?_;refine zG<|zL<|zG ?_;refine zM (True) [nl] (.inr rfl) ?_;rotate_left
  exact⟨by kernel_rfl,by kernel_rfl⟩
 have hi:i=b.A.length:=by rcases hend with⟨h,_⟩|⟨h,_⟩<;>exact h
 subst hi;focus
  refine vAu<|zA<|vF ((Aa (AN b):Int)<(Aa (AN b):Int))<|vZ2<|vA ?_;refine vc hof<|veT<|zA<|vA<|ve (True/\0<5)<|zH ?_;rotate_left
 refine zK (λ(j:Nat)=>fr 66 [(0,Ae 4 0),(5,natD<|rtL (Aq b) (Ai b) VT TT j),(27,(q16_ b)),(28,iD (Aa (Aq b):Int)),(29,iD j)]) (λ(j:Nat)=>[blI b,blX,blG b,blE b,blB b,blV<|fA b.n gv,blT<|fA b.n gt,blU c7]) (λ(j:Nat)=>m2-j) (λ(j:Nat)=>j<=m2) 0 ?_ ?_ ?_
 ·omega
 ·rw[hw0];refine vk 8 ?_;all_goals exact zFr
 have hidn:Pure AH 59 [.val (.slice AM 0 0)] [] (strD (idR [])):=(zCr [] 0 rfl (by omega) (by intro v hv;cases hv)).le (.cons LeD.nil_row .nil);intro j h2;rcases AX j m2 with h4'|h4'
 ·have h4:j<b.L.length:=by omega
  have hjn:j<b.n:=by omega
  have hg2:=zCz hbc b.L j h4;have hle:=zEv hbc b.L j h4;have hne:=zDe hbc (by decide) b.L (by omega);have hgd:=hgood2 j h4';have hsu:=zWq b.L b.f VT TT j;have hvj:=hv j hjn;have htj:=ht j hjn;have hsj:=hS j (by omega);unfold rbad at hgd;unfold rone at hsu;generalize b.L.getD j Af=c at*;by_cases hp:0<=c.p
  ·rw[if_pos hp,A5]at hsu;focus
    refine vAu<|zA<|vT ((j:Int)<(Aa (Aq b):Int))<|vKB<|vA<|vr 3 (ix ↑j (Aa (Aq b):Int) (Ah bgC (Aq b)≠[])/\3<=Aa (Ak (j*3)<|Ah bgC<|Aq b)) ?_;refine vs 33 (AJ<|Aw 3<|Ak (j*3)<|Ah bgC<|Aq b) (AJ<|bgC c) (by simp(disch:=omega) only[hg2])<|ve (Ab=Ab/\Ad=Ad/\3=3/\3<=3)<|zA<|vA<|ve (True/\0<1)<|vT (Ba c>=(0:Int))<|vZ<|zB rfl<|vr 2 (i6 (↑j+1)) ?_;refine vnil<|zC ?_;rotate_left
   refine⟨j+1,by omega,by omega,?_⟩;rw[hsu];refine wkn (fr 66 [(0,Ae 4 0),(5,natD (rtL (Aq b) (Ai b) VT TT j)),(6,iD j),(27,(q16_ b)),(28,iD (Aa (Aq b):Int)),(29,iD ↑(j+1)),(36,bD (decide (Ba c>=(0:Int)))),(64,iD ↑(j+1))]) [blI b,blX,blG b,blE b,blB b,blV (fA (Ag b) gv),blT (fA (Ag b) gt),blU c7,(q37_ c)] ?_;refine zA5 (N:=8) (4<8/\True) rfl hnm (λk hk=>zFr k (by omega)) ?_ ⟨by omega,trivial⟩;refine vk 9 ?_;grind [zFr]
  rw [if_neg hp]at hsu;by_cases hf:j<b.f
  ·rw[if_pos hf]at hsu;have hgt:((fA b.n gt).drop j).headD .unk=zGv (TT j):=by rw[zD4 hjn];exact htj hf (by omega)
   have hps:=zCa (g:=gt) hjn;have hlk:=look_t (.val (.slice AM 0 0)) (TT j) [];cases e:tlk (TT j) []with
   | none=>
    rw[e]at hlk hsu;dsimp only[Option.getD_none]at hlk hsu;have hmu:Pure AH 86 [natD (rtL b.L b.f VT TT j), .val (.slice AM 0 0)] [] (natD (rtL b.L b.f VT TT j*0)):=(zW7 _ 0 hsj Sm.zero).le (.cons (.refl _) (.cons zL8 .nil));focus
     refine vAu (zA (vT ((j:Int)<(Aa (Aq b):Int)) (vKB (vA (vr 3 (ix ↑j (Aa (Aq b):Int) (Ah bgC (Aq b)≠[])/\3<=Aa (Ak (j*3) (Ah bgC (Aq b)))) ?_)))));refine vs 33 (AJ (Aw 3 (Ak (j*3) (Ah bgC (Aq b))))) (AJ (bgC c)) (by simp(disch:=omega) only[hg2]) (ve (Ab=Ab/\Ad=Ad/\3=3/\3<=3) (zA (vA (ve (True/\0<1) (vF (Ba c>=(0:Int)) (vK (vA (ve (True/\True/\0<9) (vT ((j:Int)<↑(Ai b)) ?_)))))))));refine vd [0,1,2,3,5,4,6,7,8,9,10,11] (vr 7 (True/\0<2/\(0:Int)<=(j:Int)/\(j:Int)<↑(Ag b)) (vo 50 6 j (vr 1 (0<Aa (Ak j (AO (blT (fA (Ag b) gt))))) (vsh 51 hgt (vc hidn (vr 1 (Ad=Ad/\Bo (Ao (λ(p:List Va×Nat)=>kyv (Az p)) (TT j)) (zW (A7 (A8 A9 "string" 1 16 Ad 8 8 (AI (AG (A3 #[]))) Ad #[])))=Ad) (vsh 53 hlk (vc hmu (vrT 1 (vnil (zD (vN ?_)))))) ⟨(by kernel_rfl),(by exact zF9 _)⟩))))));refine zB rfl (vr 2 (i6 (↑j+1)) (vnil (zC ?_)));rotate_left
    refine⟨j+1,by omega,by omega,?_⟩;rw[hsu];refine wkn (fr 66 [(0,Ae 4 0),(5,Aj [] (Aa (dg (rtL (Aq b) (Ai b) VT TT j*0)))),(6,iD j),(27,(q16_ b)),(28,iD (Aa (Aq b):Int)),(29,iD ↑(j+1)),(43,bD (decide ((j:Int)<↑(Ai b)))),(44,natD (rtL (Aq b) (Ai b) VT TT j)),(45,Ae 4 0),(46,Ae 4 0),(47,Ae 4 8),(48,Ay 6 0 (Ag b) (Ag b) Ad),(49,iD j),(50,Ae 6 j),(51,zGv (TT j)),(52,Am (AG (YtjcofbkhoeockaaGreatDoor.bs (idR [])))),(53,nl),(54,Aj [] (Aa (dg (rtL (Aq b) (Ai b) VT TT j*0)))),(64,iD ↑(j+1))]) [blI b,blX,blG b,blE b,blB b,blV (fA (Ag b) gv),blT (fA (Ag b) gt),blU c7,(q37_ c)] ?_;refine zA5 (N:=8) (4<8/\True) rfl hnm (λk hk=>zFr k (by omega)) ?_ ⟨by omega,trivial⟩;refine vk 9 ?_;grind [zFr]
   | some w=>
    rw[e]at hlk hsu;dsimp only[BM]at hlk hsu;have hw:Sm w:=by
     grind [tlk,CC,List.mem_of_find?_eq_some]
    have hmu:=zW7 (rtL b.L b.f VT TT j) w hsj hw;focus
     refine vAu (zA (vT ((j:Int)<(Aa (Aq b):Int)) (vKB (vA (vr 3 (ix ↑j (Aa (Aq b):Int) (Ah bgC (Aq b)≠[])/\3<=Aa (Ak (j*3) (Ah bgC (Aq b)))) ?_)))));refine vs 33 (AJ (Aw 3 (Ak (j*3) (Ah bgC (Aq b))))) (AJ (bgC c)) (by simp(disch:=omega) only[hg2]) (ve (Ab=Ab/\Ad=Ad/\3=3/\3<=3) (zA (vA (ve (True/\0<1) (vF (Ba c>=(0:Int)) (vK (vA (ve (True/\True/\0<9) (vT ((j:Int)<↑(Ai b)) ?_)))))))));refine vd [0,1,2,3,5,4,6,7,8,9,10,11] (vr 7 (True/\0<2/\(0:Int)<=(j:Int)/\(j:Int)<↑(Ag b)) (vo 50 6 j (vr 1 (0<Aa (Ak j (AO (blT (fA (Ag b) gt))))) (vsh 51 hgt (vc hidn (vr 1 (Ad=Ad/\Bo (Ao (λ(p:List Va×Nat)=>kyv (Az p)) (TT j)) (zW (A7 (A8 A9 "string" 1 16 Ad 8 8 (AI (AG (A3 #[]))) Ad #[])))=Ad) (vsh 53 hlk (vc hmu (vrT 1 (vnil (zD (vN ?_)))))) ⟨(by kernel_rfl),(by exact zF9 _)⟩))))));refine zB rfl (vr 2 (i6 (↑j+1)) (vnil (zC ?_)));rotate_left
    refine⟨j+1,by omega,by omega,?_⟩;rw[hsu];refine wkn (fr 66 [(0,Ae 4 0),(5,natD (rtL (Aq b) (Ai b) VT TT j*w)),(6,iD j),(27,(q16_ b)),(28,iD (Aa (Aq b):Int)),(29,iD ↑(j+1)),(43,bD (decide ((j:Int)<↑(Ai b)))),(44,natD (rtL (Aq b) (Ai b) VT TT j)),(45,Ae 4 0),(46,Ae 4 0),(47,Ae 4 8),(48,Ay 6 0 (Ag b) (Ag b) Ad),(49,iD j),(50,Ae 6 j),(51,zGv (TT j)),(52,Am (AG (YtjcofbkhoeockaaGreatDoor.bs (idR [])))),(53,natD w),(54,natD (rtL (Aq b) (Ai b) VT TT j*w)),(64,iD ↑(j+1))]) [blI b,blX,blG b,blE b,blB b,blV (fA (Ag b) gv),blT (fA (Ag b) gt),blU c7,(q37_ c)] ?_;refine zA5 (N:=8) (4<8/\True) rfl hnm (λk hk=>zFr k (by omega)) ?_ ⟨by omega,trivial⟩;refine vk 9 ?_;grind [zFr]
  have hVn:VT j≠[]:=λhh=>by
   grind
  rw[if_neg hf,if_neg hVn,A5]at hsu;have hgt:((fA b.n gv).drop j).headD .unk=zHo (VT j):=by rw[zD4 hjn];exact hvj (by omega) (by omega)
  have hps:=zCa (g:=gv) hjn;have hvl:0<((VT j).map kyv).length:=by rw[Bc];exact List.length_pos_iff.2 hVn
  focus
   refine vAu<|zA<|vT ((j:Int)<(Aa (Aq b):Int))<|vKB<|vA<|vr 3 (ix ↑j (Aa (Aq b):Int) (Ah bgC (Aq b)≠[])/\3<=Aa (Ak (j*3)<|Ah bgC<|Aq b)) ?_;refine vs 33 (AJ<|Aw 3<|Ak (j*3)<|Ah bgC<|Aq b) (AJ<|bgC c) (by simp(disch:=omega) only[hg2])<|ve (Ab=Ab/\Ad=Ad/\3=3/\3<=3)<|zA<|vA<|ve (True/\0<1)<|vF (Ba c>=(0:Int))<|vK<|vA<|ve (True/\True/\0<9)<|vF ((j:Int)<↑(Ai b)) ?_;refine vA<|vr 6 (True/\0<3/\(0:Int)<=(j:Int)/\(j:Int)<↑(Ag b))<|vo 60 5 j<|vr 1 (0<Aa (Ak j<|AO<|blV<|fA (Ag b) gv))<|vsh 61 hgt<|veT<|vEf ((Aa (Ao kyv<|VT j):Int)) ((0:Int))<|zQ<|zD<|vN<|zB rfl<|vr 2 (i6 (↑j+1)) ?_;refine vnil<|zC ?_;rotate_left
  refine⟨j+1,by omega,by omega,?_⟩;rw[hsu];refine wkn (fr 66 [(0,Ae 4 0),(5,natD (rtL (Aq b) (Ai b) VT TT j)),(27,(q16_ b)),(28,iD (Aa (Aq b):Int)),(29,iD ↑(j+1)),(63,bD ((Aa (Ao kyv (VT j)):Int)==(0:Int))),(64,iD ↑(j+1))]) [blI b,blX,blG b,blE b,blB b,blV (fA (Ag b) gv),blT (fA (Ag b) gt),blU c7,(q37_ c)] ?_;refine zA5 (N:=8) (4<8/\True) rfl hnm (λk hk=>zFr k (by omega)) ?_ ⟨by omega,trivial⟩;refine vk 9 ?_;grind [zFr]
 obtain rfl:j=m2:=by omega
 rcases hend with⟨_,h4,rfl,rfl⟩|⟨_,h4,hgd,rfl,rfl⟩
 ·rw[<-h4];focus
   refine vAu<|zA<|vF ((j:Int)<↑j)<|vZ2<|vA ?_;refine veT<|zE ?_;refine zM (True) [natD<|rtL (Aq b) (Ai b) VT TT j] (.inr rfl) ?_;rotate_left
  exact⟨by kernel_rfl,by kernel_rfl⟩
 have hjn:j<b.n:=by omega
 have hg2:=zCz hbc b.L j h4;have hle:=zEv hbc b.L j h4;have hne:=zDe hbc (by decide) b.L (by omega);have hvj:=hv j hjn;unfold rbad at hgd;simp only[BI,decide_eq_true_eq]at hgd;generalize b.L.getD j Af=c at*;have hgt:((fA b.n gv).drop j).headD .unk=zHo (VT j):=by rw[zD4 hjn];exact hvj (by omega) (by omega)
 have hps:=zCa (g:=gv) hjn;have hvl:((VT j).map kyv).length=0:=by rw[hgd.2];rfl
 have hc1:¬0<=c.p:=by omega
 have hc2:¬j<b.f:=by omega
 focus
  refine vAu<|zA<|vT ((j:Int)<(Aa (Aq b):Int))<|vKB<|vA<|vr 3 (ix ↑j (Aa (Aq b):Int) (Ah bgC (Aq b)≠[])/\3<=Aa (Ak (j*3)<|Ah bgC<|Aq b)) ?_;refine vs 33 (AJ<|Aw 3<|Ak (j*3)<|Ah bgC<|Aq b) (AJ<|bgC c) (by simp(disch:=omega) only[hg2])<|ve (Ab=Ab/\Ad=Ad/\3=3/\3<=3)<|zA<|vA<|ve (True/\0<1)<|vF (Ba c>=(0:Int))<|vK<|vA<|ve (True/\True/\0<9)<|vF ((j:Int)<↑(Ai b)) ?_;refine vA<|vr 6 (True/\0<3/\(0:Int)<=(j:Int)/\(j:Int)<↑(Ag b))<|vo 60 5 j<|vr 1 (0<Aa (Ak j<|AO<|blV<|fA (Ag b) gv))<|vsh 61 hgt<|veT<|vEt ((Aa (Ao kyv<|VT j):Int)) ((0:Int))<|vAe<|zE<|zL<|zG ?_;refine zG<|zL<|zG ?_;refine zM (True) [nl] (.inr rfl) ?_;rotate_left
 exact⟨by kernel_rfl,by kernel_rfl⟩
def ptI(l:List Bu):Nat->List (List Va×Nat)
 |0=>[]
 |j+1=>tput (ptI l j) (l.getD j Af).key j
abbrev pcellK(K:List (List Va×Nat)):D:= .mfz (K.map λp=>kyv p.1) (K.map λp=>iD ((p.2:Nat):Int))
abbrev zCc(l:List Bu):D:=pcellK (ptI l l.length)
abbrev mapI(K:List (List Va×Nat)):Bk:=⟨K.map λp=>iD ((p.2:Nat):Int),128,0,Ad,Ab, .map (K.map λp=>kyv p.1)⟩
theorem mput_i(K:List (List Va×Nat))(r:List Va)(w:Nat):mput (mapI K) (K.map λp=>kyv p.1) (kyv r) (iD ((w:Nat):Int))=mapI (tput K r w):=by
 unfold mput tput;rw[zXh];cases e:K.findIdx? λs=>decide (r=s.1)with
 |none=>simp
 | some i=>
  rw[B8]at e;obtain⟨h,h1,_⟩:=e;have hr:r=K[i].1:=by simpa using h1
  have e1:(K.map λp=>iD ((p.2:Nat):Int)).set i (iD ((w:Nat):Int))=(K.set i (r,w)).map λp=>iD ((p.2:Nat):Int):=by rw[Cc]
  have e2:(K.set i (r,w)).map (λp=>kyv p.1)=K.map λp=>kyv p.1:=by
   rw[Cc];apply Cd;grind
  simp only[mapI,e1,e2]
def Tas:Par:=⟨λ_=>Ab,λ_ _=>AM,λ_=>Ab,λ_=>Ab,λt=>t==128⟩
theorem Tas_ok:zA7 AH Tas:=by intro t n f h;cases h
theorem keepA:∀k,4<=k->Tas.keep k=false:=λ_ _=>rfl
abbrev ixD(desc:List Bool)(L:List Bg)(U:Nat->List Bu)(tot:Nat):D:= .agg [.row (desc.map bD) desc.length, .row (L.flatMap bgC) L.length, .row (fA desc.length λc=>busD (U c)) desc.length, .row (fA desc.length λc=>zCc (U c)) desc.length,natD tot]
abbrev ixK(c:List D):Bk:=⟨c,46,0,Ab,Ab, .plain⟩
abbrev blU0(c:List D)(fz:Bool):Bk:=⟨c,88,1,Ad,fz, .plain⟩
abbrev blP(c:List D):Bk:=⟨c,128,1,Ad,Ab, .sh⟩
theorem asm_nam{m:Nat}{a b c5 c6:List D}(hm:4<=m)(h6:blw m c6)(hb:blw m b)(ha:blw m a){rest:List Bk}(hr:∀e∈rest,namB m e):∀e∈ixK a::ixK b::blU0 c5 Ab::blP c6::rest,namB m e:=λe he=>by
 simp only[BA]at he;rcases he with rfl|rfl|rfl|rfl|he
 ·exact .inr ha
 ·exact .inr hb
 ·exact .inl rfl
 ·exact .inr h6
 exact hr e he
def uI(U:Nat->List Bu)(i c:Nat):D:=if c<i then busD (U c)else .val (.slice AM 0 0)
def qI(U:Nat->List Bu)(i c:Nat):D:=if c<i then zCc (U c)else .val (.map AM)
theorem zTu(d:D)(n:Nat):repL n [d]=fA n λ_=>d:=by
 rw[<-fA_rep];show(BJ n [d]).flatten=_;simp_all
abbrev q38_(x0:List Bg):=Aj (Ah bgC x0) (Aa x0)
theorem zPh(desc:List Bool)(L:List Bg)(U:Nat->List Bu)(tot:Nat)(hd:desc.length<=1000)(hL:L.length<=1000)(hU:∀c,c<desc.length->(U c).length<=1000000/\∀b∈U c,b.Ok):
  Pure AH 54 [.row (desc.map bD) desc.length, .row (L.flatMap bgC) L.length, .row (fA desc.length λc=>busD (U c)) desc.length,natD tot] [] (ixD desc L U tot):=by
 generalize hn:desc.length=f at*;have hcb:=zVn (desc.map bD) f (by simp[hn]) (by omega);have hcg:=zZm (L.flatMap bgC) L.length (zDj (g:=bgC) (λ_=>rfl) L) (by omega);refine zF Tas_ok mixed Tryz.func54 rfl ?_;have hz1:repL f [.val (.slice AM 0 0)]=fA f (uI U 0):=by
  rw[zTu];exact zB5 λi _=>(if_neg (by omega)).symm
 have hz2:repL f [.val (.map AM)]=fA f (qI U 0):=by
  rw[zTu];exact zB5 λi _=>(if_neg (by omega)).symm
 focus
  refine vAu<|vA<|vrT 1<|vc hcb<|vrT 1<|vc hcg<|ve (((1=1/\1<=5/\1=1/\2<=5/\1=1/\5<=5/\True)/\Ad=Ad)/\Ab=Ab/\Ad=Ad/\5=5/\5<=5)<|zA ?_;refine zA6 [0,1,3,4,2,6,5] [(7,[(5,3)],[8,9])] rfl ?_;refine vr 5 ((0:Int)<=(f:Int)/\(f:Int)<=↑f/\(↑(24:Nat):Int)*(f:Int)<=(281474976710656:Int)/\(f:Int)<=(281474976710656:Int)/\0<1/\1=1)<|vb 2 (An (repL (AB (f:Int)) [nl]) 88 1 Ad Ab<|kdOf Ab) (An (fA f<|uI U 0) 88 1 Ad Ab<|kdOf Ab) (by simp(disch:=omega) only[AS,hz1])<|vr 2 (True/\(0:Int)<=(f:Int)/\(f:Int)<=↑f/\(↑(8:Nat):Int)*(f:Int)<=(281474976710656:Int)/\(f:Int)<=(281474976710656:Int)/\0<1/\1=1)<|vb 3 (An (repL (AB (f:Int)) [Am<|Cg AM]) 128 1 Ad Ab<|kdOf Ad) (An (fA f<|qI U 0) 128 1 Ad Ab<|kdOf Ad) (by simp(disch:=omega) only[AS,hz2])<|vnil<|zBz rfl rfl<|vr 1 (Ab=Ab/\Ad=Ad/\1=1/\3<=5)<|vb 1 (An [Aj (Ao bD desc) f,Aj (Ah bgC L)<|Aa L,Ay 2 0 (AB (f:Int)) (AB (f:Int)*1) Ad,nl,natD tot] 46 0 Ab Ab Au) (An [Aj (Ao bD desc) f,Aj (Ah bgC L)<|Aa L,Ay 2 0 f f Ad,nl,natD tot] 46 0 Ab Ab Au) (by simp(disch:=omega) only[AS,A5]) ?_;refine vnil ?_;refine zEd (C:=((0:Int)<=(f:Int)/\(f:Int)<=↑f/\(↑(8:Nat):Int)*(f:Int)<=(281474976710656:Int)/\(f:Int)<=(281474976710656:Int)/\0<1/\1=1)/\AI (Ay 3 0 (AB (f:Int)) (AB (f:Int)*1) Ad)=AI (Ay 3 0 (AB (f:Int)) (AB (f:Int)*1) Ad)/\eqDL (fA f (qI U 0)) (repL (AB (f:Int)) [Am (Cg AM)])/\128=128/\1=1/\Ad=Ad/\(kdOf Ad)=kdOf Ad) ⟨(by omega),(by kernel_rfl),(by exact hz2.symm),(by kernel_rfl),(by kernel_rfl),(by kernel_rfl),(by kernel_rfl)⟩ ?_;refine vr 2 (True/\Ab=Ab/\Ad=Ad/\1=1/\4<=5)<|vb 1 (An [Aj (Ao bD desc) f,Aj (Ah bgC L)<|Aa L,Ay 2 0 f f Ad,Ay 3 0 (AB (f:Int)) (AB (f:Int)*1) Ad,natD tot] 46 0 Ab Ab Au) (An [Aj (Ao bD desc) f,Aj (Ah bgC L)<|Aa L,Ay 2 0 f f Ad,Ay 3 0 f f Ad,natD tot] 46 0 Ab Ab Au) (by simp(disch:=omega) only[AS,A5])<|vnil<|zBu<|vN<|zA<|vAe<|zH ?_;rotate_left
 refine zK (λ(i:Nat)=>fr 69 [(2,Aj (fA f λ(c:Nat)=>busD (U c)) f),(8,Ae 0 0),(9,Ae 1 0),(28,iD f),(29,iD i)]) (λ(i:Nat)=>[ixK [nl0,nl0,nl0,nl0,nl0],ixK [.row (desc.map bD) f,.row (L.flatMap bgC) L.length,.osl 2 0 f f Ad,.osl 3 0 f f Ad,natD tot],blU0 (fA f<|uI U i) Ab,blP<|fA f<|qI U i]) (λ(i:Nat)=>f-i) (λ(i:Nat)=>i<=f) 0 ?_ ?_ ?_
 ·omega
 ·refine vk 4
 intro i h1;rcases AX i f with h3|h3
 ·have hhd:=zD4 (g:=λc=>busD (U c)) h3;obtain⟨u1,u2⟩:=hU i h3;have hcp:=copies_c (U i) (U i).length rfl u1 (λb hb=>(u2 b hb).1);have hs1:(fA f (uI U i)).set i (busD (U i))=fA f (uI U (i+1)):=by
   rw[zEw];refine zB5 λc _=>?_;grind [uI]
  have hs2:(fA f (qI U i)).set i (.mref 4)=fA f λc=>if c=i then .mref 4 else qI U i c:=zEw
  have hl1:(fA f (uI U i)).length=f:=zEx;have hl2:(fA f (qI U i)).length=f:=zEx;focus
   refine vAu<|zA<|vT ((i:Int)<↑f)<|vKB<|vAe ?_;refine zA ?_;refine zA6 [0,2,3,5,6,7,8,1,4,9,10,12,11] [(13,[(4,100000),(11,4)],[14,15])] rfl ?_;refine vr 7 (True/\True/\ix ↑i ↑f ((fA f λ(c:Nat)=>busD (U c))≠[])) (vp 40 i (fA f λ(c:Nat)=>busD (U c))<|vr 3 (0<3/\0<2/\0<Aa (Ak i (fA f λ(c:Nat)=>busD (U c)))) (vsh 41 hhd<|vc hcp<|vr 1 ((0:Int)<=(i:Int)/\(i:Int)<↑f)<|vo 44 2 i<|vrT 1<|vnil<|zBz rfl rfl<|vr 1 (A2 (blU0 (fA f<|uI U i) Ab)=Ab/\Ad=Ad/\1=1/\i+1<=Aa (AO<|blU0 (fA f<|uI U i) Ab)/\¬2∈[])<|vb 2 (An (setAt (AO<|blU0 (fA f<|uI U i) Ab) i<|cellsOf<|Aj (Ah buC<|U i)<|Aa<|U i) (Bp<|blU0 (fA f<|uI U i) Ab) (Bq<|blU0 (fA f<|uI U i) Ab) Ad Ab<|Bj<|blU0 (fA f<|uI U i) Ab) (An (fA f<|uI U (i+1)) (88:TypeId) 1 Ad Ab Au) (by simp(disch:=omega) only[cellsOf,setAt,hs1])<|vnil ?_) ⟨(by omega),(by omega),(by exact zCa h3)⟩) ⟨trivial,trivial,⟨(by omega),⟨(by omega),(by exact fA_ne h3)⟩⟩⟩;refine zEd (C:=0<2/\AI (Ay 3 0 f f Ad)=AI (Bm [Ay 3 0 f f Ad,natD tot] Uk)/\True/\AI (AR 4)=AI (AR 4)/\eqDL [] []/\128=128/\0=0/\Ad=Ad/\(BB [])=BB []) ⟨(by omega),(by kernel_rfl),trivial,(by kernel_rfl),rfl,(by kernel_rfl),(by kernel_rfl),(by kernel_rfl),(by kernel_rfl)⟩ ?_;refine vr 1 ((0:Int)<=(i:Int)/\(i:Int)<↑f)<|vo 45 3 i<|vr 1 (A2 (blP<|fA f<|qI U i)=Ab/\zD3 (AR 4)=Ad/\1=1/\i+1<=Aa (AO<|blP<|fA f<|qI U i))<|vb 3 (An (setAt (AO<|blP<|fA f<|qI U i) i<|cellsOf<|AR 4) (Bp<|blP<|fA f<|qI U i) (Bq<|blP<|fA f<|qI U i) Ad Ab<|Bj<|blP<|fA f<|qI U i) (An (fA f λ(c:Nat)=>if c=i then AR 4 else qI U i c) (128:TypeId) 1 Ad Ab A_) (by simp(disch:=omega) only[cellsOf,setAt,hs2])<|vnil<|zBu<|zC<|vnn (fr 69 [(2,Aj (fA f λ(c:Nat)=>busD (U c)) f),(8,Ae 0 0),(9,Ae 1 0),(10,iD i),(28,iD f),(29,iD i),(32,Ae 1 2),(33,Ay 2 0 f f Ad),(34,iD i),(35,Ae 1 3),(36,Ay 3 0 f f Ad),(37,iD i),(38,Aj (fA f λ(c:Nat)=>busD (U c)) f),(39,iD i),(40,AK<|Ak i (fA f λ(c:Nat)=>busD (U c))),(41,busD<|U i),(42,Aj (Ah buC<|U i)<|Aa<|U i),(43,AR 4),(44,Ae 2 i),(45,Ae 3 i)]) [ixK [nl0,nl0,nl0,nl0,nl0],ixK [Aj (Ao bD desc) f,Aj (Ah bgC L)<|Aa L,Ay 2 0 f f Ad,Ay 3 0 f f Ad,natD tot],An (fA f<|uI U (i+1)) (88:TypeId) 1 Ad Ab Au,An (fA f λ(c:Nat)=>if c=i then AR 4 else qI U i c) (128:TypeId) 1 Ad Ab A_,An [] 128 0 Ad Ab<|BB []] ?_;rotate_left
  have hg1:((fA f (uI U (i+1))).drop i).headD .unk=busD (U i):=by rw[zD4 h3];exact if_pos (by omega)
  have hg2:((fA f λc=>if c=i then .mref 4 else qI U i c).drop i).headD .unk= .mref 4:=by rw[zD4 h3];exact if_pos rfl
  focus
   refine zAw<|vAs<|vr 4 (True/\0<3/\(0:Int)<=(i:Int)/\(i:Int)<↑f)<|vo 49 2 i<|vr 1 (0<Aa (Ak i<|fA f<|uI U (i+1))) (vsh 50 hg1<|veT<|zH ?_) (by exact zCa h3);rotate_left
  have hq:∀m,5<=m->blw m (fA f λc=>if c=i then .mref 4 else qI U i c):=λm hm=>zEy.2 λc hc j hj=>by
   grind [refs,qI]
  have hnm:∀K,∀e∈[ixK [nl0,nl0,nl0,nl0,nl0],ixK [.row (desc.map bD) f, .row (L.flatMap bgC) L.length, .osl 2 0 f f Ad, .osl 3 0 f f Ad,natD tot],blU0 (fA f (uI U (i+1))) Ab,blP (fA f λc=>if c=i then .mref 4 else qI U i c),mapI K],namB 5 e:=λK=>asm_nam (by omega) (hq 5 (by omega)) (λj hj=>by simp[zX,refs];omega) (λj hj=>by simp[zX,refs]) λe he=>by
   rw[BH]at he;subst he;exact .inl rfl
  refine zK (λ(j:Nat)=>fr 69 [(2,Aj (fA f λ(c:Nat)=>busD (U c)) f),(8,Ae 0 0),(9,Ae 1 0),(10,iD i),(28,iD f),(29,iD i),(50,busD<|U i),(51,iD (Aa (U i):Int)),(52,iD j)]) (λ(j:Nat)=>[ixK [nl0,nl0,nl0,nl0,nl0],ixK [.row (desc.map bD) f,.row (L.flatMap bgC) L.length,.osl 2 0 f f Ad,.osl 3 0 f f Ad,natD tot],blU0 (fA f<|uI U (i+1)) Ab,blP (fA f λc=>if c=i then .mref 4 else qI U i c),mapI<|ptI (U i) j]) (λ(j:Nat)=>(U i).length-j) (λ(j:Nat)=>j<=(U i).length) 0 ?_ ?_ ?_
  ·omega
  ·refine vk 5
  intro j h4;rcases AX j (U i).length with h5|h5
  ·have hgt2:=zCz zCg (U i) j h5;have hgle:=zEv zCg (U i) j h5;have hgne:=zDe zCg (by decide) (U i) (by omega);have hmem:(U i).getD j Af∈U i:=by rw[A0,AV h5];exact A4 h5
   have hbk:=u2 _ hmem;have hsu:ptI (U i) (j+1)=tput (ptI (U i) j) ((U i).getD j Af).key j:=rfl;generalize ptI (U i) j=K at*;generalize (U i).getD j Af=u at*;have hid:=zCr u.key u.key.length rfl hbk.1 hbk.2;have hmp:=mput_i K u.key j;have hnm2:=hnm (tput K u.key j);focus
    refine vAu (zA (vT ((j:Int)<(Aa (U i):Int)) (vKB (vA (vr 3 (ix ↑j (Aa (U i):Int) (Ah buC (U i)≠[])/\3<=Aa (Ak (j*3) (Ah buC (U i)))) ?_)))));refine vs 56 (AJ (Aw 3 (Ak (j*3) (Ah buC (U i))))) (AJ (buC u)) (by simp(disch:=omega) only[hgt2]) (ve (Ab=Ab/\Ad=Ad/\3=3/\3<=3) (vd [0,2,5,8,1,3,4,6,7,9] (vr 6 (True/\True/\0<2/\(0:Int)<=(i:Int)/\(i:Int)<↑f) (vo 60 3 i (vr 1 (0<Aa (Ak i (AO (blP (fA f λ(c:Nat)=>if c=i then AR 4 else qI U i c))))) (vsh 61 hg2 (vr 1 (0<3) (vc hid (vr 1 (A2 (mapI K)=Ab/\zW (A7 (A8 A9 "string" 1 16 Ad 8 8 (AI (AG (A3 #[]))) Ad #[])) (AG (bs (idR (Bu.key u))))=Ad/\Bo (Ao (λ(p:List Va×Nat)=>kyv (Az p)) K) (zW (A7 (A8 A9 "string" 1 16 Ad 8 8 (AI (AG (A3 #[]))) Ad #[])))=Ad/\¬4∈[]) (vb 4 (mput (mapI K) (Ao (λ(p:List Va×Nat)=>kyv (Az p)) K) (AG (bs (idR (Bu.key u)))) (iD j)) (mapI (tput K (Bu.key u) j)) (by simp(disch:=omega) only[hmp]) (vnil (zD (zC ?_)))) ⟨(by kernel_rfl),⟨(by kernel_rfl),⟨(by exact zF9 _),(by decide)⟩⟩⟩)))) (by exact zCa h3))))));refine zAw (zB rfl (vr 2 (i6 (↑j+1)) (vnil (zC ?_))));rotate_left
   refine⟨j+1,by omega,by omega,?_⟩;rw[hsu];refine wkn (fr 69 [(2,Aj (fA f λ(c:Nat)=>busD (U c)) f),(8,Ae 0 0),(9,Ae 1 0),(10,iD i),(11,iD j),(12,Ae 5 0),(28,iD f),(29,iD i),(50,busD (U i)),(51,iD (Aa (U i):Int)),(52,iD ↑(j+1)),(57,Ae 1 3),(58,Ay 3 0 f f Ad),(59,iD i),(60,Ae 3 i),(61,AR 4),(62,Ae 5 0),(63,(q36_ u)),(64,Am (AG (bs (idR (Bu.key u))))),(65,iD j),(66,iD ↑(j+1))]) [ixK [nl0,nl0,nl0,nl0,nl0],ixK [Aj (Ao bD desc) f,(q38_ L),Ay 2 0 f f Ad,Ay 3 0 f f Ad,natD tot],blU0 (fA f (uI U (i+1))) Ab,blP (fA f λ(c:Nat)=>if c=i then AR 4 else qI U i c),mapI (tput K (Bu.key u) j),An [(q36_ u),bD (Bu.desc u),Ap (WT.d (Bu.t u))] 91 0 Ab Ab Au] ?_;refine zA5 (N:=5) (0<5/\1<5/\True) rfl hnm2 (λk hk=>rfl) ?_ ⟨by omega,by omega,trivial⟩;refine vk 6
  obtain rfl:j=(U i).length:=by omega
  focus
   refine vAu<|zA<|vF ((Aa (U i):Int)<(Aa (U i):Int))<|vY2<|zD<|vN<|zB rfl ?_;refine vr 2 (i6 (↑i+1))<|vnil<|zC ?_;rotate_left
  refine⟨i+1,by omega,by omega,?_⟩;have e2:(fA f λc=>if c=i then .mref 4 else qI U i c).set i (zCc (U i))=fA f (qI U (i+1)):=by
   rw[zEw];refine zB5 λc _=>?_;grind [qI]
  have hnm4:∀e∈[ixK [nl0,nl0,nl0,nl0,nl0],ixK [.row (desc.map bD) f, .row (L.flatMap bgC) L.length, .osl 2 0 f f Ad, .osl 3 0 f f Ad,natD tot],blU0 (fA f (uI U (i+1))) Ab,blP (fA f (qI U (i+1)))],namB 4 e:=asm_nam (AY _) (zEy.2 λc hc j hj=>by unfold qI;split<;>rfl) (λj hj=>by simp[zX,refs];omega) (λj hj=>by simp[zX,refs]) (by simp);refine wkn (fr 69 [(2,Aj (fA f λ(c:Nat)=>busD (U c)) f),(8,Ae 0 0),(9,Ae 1 0),(10,iD i),(28,iD f),(29,iD ↑(i+1)),(50,busD (U i)),(51,iD (Aa (U i):Int)),(52,iD (Aa (U i):Int)),(53,bD (decide ((Aa (U i):Int)<(Aa (U i):Int)))),(67,iD ↑(i+1))]) [ixK [nl0,nl0,nl0,nl0,nl0],ixK [Aj (Ao bD desc) f,(q38_ L),Ay 2 0 f f Ad,Ay 3 0 f f Ad,natD tot],blU0 (fA f (uI U (i+1))) Ab,blP (fA f λ(c:Nat)=>if c=i then AR 4 else qI U i c),mapI (ptI (U i) (Aa (U i)))] ?_;refine Weak.trans (BP (j:=3) (i:=i) (ej:=blP (fA f λc=>if c=i then .mref 4 else qI U i c)) (d:= .mref 4) (x:=zCc (U i)) (ks:=[4]) rfl rfl rfl (by rw[zX6 h3];exact congrArg AI (if_pos rfl)) rfl (by decide)) ?_;show Weak Tas _ ([ixK [nl0,nl0,nl0,nl0,nl0],ixK [.row (desc.map bD) f, .row (L.flatMap bgC) L.length, .osl 2 0 f f Ad, .osl 3 0 f f Ad,natD tot],blU0 (fA f (uI U (i+1))) Ab,blP ((fA f λc=>if c=i then .mref 4 else qI U i c).set i (zCc (U i)))]++[{mapI (ptI (U i) (U i).length)with fz:=Ad}]) _ _;rw[e2];refine zA5 (N:=4) (0<4/\1<4/\True) rfl hnm4 keepA ?_ ⟨by omega,by omega,trivial⟩;refine vk 5
 obtain rfl:i=f:=by omega
 have hu1:fA i (uI U i)=fA i λc=>busD (U c):=zB5 λc hc=>if_pos hc;have hq1:fA i (qI U i)=fA i λc=>zCc (U c):=zB5 λc hc=>if_pos hc;rw[hu1,hq1];have ht1:(fA i λc=>busD (U c)).take i=fA i λc=>busD (U c):=By (by rw[zEx];exact AY _);have ht2:(fA i λc=>zCc (U c)).take i=fA i λc=>zCc (U c):=By (by rw[zEx];exact AY _);have hW:∀sl,Weak Tas sl [ixK [nl0,nl0,nl0,nl0,nl0],ixK [.row (desc.map bD) i, .row (L.flatMap bgC) L.length, .osl 2 0 i i Ad, .osl 3 0 i i Ad,natD tot],blU0 (fA i λc=>busD (U c)) Ab,blP (fA i λc=>zCc (U c))] sl
   [ixK [nl0,nl0,nl0,nl0,nl0],ixK [.row (desc.map bD) i, .row (L.flatMap bgC) L.length, .row (fA i λc=>busD (U c)) i, .row (fA i λc=>zCc (U c)) i,natD tot],blU0 (fA i λc=>busD (U c)) Ad,⟨fA i λc=>zCc (U c),128,1,Ad,Ad, .plain⟩]:=λsl=>by
  refine(Weak.unsh (k:=3) (e:=blP (fA i λc=>zCc (U c))) rfl rfl rfl (λj=>(zEy (m:=0)).2 (λc hc j hj=>rfl) j (Br _))).trans ?_;refine(BP (T:=Tas) (st:=[ixK [nl0,nl0,nl0,nl0,nl0],ixK [.row (desc.map bD) i, .row (L.flatMap bgC) L.length, .osl 2 0 i i Ad, .osl 3 0 i i Ad,natD tot],blU0 (fA i λc=>busD (U c)) Ab,⟨fA i λc=>zCc (U c),128,1,Ad,Ab, .plain⟩]) (j:=1) (i:=2) (ej:=ixK [.row (desc.map bD) i, .row (L.flatMap bgC) L.length, .osl 2 0 i i Ad, .osl 3 0 i i Ad,natD tot]) (d:= .osl 2 0 i i Ad) (x:= .row (fA i λc=>busD (U c)) i) (ks:=[2]) rfl rfl rfl rfl ?_ (by decide)).trans ?_
  ·rw[show zAc=8+1 from rfl,zJ2 (e:=blU0 (fA i λc=>busD (U c)) Ab) rfl rfl rfl];grind
  refine BP (T:=Tas) (st:=[ixK [nl0,nl0,nl0,nl0,nl0],ixK [.row (desc.map bD) i, .row (L.flatMap bgC) L.length, .row (fA i λc=>busD (U c)) i, .osl 3 0 i i Ad,natD tot],blU0 (fA i λc=>busD (U c)) Ad,⟨fA i λc=>zCc (U c),128,1,Ad,Ab, .plain⟩]) (j:=1) (i:=3) (ej:=ixK [.row (desc.map bD) i, .row (L.flatMap bgC) L.length, .row (fA i λc=>busD (U c)) i, .osl 3 0 i i Ad,natD tot]) (d:= .osl 3 0 i i Ad) (x:= .row (fA i λc=>zCc (U c)) i) (ks:=[3]) rfl rfl rfl rfl ?_ (by decide);rw[show zAc=8+1 from rfl,zJ2 (e:=⟨fA i λc=>zCc (U c),128,1,Ad,Ab, .plain⟩) rfl rfl rfl];grind
 focus
  refine vAu<|zA<|vF ((i:Int)<↑i)<|vY2<|zC<|vnn (fr 69 [(2,Aj (fA i λ(c:Nat)=>busD (U c)) i),(8,Ae 0 0),(9,Ae 1 0),(28,iD i),(29,iD i),(30,bD<|decide ((i:Int)<↑i))]) [ixK [nl0,nl0,nl0,nl0,nl0],ixK [Aj (Ao bD desc) i,(q38_ L),Ay 2 0 i i Ad,Ay 3 0 i i Ad,natD tot],blU0 (fA i λ(c:Nat)=>busD (U c)) Ab,blP (fA i λ(c:Nat)=>zCc (U c))] ?_;rotate_left
 refine zBx (hW _) ?_;focus
  refine vAs<|ve (5<=5/\Ab=Ab/\Ad=Ad/\5=5/\5<=5)<|zE ?_;refine vre (5<=5) (AJ [Aj (Ao bD desc) i,(q38_ L),Aj (fA i λ(c:Nat)=>busD (U c)) i,Aj (fA i λ(c:Nat)=>zCc (U c)) i,natD tot]) (.inr rfl) ?_;rotate_left
 subst hn;rfl
def pbad(f n:Int)(P:List Int)(i:Nat):Bool:=decide (P.getD i 0<f)||decide (n<=P.getD i 0)||decide (P.getD i 0∈P.take i)
def pany(f n:Int)(P:List Int):Bool:=(AT P.length).any (pbad f n P)
def icE(n f:Int)(dn:Nat)(P:List Int)(ats:List At):Int:=
 if n<0\/32<n\/f<0\/n<f then 3 else if(dn:Int)≠f\/(P.length:Int)≠n-f then 1 else if pany f n P=Ad then 1 else lfE n ats
abbrev inpD(n f:Int)(desc:List Bool)(P:List Int)(ats:List At):D:= .agg [iD n,iD f, .row (desc.map bD) desc.length, .row (P.map λz=>iD z) P.length, .row (ats.flatMap atC) ats.length]
abbrev inpB(n f:Int)(desc:List Bool)(P:List Int)(ats:List At):Bk:=⟨[iD n,iD f, .row (desc.map bD) desc.length, .row (P.map λz=>iD z) P.length, .row (ats.flatMap atC) ats.length],31,0,Ab,Ab, .plain⟩
abbrev booB(l:List D):Bk:=⟨l,4,1,Ad,Ab, .plain⟩
def seeF(P:List Int)(i u:Nat):Bool:=decide ((u:Int)∈P.take i)
theorem icheck_c(n f:Int)(desc:List Bool)(P:List Int)(ats:List At)(hd:desc.length<=2000000)(hP:P.length<=2000000)(ha:ats.length<=2000000)(hl:∀a∈ats,a.V.length<=2000000)(hlf:0<=n->n<=32->Pure AH 14 [iD n, .row (ats.flatMap atC) ats.length] [] (iD (lfE n ats))):
  Pure AH 16 [inpD n f desc P ats] [] (iD (icE n f desc.length P ats)):=by
 by_cases h1:n<0\/32<n\/f<0\/n<f
 ·unfold icE;rw[if_pos h1];refine zF zBb mixed Tryz.func16 rfl ?_;focus
   refine vAu<|zA<|vA<|vr 4 (True/\0<5) ?_;refine vsp 9 (decide (n<0)) (λhc=>?_)<|λhc=>?_;simp only[decide_eq_true_eq]at hc;refine veT<|vt<|vAe<|zE<|zG<|vret (True)<|.inr rfl;simp only[decide_eq_false_iff_not]at hc;refine vr 5 (True/\0<5) ?_;refine vsp 14 (decide (n>(32:Int))) (λhc=>?_)<|λhc=>?_;simp only[decide_eq_true_eq]at hc;refine veT<|vt<|vAe<|zE<|zG<|vret (True)<|.inr rfl;simp only[decide_eq_false_iff_not]at hc;refine vr 5 (True/\0<4) ?_;refine vsp 19 (decide (f<0)) (λhc=>?_)<|λhc=>?_;simp only[decide_eq_true_eq]at hc;refine veT<|vt<|vAe<|zE<|zG<|vret (True)<|.inr rfl;simp only[decide_eq_false_iff_not]at hc;refine ve (True/\0<4/\True/\0<5)<|vT (f>n)<|vAe<|zE<|zG<|vret (True)<|.inr rfl
 by_cases h2:(desc.length:Int)≠f\/(P.length:Int)≠n-f
 ·unfold icE;rw[if_neg h1,if_pos h2];refine zF zBb mixed Tryz.func16 rfl ?_;focus
   refine vAu<|zA<|vA<|vew [] [(3,Ab),(8,Ab),(13,Ab)] (True/\0<5/\decide (n<0)=Ab/\True/\0<5/\decide (n>(32:Int))=Ab/\True/\0<4/\decide (f<0)=Ab/\True/\0<4/\True/\0<5)<|vF (f>n)<|vK<|zA<|zA ?_;refine zB rfl<|vr 7 (True/\0<3/\True/\0<4/\True) ?_;refine vsp 32 ((Aa desc:Int)!=f) (λhc=>?_)<|λhc=>?_;simp only[bne_iff_ne]at hc;refine veT<|vt<|vAe<|zE<|zG<|vret (True)<|.inr rfl;simp only[bne_eq_false_iff_eq]at hc;refine ve (True/\0<2/\True/\0<5/\True/\0<4/\i6 (n-f)/\True)<|zGb (t:=(Aa P:Int)!=n-f) (by kernel_rfl) (by simpa using by omega)<|vAe<|zE<|zG<|vret (True)<|.inr rfl
 unfold icE;rw[if_neg h1,if_neg h2];obtain⟨k,rfl⟩:∃k:Nat,n=(k:Int):=⟨n.toNat,by omega⟩;have hk:=hlf (by omega) (by omega);obtain⟨m,hm,hgood,hend⟩:∃m,m<=P.length/\(∀j,j<m->pbad f k P j=Ab)/\((m=P.length/\pany f k P=Ab)\/(m<P.length/\pbad f k P m=Ad/\pany f k P=Ad)):=by
  by_cases h3:∃p,p<P.length/\pbad f k P p=Ad
  ·obtain⟨p,hp,hpb,hmin⟩:=zD0 h3;grind [pany,BS]
  refine⟨P.length,AY _,λj hj=>?_, .inl ⟨rfl,?_⟩⟩;all_goals grind [pbad,pany,BS]
 have hz:repL k [bD Ab]=fA k λu=>bD (seeF P 0 u):=by
  grind [zTu,zB5,seeF]
 refine zF zBb mixed Tryz.func16 rfl ?_;focus
  refine vAu<|zA<|vA<|vew [] [(3,Ab),(8,Ab),(13,Ab)] (True/\0<5/\decide ((k:Int)<0)=Ab/\True/\0<5/\decide ((k:Int)>(32:Int))=Ab/\True/\0<4/\decide (f<0)=Ab/\True/\0<4/\True/\0<5)<|vF (f>(k:Int))<|vK<|zA<|zA ?_;refine zB rfl<|vew [] [(6,Ab)] (True/\0<3/\True/\0<4/\True/\((Aa desc:Int)!=f)=Ab/\True/\0<2/\True/\0<5/\True/\0<4/\i6 ((k:Int)-f)/\True)<|zFs (t:=(Aa P:Int)!=(k:Int)-f) (by kernel_rfl) (by simpa using by omega)<|vK<|vA<|vr 3 (True/\0<5/\(0:Int)<=(k:Int)/\(k:Int)<=↑k/\(↑(1:Nat):Int)*(k:Int)<=(281474976710656:Int)/\(k:Int)<=(281474976710656:Int)/\0<1/\1=1)<|vb 1 (An (repL (AB (k:Int)) [bD Ab]) 4 1 Ad Ab<|kdOf Ab) (An (fA k λ(u:Nat)=>bD (seeF P 0 u)) 4 1 Ad Ab<|kdOf Ab) (by simp(disch:=omega) only[AS,hz])<|vrT 1<|vs 3 (Ay 1 0 (AB (k:Int)) (AB (k:Int)*1) Ad) (Ay 1 0 k k Ad) (by simp(disch:=omega) only[AS,A5])<|veT<|zA ?_;refine vA<|ve (True/\0<2)<|zH ?_;rotate_left
 refine zK (λ(i:Nat)=>fr 78 [(1,Ae 0 0),(3,Ay 1 0 k k Ad),(47,Aj (Ao (λ(z:Int)=>iD z) P)<|Aa P),(48,iD<|Aa P),(49,iD i)]) (λ(i:Nat)=>[inpB k f desc P ats,booB (fA k λu=>bD (seeF P i u))]) (λ(i:Nat)=>m-i) (λ(i:Nat)=>i<=m) 0 ?_ ?_ ?_
 ·omega
 ·refine vk 2
 intro i h3;have hPd:∀j,j<P.length->((P.map λz=>iD z).drop j).headD .unk=iD (P.getD j 0):=λj hj=>zBf (λz:Int=>iD z) P 0 j hj;have hPn:0<P.length->(P.map λz=>iD z)≠[]:=λh=>zAm h;rcases AX i m with h4|h4
 ·have h5:i<P.length:=by omega
  have hhd:=hPd i h5;have hne:=hPn (by omega);have hgd:=hgood i h4;unfold pbad at hgd;have htk:P.take (i+1)=P.take i++[P.getD i 0]:=by rw[Bl h5,A0,AV h5];rfl
  generalize P.getD i 0=z at*;simp only[Cp,decide_eq_false_iff_not]at hgd;obtain⟨⟨g1,g2⟩,g3⟩:=hgd;obtain⟨v,rfl⟩:∃v:Nat,z=(v:Int):=⟨z.toNat,by omega⟩;have hvk:v<k:=by omega
  have hse:((fA k λu=>bD (seeF P i u)).drop v).headD .unk=bD false:=by
   grind [zD4,seeF]
  have hset:(fA k λu=>bD (seeF P i u)).set v (bD Ad)=fA k λu=>bD (seeF P (i+1) u):=by
   rw[zEw];refine zB5 λu _=>?_;grind [seeF]
  have hfl:(fA k λu=>bD (seeF P i u)).length=k:=zEx;focus
   refine vAu<|zA<|vT ((i:Int)<↑(Aa P))<|vKB<|vA<|vr 1 (ix ↑i ↑(Aa P) (Ao (λ(z:Int)=>iD z) P≠[])) ?_;refine vp 51 i (Ao (λ(z:Int)=>iD z) P)<|vr 1 (0<Aa (Ak i<|Ao (λ(z:Int)=>iD z) P))<|vsh 52 hhd<|veT<|zA<|vA<|vw 14 [] [(4,Ab),(10,Ab)] (True/\0<4/\decide ((v:Int)<f)=Ab/\True/\0<5/\decide ((v:Int)>=(k:Int))=Ab/\(0:Int)<=(v:Int)/\(v:Int)<↑k)<|vo 66 1 v<|vr 1 (0<Aa (Ak v<|AO<|booB (fA k λ(u:Nat)=>bD (seeF P i u))))<|vsh 67 hse<|veT<|vf<|zQ ?_;refine vN<|zB rfl<|vr 3 ((0:Int)<=(v:Int)/\(v:Int)<↑k)<|vo 71 1 v<|vr 1 (A2 (booB (fA k λ(u:Nat)=>bD (seeF P i u)))=Ab/\Ad=Ad/\1=1/\v+1<=Aa (AO<|booB (fA k λ(u:Nat)=>bD (seeF P i u)))/\¬1∈[])<|vnil<|zD<|vN<|zB rfl<|vr 2 (i6 (↑i+1))<|vnil<|zC ?_;rotate_left
  refine⟨i+1,by omega,by omega,?_⟩;rw[<-hset];refine vk 2
 obtain rfl:i=m:=by omega
 rcases hend with⟨rfl,hpa⟩|⟨h5,hpb,hpa⟩
 ·rw[hpa,if_neg (by decide)];focus
   refine vAu<|zA<|vF ((Aa P:Int)<↑(Aa P))<|vZ2<|vA ?_;refine vr 4 (True/\0<5/\True/\0<1)<|vc hk<|veT<|zE<|vret (True)<|.inr rfl
 rw [hpa,if_pos rfl];have hhd:=hPd i h5;have hne:=hPn (by omega);unfold pbad at hpb;generalize P.getD i 0=z at*;simp only[Cj,decide_eq_true_eq]at hpb;by_cases g1:z<f
 ·focus
   refine vAu<|zA<|vT ((i:Int)<↑(Aa P))<|vKB<|vA<|vr 1 (ix ↑i ↑(Aa P) (Ao (λ(z:Int)=>iD z) P≠[])) ?_;refine vp 51 i (Ao (λ(z:Int)=>iD z) P)<|vr 1 (0<Aa (Ak i<|Ao (λ(z:Int)=>iD z) P))<|vsh 52 hhd<|veT<|zA<|vA<|vew [] [(4,Ad)] (True/\0<4/\decide (z<f)=Ad)<|vt<|vAe<|zE<|zG ?_;refine zL<|zG<|zG<|zL<|zG<|vret (True)<|.inr rfl
 by_cases g2:(k:Int)<=z
 ·focus
   refine vAu<|zA<|vT ((i:Int)<↑(Aa P))<|vKB<|vA<|vr 1 (ix ↑i ↑(Aa P) (Ao (λ(z:Int)=>iD z) P≠[])) ?_;refine vp 51 i (Ao (λ(z:Int)=>iD z) P)<|vr 1 (0<Aa (Ak i<|Ao (λ(z:Int)=>iD z) P))<|vsh 52 hhd<|veT<|zA<|vA<|vew [] [(4,Ab),(10,Ad)] (True/\0<4/\decide (z<f)=Ab/\True/\0<5/\decide (z>=(k:Int))=Ad)<|vt<|vAe<|zE<|zG ?_;refine zL<|zG<|zG<|zL<|zG<|vret (True)<|.inr rfl
 obtain⟨v,rfl⟩:∃v:Nat,z=(v:Int):=⟨z.toNat,by omega⟩;have hvk:v<k:=by omega
 have hse:((fA k λu=>bD (seeF P i u)).drop v).headD .unk=bD true:=by
  grind [zD4,seeF]
 focus
  refine vAu<|zA<|vT ((i:Int)<↑(Aa P))<|vKB<|vA<|vr 1 (ix ↑i ↑(Aa P) (Ao (λ(z:Int)=>iD z) P≠[])) ?_;refine vp 51 i (Ao (λ(z:Int)=>iD z) P)<|vr 1 (0<Aa (Ak i<|Ao (λ(z:Int)=>iD z) P))<|vsh 52 hhd<|veT<|zA<|vA<|vw 14 [] [(4,Ab),(10,Ab)] (True/\0<4/\decide ((v:Int)<f)=Ab/\True/\0<5/\decide ((v:Int)>=(k:Int))=Ab/\(0:Int)<=(v:Int)/\(v:Int)<↑k)<|vo 66 1 v<|vr 1 (0<Aa (Ak v<|AO<|booB (fA k λ(u:Nat)=>bD (seeF P i u)))) (vsh 67 hse<|veT<|vt<|zA ?_) (by exact zCa hvk);refine zB rfl<|veT<|zE<|zG<|zL<|zG<|zG<|zL<|zG<|vret (True)<|.inr rfl
end
abbrev toAt(a:List Nat×List Rw):At:=⟨a.1.map λv:Nat=>(v:Int),(a.1.length:Nat),a.2⟩
theorem toAt_fl(A:List (List Nat×List Rw)):(A.map toAt).flatMap atC=A.flatMap atR:=by
 rw[List.flatMap_map];refine congrArg (λf=>Ah f A) (funext λa=>?_);simp_all
theorem zNk{n:Nat}{A:List (List Nat×List Rw)}(h:Vok n A.length λi=>(A.getD i Af).1):∀a∈A,a.1.Pairwise (· <·)/\∀v∈a.1,v<n:=λa ha=>by
 obtain⟨i,hi,rfl⟩:=BT ha;have h1:=h.asc i hi;have h2:=h.lt i hi;simp only[A0,AV hi,BM]at h1 h2;exact⟨h1,h2⟩
theorem atE_ok{n:Nat}{a:List Nat×List Rw}(h1:a.1.Pairwise (· <·))(h2:∀v∈a.1,v<n):atE (n:Nat) (toAt a)=0:=by
 have ha:ascB (toAt a).V=true:=by
  unfold ascB;rw[Bz];intro i hi;have hi:i<a.1.length:=by
   grind
  unfold zV3;rcases Cb i with h0|h0
  ·grind
  have h3:=List.pairwise_iff_getElem.1 h1 (i-1) i (by omega) hi (by omega);grind
 simp_all [toAt,inB,Bz,Bh,atE,Bc]
theorem zYc(n:Nat)(A:List (List Nat×List Rw))(hn:n<=32)(hA:A.length<=32)(hV:Vok n A.length λi=>(A.getD i Af).1):Pure AH 14 [iD (n:Nat), .row (A.flatMap atR) A.length] [] (iD 0):=by
 have hv:=zNk hV;have h:=zSd n (A.map toAt) hn (by rwa[Bc]) (λa ha=>by
  obtain⟨b,hb,rfl⟩:=Bh.1 ha;obtain⟨h1,h2⟩:=hv b hb;show(b.1.map λv:Nat=>(v:Int)).length<=_;rw[Bc]
  have:=zJ9 (n:=n) 0 h1 λw hw=>⟨Br _,h2 w hw⟩
  omega)
 rw[toAt_fl,Bc]at h;have h0:atL (n:Nat) (A.map toAt)=0:=atL_0 λj hj=>by
  rw[Bc]at hj;have e:(A.map toAt).getD j Af=toAt A[j]:=by
   grind
  grind [A4,atE_ok]
 have hu:(useP n (A.map toAt) []).contains Ab=false:=by
  rw[Bool.eq_false_iff];intro hc;rw[List.contains_iff_mem]at hc;unfold useP at hc;obtain⟨v,hv1,hv2⟩:=Bh.1 hc;obtain⟨i,hi,hm⟩:=hV.cov v (B_.1 hv1);rw[Cp]at hv2;have h3:=List.any_eq_false.1 hv2.1 (toAt A[i]) (Bh.2 ⟨A[i],A4 hi,rfl⟩);grind
 grind
theorem rle_tr{a b c:Rw}(h1:rcmp a b<=0)(h2:rcmp b c<=0):rcmp a c<=0:=by
 rcases Int.lt_or_eq_of_le h1 with h1|h1;all_goals grind [Int.lt_or_eq_of_le,Int.le_of_lt,zP0,zBk]
theorem zRy:∀{L:List Rw},(∀j,0<j->j<L.length->rcmp (L.getD (j-1) []) (L.getD j [])<=0)->L.Pairwise λa b=>rcmp a b<=0
 |[],_=>List.Pairwise.nil
 |[a],_=>List.pairwise_singleton _ _
 | a::b::L,h=>by
  have ih:(b::L).Pairwise λa b=>rcmp a b<=0:=zRy λj h0 hj=>by
   have:=h (j+1) (by omega) (by simpa using hj)
   rw[Nat.add_sub_cancel]at this;obtain⟨i,rfl⟩:∃i,j=i+1:=⟨j-1,by omega⟩;simpa using this
  have h0:rcmp a b<=0:=by simpa using h 1 (by omega) (by simp)
  refine BU.2 ⟨λx hx=>?_,ih⟩;rcases BA.1 hx with rfl|hx
  ·exact h0
  exact rle_tr h0 ((BU.1 ih).1 x hx)
theorem srtB_pw{L:List Rw}(h:srtB L=Ad):L.Pairwise λa b=>rcmp a b<=0:=zRy λj h0 hj=>by
 have h1:=Bz.1 h j (B_.2 hj);unfold zTh at h1;rw[decide_eq_false (by omega),Bool.false_or]at h1;have h2:¬rcmp (L.getD j []) (L.getD (j-1) [])<0:=by simpa using h1
 have h3:=(zBk (L.getD (j-1) []) (L.getD j [])).2.2;omega
theorem zZ7:∀{L:List Rw}{p:Rw},(p::L).Pairwise (λa b=>rcmp a b<=0)->Rsc (p::uqA p L)
 |[],p,_=>List.pairwise_singleton _ _
 | b::L,p,h=>by
  obtain⟨h1,h2⟩:=BU.1 h;have ih:=zZ7 h2;rw[uqA];split
  ·grind
  rename_i e;have hb:rcmp p b<0:=by
   grind [rcmp,zBk]
  refine BU.2 ⟨λx hx=>?_,ih⟩;rcases BA.1 hx with rfl|hx
  ·exact hb
  exact zP0 p b x hb ((BU.1 ih).1 x hx)
theorem uq_rsc{L:List Rw}(h:L.Pairwise λa b=>rcmp a b<=0):Rsc (uq L):=by
 cases L with
 |nil=>exact List.Pairwise.nil
 |cons a L=>exact zZ7 h
theorem zWr(L:List Rw):Rsc (relR L):=by
 grind [relR,uq_rsc,srtB_pw,zKd]
theorem zT5{x:Rw}:∀{L:List Rw}{p:Rw},x∈p::L->x∈p::uqA p L
 |[],p,h=>h
 | b::L,p,h=>by
  rw[uqA];split
  ·rename_i e;subst e;exact zT5 (by simpa using h)
  rcases BA.1 h with rfl|h
  ·simp
  exact BL _ (zT5 h)
theorem zH1{x:Rw}{L:List Rw}:x∈relR L↔x∈L:=by
 have key:∀M:List Rw,x∈uq M↔x∈M:=λM=>⟨zZ6,λh=>by
  cases M with
  |nil=>cases h
  |cons a M=>exact zT5 h⟩
 grind [relR,zCq]
def rk(p:Nat->Bool)(v:Nat):Nat:=((AT v).filter p).length
theorem rk_succ(p:Nat->Bool)(v:Nat):rk p (v+1)=rk p v+if p v then 1 else 0:=by
 grind [rk,Cy,Bs,only]
theorem rk_mono(p:Nat->Bool){u v:Nat}(h:u<=v):rk p u<=rk p v:=by
 induction h with
 |refl=>exact AY _
 |step _ ih=>rw[rk_succ];exact A6 ih (Nat.le_add_right _ _)
theorem rk_lt{p:Nat->Bool}{u v:Nat}(h:u<v)(hp:p u=Ad):rk p u<rk p v:=by
 have h1:=rk_mono p (u:=u+1) (v:=v) h;grind [rk_succ]
theorem zWs(p:Nat->Bool):∀(N j:Nat),j<((AT N).filter p).length->rk p (((AT N).filter p).getD j 0)=j/\p (((AT N).filter p).getD j 0)=Ad/\((AT N).filter p).getD j 0<N
 |0,j,h=>by simp at h
 | N +1,j,h=>by
  rw[Cy,List.filter_append]at h⊢;rcases AX j ((AT N).filter p).length with h1|h1
  ·obtain⟨a,b,c⟩:=zWs p N j h1;grind
  rw[Bs]at h;simp only[List.filter_cons,List.filter_nil]at h⊢;by_cases hp:p N=Ad
  ·simp only[hp,if_true]at h⊢;have h2:j=((AT N).filter p).length:=by
    grind
   subst h2;rw[A0,Co (AY _),Nat.sub_self];exact⟨rfl,hp,by show N<N+1;omega⟩
  grind
theorem zL4(s v:Nat)(hv:v<32)(hb:s.testBit v=Ad):(numL s).getD v 0=rk (λw=>s.testBit w) v:=by
 unfold numL;rw[A0,List.getElem?_map,Cz hv,Option.map_some,if_pos hb];rfl
theorem zSa(s:Nat):(zAo s).length=rk (λw=>s.testBit w) 32:=rfl
theorem bit_lt{s n u:Nat}(h:s>>>n=0)(hb:s.testBit u=Ad):u<n:=by
 rcases AX u n with h1|h1
 ·exact h1
 have h2:(s>>>n).testBit (u-n)=s.testBit u:=by rw[Nat.testBit_shiftRight,show n+(u-n)=u by omega]
 rw[h,hb]at h2;simp at h2
theorem zEn(s:Nat)(A:List (List Nat×List Rw)){a:Nat}(h:a<A.length):(A.map (zBe s)).getD a Af=zBe s (A.getD a Af):=by
 grind
theorem zW2{n s:Nat}{A:List (List Nat×List Rw)}(hn:n<=32)(hsn:s>>>n=0)(hV:Vok n A.length λi=>(A.getD i Af).1):Vok (zAo s).length A.length λi=>((A.map (zBe s)).getD i Af).1 where
 asc a h:=by
  rw[zEn s A h]
  refine List.pairwise_map.2 ?_
  refine((hV.asc a h).filter _).imp_of_mem λ{x y} hx hy hxy=>?_
  obtain⟨x1,x2⟩:=BV.1 hx
  obtain⟨y1,y2⟩:=BV.1 hy
  have:=hV.lt a h x x1
  have:=hV.lt a h y y1
  rw[zL4 s x (by omega) x2,zL4 s y (by omega) y2]
  exact rk_lt hxy x2
 lt a h w hw:=by
  rw[zEn s A h]at hw
  obtain⟨x,hx,rfl⟩:=Bh.1 hw
  obtain⟨x1,x2⟩:=BV.1 hx
  have:=hV.lt a h x x1
  rw[zL4 s x (by omega) x2,zSa]
  exact rk_lt (by omega) x2
 cov v hv:=by
  obtain⟨h1,h2,h3⟩:=zWs (λw=>s.testBit w) 32 v hv
  obtain⟨a,ha,hm⟩:=hV.cov _ (bit_lt hsn h2)
  refine⟨a,ha,?_⟩
  rw[zEn s A ha]
  refine Bh.2 ⟨_,BV.2 ⟨hm,h2⟩,?_⟩
  rw[zL4 s _ h3 h2,h1]
theorem part_ok{n s:Nat}{A:List (List Nat×List Rw)}(hn:n<=32)(hsn:s>>>n=0)(hA:A.length<=32)(hV:Vok n A.length λi=>(A.getD i Af).1)(hR:∀a∈A,a.2.length<=65536):AOk (mkP s A) where
 n:=A6 (BN _ _) (by simp)
 na:=by show(A.map (zBe s)).length<=1000;rw[Bc];omega
 p:=by show 5<=50000;omega
 v:=by
  show Vok (zAo s).length (A.map (zBe s)).length _
  rw[Bc]
  exact zW2 hn hsn hV
 r a ha:=by
  obtain⟨b,hb,rfl⟩:=Bh.1 ha
  refine⟨A6 (zK0 s b) (hR b hb),λr hr=>?_,zWr _⟩
  obtain⟨q,_,rfl⟩:=Bh.1 (zH1.1 hr)
  show(zT q (zBy (λv=>s.testBit v) b.1)).length=((b.1.filter λv=>s.testBit v).map _).length
  rw[Bc,zQv]
  simp[zT]
theorem accL_ok{ar:Nat}:∀{L:List Rw},(∀x∈L,x.length=ar/\x.all vok=Ad)->accL (ar:Nat) L=0
 |[],_=>rfl
 | x::L,h=>by
  obtain⟨h1,h2⟩:=h x (by simp);have h3:accE (ar:Nat) x=0:=by
   grind [accE]
  simp only[accL];rw[if_neg (by rw[h3];exact λk=>k rfl)];exact accL_ok λx hx=>h x (by simp[hx])
theorem jn_vok{n s:Nat}{A:List (List Nat×List Rw)}(hao:AOk (mkP s A))(hR:∀a∈A,∀r∈a.2,r.length=a.1.length/\r.all vok=Ad):∀x∈jn (mkP s A),x.length=(zAo s).length/\x.all vok=true:=λx hx=>by
 obtain⟨h1,h2⟩:=((zFh hao).2 x).1 hx;refine⟨h1,Bz.2 λv hv=>?_⟩;obtain⟨w,hw,rfl⟩:=BT hv;have h1':x.length=(mkP s A).n:=h1;obtain⟨a,ha,hm⟩:=hao.v.cov w (by omega);have h3:=h2 a ha;have ha2:a<A.length:=by
  have:(mkP s A).A.length=A.length:=Bc _;omega
 have hpa:(mkP s A).A.getD a Af=zBe s (A.getD a Af):=zEn s A ha2;rw[hpa]at h3;obtain⟨q,hq,e⟩:=Bh.1 (zH1.1 h3);have hmem:x[w]∈prj (mkP s A).vs a 0 x:=Bh.2 ⟨w,BV.2 ⟨hm,by simp⟩,by rw[A0,AV hw];rfl⟩;rw[<-e]at hmem;have hA:A.getD a Af∈A:=by rw[A0,AV ha2];exact A4 ha2
 obtain⟨q1,q2⟩:=hR _ hA q hq;obtain⟨c,hc,e2⟩:=Bh.1 hmem;have hc2:=zJ7 _ _ c hc;rw[<-e2];refine Bz.1 q2 _ ?_;rw[A0,AV (by omega:c<q.length)];exact A4 _
theorem mat_c(n s:Nat)(A:List (List Nat×List Rw))(hn:n<32)(hs:s<4294967296)(hsn:s>>>n=0)(hA:A.length<=32)(hV:Vok n A.length λi=>(A.getD i Af).1)(hr1:∀a∈A,a.2.length<=65536)(hR:∀a∈A,∀r∈a.2,r.length=a.1.length/\r.all vok=Ad)(h0:0<(zAo s).length)(M:Nat)(hM:∀a∈A,a.2.length+(zAo s).length<=M)(hC:(A.length+1)*(cE A.length M (zAo s).length)+1<=big)(hJ:(jn (mkP s A)).length<=65536):∃z:Nat,z<=big/\Pure AH 72 [iD (n:Nat),u32D s, .row (A.flatMap atR) A.length] [] (.tup [.agg (atR (zAo s,jn (mkP s A))),iD ((stpA s A+z+(jn (mkP s A)).length:Nat):Int),iD 0]):=by
 have hao:=part_ok (s:=s) (by omega:n<=32) hsn hA hV hr1;have hv:=zNk hV;have hjv:=jn_vok (n:=n) hao hR;have hpv:=zW2 (s:=s) (by omega:n<=32) hsn hV;have hck:=zYc (zAo s).length (A.map (zBe s)) (A6 (BN _ _) (by simp)) (by rwa[Bc]) (by rw[Bc];exact hpv);rw[List.flatMap_map,Bc]at hck;exact zQe n s A hn hs hsn hA (λa ha=>by
  obtain⟨v1,v2⟩:=hv a ha;have h3:=zJ9 (n:=n) 0 v1 λw hw=>⟨Br _,v2 w hw⟩;exact⟨v1,λv h=>by have:=v2 v h;omega,by omega,hr1 a ha,λr h=>(hR a ha r h).1⟩) (zYc n A (by omega) hA hV) hao h0 M (λa ha=>by
  obtain⟨b,hb,rfl⟩:=Bh.1 ha
  have:=zK0 s b
  have:=hM b hb
  omega) hC hck hJ (λr hr=>(hjv r hr).1) (zFh hao).1 (accL_ok hjv)
section
attribute [local irreducible] seqW awp zAf zAn zAd Weak updS zAx retL Pure Acts rP setP setQ cP nP fr
set_option maxRecDepth 4096
theorem eset_c(v k:Nat)(p:Int)(hv:v<32)(hk:k<4294967296):Pure AH 73 [.agg [iD (v:Nat),u32D k,iD p]] [] (u32D (k|||2^v)):=by
 have h4:=zEa hv;have h5:=zR2 hk h4;refine zF zBb mixed Tryz.func73 rfl ?_;focus
  refine vAu<|zA<|vA<|vew [] [(3,Ab)] (True/\0<3/\decide ((v:Int)<0)=Ab/\True/\0<3)<|vF ((v:Int)>=(32:Int))<|vK<|zA<|vd [0,2,1,3,4,5,6] ?_;refine vr 5 (True/\True/\0<2/\0<3/\(0:Int)<=(v:Int))<|vs 17 (Am<|AC As<|AU As ((1:Int)*(2:Int)^min (AB (v:Int)) 32)) (dig ((2:Nat)^v)) (by simp(disch:=omega) only[AS,zEe])<|vrT 1<|vs 18 (Am<|AC As<|AU As (↑(AQ (AE 32 (k:Int)|||AE 32 (↑((2:Nat)^v):Int))):Int)) (dig (k|||(2:Nat)^v)) (by simp(disch:=omega) only[zNi,zA4])<|veT<|zE<|vret (True)<|.inr rfl
abbrev matA(A:List (List Nat×List Rw))(b:Bg):List Nat×List Rw:=(zAo (bgS b),jn (mkP (bgS b) A))
def totS(A:List (List Nat×List Rw))(z:Bg->Nat)(L:List Bg):Nat:=(L.map λb=>stpA (bgS b) A+z b+(jn (mkP (bgS b) A)).length).sum
theorem zRa(A:List (List Nat×List Rw))(z:Bg->Nat)(L:List Bg)(b:Bg):totS A z (L++[b])=totS A z L+(stpA (bgS b) A+z b+(jn (mkP (bgS b) A)).length):=by simp[totS]
theorem all_c(n:Nat)(L:List Bg)(A:List (List Nat×List Rw))(z:Bg->Nat)(hl:L.length<=32)(hb:∀b∈L,b.v<32/\b.k<4294967296)(hm:∀b∈L,Pure AH 72 [iD (n:Nat),u32D (bgS b), .row (A.flatMap atR) A.length] [] (.tup [.agg (atR (matA A b)),iD ((stpA (bgS b) A+z b+(jn (mkP (bgS b) A)).length:Nat):Int),iD 0]))(ht:∀i,i<=L.length->totS A z (L.take i)<=9000000000000000000):Pure AH 32 [iD (n:Nat), .row (L.flatMap bgC) L.length, .row (A.flatMap atR) A.length] [] (.tup [.row (L.flatMap λb=>atR (matA A b)) L.length,iD ((totS A z L:Nat):Int),iD 0]):=by
 have hbc:∀b:Bg,(bgC b).length=3:=λ_=>rfl;refine zF zBb mixed Tryz.func32 rfl ?_;focus
  refine vAu<|vAe<|vAe<|zA<|vAe ?_;refine zH ?_;rotate_left
 refine zK (λ(i:Nat)=>fr 44 [(0,iD n),(2,(q14_ A)),(9,Ay 0 0 i (i*3) Ad),(10,iD (↑(totS A z<|Aw i L):Int)),(16,(q38_ L)),(17,iD<|Aa L),(18,iD i)]) (λ(i:Nat)=>[(⟨(L.take i).flatMap λb=>atR (matA A b),87,3,Ad,Ab,.plain⟩:Bk)]) (λ(i:Nat)=>L.length-i) (λ(i:Nat)=>i<=L.length) 0 ?_ ?_ ?_
 ·omega
 ·refine vk 0
 intro i h1;rcases AX i L.length with h3|h3
 ·have hg2:=zCz hbc L i h3;have hle:=zEv hbc L i h3;have hne:=zDe hbc (by decide) L (by omega);have htk:L.take (i+1)=L.take i++[L.getD i Af]:=by rw[Bl h3,A0,AV h3];rfl
  have hbm:L.getD i Af∈L:=by rw[A0,AV h3];exact A4 h3
  obtain⟨b1,b2⟩:=hb _ hbm;have hmt:=hm _ hbm;have hse:=eset_c (L.getD i Af).v (L.getD i Af).k (L.getD i Af).p b1 b2;have ht1:=ht (i+1) (by omega);have hpl:((L.take i).flatMap λb=>atR (matA A b)).length=i*3:=by rw[zDj (c:=3) (λ_=>rfl),Cv,Nat.min_eq_left h1]
  rw[htk,zRa]at ht1;focus
   refine vAu<|zA<|vT ((i:Int)<↑(Aa L))<|vKB<|vA<|vr 2 (ix ↑i ↑(Aa L) (Ah bgC L≠[])/\3<=Aa (Ak (i*3)<|Ah bgC L)) ?_;refine vs 21 (AJ<|Aw 3<|Ak (i*3)<|Ah bgC L) (AJ<|bgC<|AA L i Af) (by simp(disch:=omega) only[hg2])<|ve (Ab=Ab/\Ad=Ad/\3=3/\3<=3)<|vA<|vr 2 (3<=3)<|vc hse<|vrT 1<|vc hmt<|ve (0<3/\1<3/\2<3/\Ab=Ab/\Ad=Ad/\3=3/\3<=3)<|zA<|vAe<|vf ?_;refine vK<|vA<|ve (3<=3/\((3=3/\3<=3/\True)/\0<3/\3=3/\3<=16777216/\1<=9223372036854775807)/\Ad=Ad/\Aa (Ah (λ(b:Bg)=>atR (matA A b))<|Aw i L)=i*3/\i*3=i*3/\87=87/\3=3/\3=3/\0<3/\0<56/\87=87/\(i+1)*56<=140737488355328/\3=3/\Bt Au=Ab/\(Ab=Ab\/Bv Au=Ad))<|zB rfl<|vr 4 (i6 ((↑(totS A z<|Aw i L):Int)+(↑(stpA (bgS<|AA L i Af) A+z (AA L i Af)+Aa (jn<|mkP (bgS<|AA L i Af) A)):Int)))<|vnil<|zD<|vN<|zB rfl<|vr 2 (i6 (↑i+1)) ?_;refine vnil<|zC ?_;rotate_left
  refine⟨i+1,h3,by omega,?_⟩;rw[htk,zRa,<-zX4];refine vk 1
 obtain rfl:i=L.length:=by omega
 rw[Bf];have hfa:((L.flatMap λb=>atR (matA A b)).take (L.length*3))=L.flatMap λb=>atR (matA A b):=zN7 (c:=3) (g:=λb=>atR (matA A b)) (λ_=>rfl) L _ rfl;focus
  refine vAu<|zA<|vF ((Aa L:Int)<↑(Aa L))<|vZ2<|vA ?_;refine veT<|zE ?_;refine zCf (True) (D.tup [Aj (Aw (Aa L*3)<|Ak 0<|Ah (λ(b:Bg)=>atR (matA A b)) L)<|Aa L,iD ↑(totS A z L),iD 0]) (D.tup [Aj (Ah (λ(b:Bg)=>atR (matA A b)) L)<|Aa L,Am<|AC Bi (↑(totS A z L):Int),Am<|AC Bi 0]) (.inr rfl) trivial (by simp(disch:=omega) only[Bb,hfa]) rfl
theorem below_n:∀n:Fin 33,As.wrap (Ch.wrap (Ch.wrap (1*2^min n.val 64)-1))=((2^n.val-1:Nat):Int):=by decide
theorem below_c(n:Nat)(hn:n<=32):Pure AH 131 [iD (n:Nat)] [] (u32D (2^n-1)):=by
 have h:=below_n ⟨n,by omega⟩;simp only at h;refine zF zBb mixed Tryz.func131 rfl ?_;refine vAu<|vA<|vw 4 [5,6] [] ((0:Int)<=(n:Int)/\True/\True)<|vs 6 (Am<|AC As<|AU As<|AU Ch (AU Ch ((1:Int)*(2:Int)^min n 64)-(1:Int))) (dig ((2:Nat)^n-1)) (by simp(disch:=omega) only[h])<|veT<|zE<|vret (True)<|.inr rfl
abbrev grB(n e:D):Bk:=⟨[n,e],77,0,Ab,Ab, .plain⟩
abbrev uuB(l:List Nat):Bk:=⟨l.map u32D,36,1,Ad,Ab, .plain⟩
abbrev nl1:D:= .val (.slice AM 0 0)
theorem andn_lt{e n:Nat}(he:e<2^n):AE 32 ((e:Nat):Int)&&&~~~AE 32 ((2^n-1:Nat):Int)=0#32:=by
 rw[BitVec.ofInt_natCast,BitVec.ofInt_natCast];apply BitVec.eq_of_getLsbD_eq;intro i hi;rw[BitVec.getLsbD_and,BitVec.getLsbD_not,BitVec.getLsbD_ofNat,BitVec.getLsbD_ofNat,Nat.testBit_two_pow_sub_one];grind [CA,BW,BX]
theorem hd_u(E:List Nat)(i:Nat)(h:i<E.length):((E.map u32D).drop i).headD .unk=u32D (E.getD i 0):=zBf u32D E 0 i h
abbrev q39_(x0:List Nat):=Aj (Ao u32D x0) (Aa x0)
theorem zXz(n:Nat)(hn:n<=32)(E:List Nat)(hE:E.length<=64)(hl:∀e∈E,e<2^n):Pure AH 108 [.agg [iD (n:Nat), .row (E.map u32D) E.length]] [] (iD 0):=by
 have hbe:=below_c n hn;refine zF zBb mixed Tryz.func108 rfl ?_;focus
  refine vAu<|zA<|vA<|vew [] [(3,Ab)] (True/\0<2/\decide ((n:Int)<0)=Ab/\True/\0<2)<|vF ((n:Int)>(32:Int))<|vK<|zA<|zA ?_;refine zB rfl<|ve (True/\0<1)<|vF ((Aa E:Int)>(64:Int))<|vK<|zA<|vA<|ve (True/\0<1)<|zH ?_;rotate_left
 refine zK (λ(i:Nat)=>fr 31 [(1,Ae 0 0),(18,(q39_ E)),(19,iD<|Aa E),(20,iD i)]) (λ(i:Nat)=>[grB (iD (n:Nat))<|.row (E.map u32D) E.length]) (λ(i:Nat)=>E.length-i) (λ(i:Nat)=>i<=E.length) 0 ?_ ?_ ?_
 ·omega
 ·refine vk 1
 intro i h1;rcases AX i E.length with h3|h3
 ·have hmem:E.getD i 0∈E:=zBv E i h3;have hlt:=hl _ hmem;have hhd:=hd_u E i h3;have hz:=andn_lt hlt;have hz2:((((0#32).toNat:Nat):Int)!=0)=false:=by decide
  focus
   refine vAu<|zA<|vT ((i:Int)<↑(Aa E))<|vKB<|vA<|vr 1 (ix ↑i ↑(Aa E) (Ao u32D E≠[])) ?_ ⟨(by omega),⟨(by omega),(by exact zAm (by omega))⟩⟩;refine vp 22 i (Ao u32D E)<|vr 1 (0<Aa (Ak i<|Ao u32D E))<|vsh 23 hhd<|veT<|vA<|vr 3 (True/\0<2)<|vc hbe<|vrT 1<|vs 28 (Am<|AC As<|AU As (↑(AQ (AE 32 (↑(AA E i 0):Int)&&&~~~AE 32 (↑((2:Nat)^n-1):Int))):Int)) (dig<|AQ<|BitVec.ofNat 32 0) (by simp(disch:=omega) only[zA4,hz])<|veT<|vf<|zQ<|zD ?_;refine vN<|zB rfl<|vr 2 (i6 (↑i+1))<|vnil<|zC ?_;rotate_left
  refine⟨i+1,by omega,by omega,?_⟩;refine vk 1
 focus
  refine vAu<|zA<|vF ((i:Int)<↑(Aa E))<|vZ2<|vA ?_;refine veT<|zE<|vret (True)<|.inr rfl
def andn(e v:Nat):Nat:=(AE 32 ((e:Nat):Int)&&&~~~AE 32 ((2^v:Nat):Int)).toNat
theorem zV0(e v:Nat):andn e v<4294967296:=BitVec.isLt _
def adU(e m v:Nat):Nat:=if e.testBit v then m|||andn e v else m
def nbE(E:List Nat)(v:Nat):Nat:=E.foldl (λm e=>adU e m v) 0
theorem nbE_32:∀(E:List Nat)(v:Nat),nbE E v<4294967296:=λE v=>by
 have key:∀(E:List Nat)(m:Nat),m<4294967296->E.foldl (λm e=>adU e m v) m<4294967296:=by
  intro E;induction E with
  |nil=>exact λm h=>h
  |cons e E ih=>
   intro m h;rw[B9];refine ih _ ?_;unfold adU;split
   ·exact zR2 h (zV0 e v)
   exact h
 exact key E 0 (by omega)
theorem nbE_snoc(E:List Nat)(e v:Nat):nbE (E++[e]) v=adU e (nbE E v) v:=by
 grind [nbE]
def adL(E:List Nat)(e j:Nat):List D:=(AT 32).map λv=>u32D (if v<j then adU e (nbE E v) v else nbE E v)
def adR(E:List Nat):List D:=(AT 32).map λv=>u32D (nbE E v)
theorem adL_zero(E:List Nat)(e:Nat):adL E e 0=adR E:=Ci λv _=>by rw[if_neg (by omega)]
theorem adL_hd(E:List Nat)(e j:Nat)(h:j<32):((adL E e j).drop j).headD .unk=u32D (nbE E j):=by
 unfold adL;simp_all
theorem adL_set(E:List Nat)(e j:Nat)(h:j<32):(adL E e j).set j (u32D (adU e (nbE E j) j))=adL E e (j+1):=by
 unfold adL;apply Cd;grind
theorem adL_no(E:List Nat)(e j:Nat)(h:e.testBit j=Ab):adL E e (j+1)=adL E e j:=Ci λu _=>by
 by_cases h1:u<j
 ·rw[if_pos h1,if_pos (by omega)]
 rw[if_neg h1];by_cases h2:u=j
 ·subst h2;rw[if_pos (by omega)];unfold adU;rw[if_neg (by rw[h];decide)]
 rw[if_neg (by omega)]
theorem adL_all{E:List Nat}{e n:Nat}(h:e<2^n):adL E e n=adR (E++[e]):=Ci λv _=>by
 rw[nbE_snoc];by_cases h1:v<n
 ·rw[if_pos h1]
 rw[if_neg h1];unfold adU;rw[if_neg (by rw[CA (BW h (BX (by omega) (by omega)))];decide)]
theorem adL_len(E:List Nat)(e j:Nat):(adL E e j).length=32:=by simp[adL]
abbrev gaB(l:List D):Bk:=⟨l,144,0,Ab,Ab, .plain⟩
theorem adj_c(n:Nat)(hn:n<=32)(E:List Nat)(hE:E.length<=64)(hl:∀e∈E,e<2^n):Pure AH 132 [.agg [iD (n:Nat), .row (E.map u32D) E.length]] [] (.agg ((AT 32).map λv=>u32D (nbE E v))):=by
 have hz:∀v,nbE [] v=0:=λv=>rfl;refine zF zBb mixed Tryz.func132 rfl ?_;focus
  refine vAu<|vAe<|zA<|vA<|ve (True/\0<1)<|zH ?_;rotate_left
 refine zK (λ(i:Nat)=>fr 36 [(1,Ae 0 0),(2,Ae 1 0),(3,Ae 2 0),(8,(q39_ E)),(9,iD<|Aa E),(10,iD i)]) (λ(i:Nat)=>[grB (iD (n:Nat))<|.row (E.map u32D) E.length,gaB<|adR [],gaB<|adR<|E.take i]) (λ(i:Nat)=>E.length-i) (λ(i:Nat)=>i<=E.length) 0 ?_ ?_ ?_
 ·omega
 ·refine vk 3
 intro i h1;rcases AX i E.length with h3|h3
 ·have hmem:E.getD i 0∈E:=zBv E i h3;have hhd:=hd_u E i h3;have hlt:=hl _ hmem;have htk:E.take (i+1)=E.take i++[E.getD i 0]:=by rw[Bl h3,A0,AV h3];rfl
  generalize E.getD i 0=e at*;focus
   refine vAu<|zA<|vT ((i:Int)<↑(Aa E))<|vKB<|vA<|vr 1 (ix ↑i ↑(Aa E) (Ao u32D E≠[])) ?_ ⟨(by omega),⟨(by omega),(by exact zAm (by omega))⟩⟩;refine vp 12 i (Ao u32D E)<|vr 1 (0<Aa (Ak i<|Ao u32D E))<|vsh 13 hhd<|veT<|vA<|ve (True/\0<2)<|zH ?_;rotate_left
  refine zK (λ(j:Nat)=>fr 36 [(1,Ae 0 0),(2,Ae 1 0),(3,Ae 2 0),(5,dig e),(8,(q39_ E)),(9,iD<|Aa E),(10,iD i),(15,iD n),(16,iD j)]) (λ(j:Nat)=>[grB (iD (n:Nat))<|.row (E.map u32D) E.length,gaB<|adR [],gaB<|adL (E.take i) e j]) (λ(j:Nat)=>n-j) (λ(j:Nat)=>j<=n) 0 ?_ ?_ ?_
  ·omega
  ·rw[adL_zero];refine vk 3
  intro j h2;rcases AX j n with h4|h4
  ·have h5:j<32:=by omega
   have h6:=zEa h5;have h7:=nbE_32 (E.take i) j;have h8:=zR2 h7 (zV0 e j);have he32:e<4294967296:=BW hlt (BX (by omega) hn);have hdj:=adL_hd (E.take i) e j h5;have hll:=adL_len (E.take i) e j;have hor:(AE 32 ((nbE (E.take i) j:Nat):Int)|||AE 32 (((AE 32 ((e:Nat):Int)&&&~~~AE 32 ((2^j:Nat):Int)).toNat:Nat):Int)).toNat=nbE (E.take i) j|||andn e j:=zNi h7 (zV0 e j);focus
    refine vAu<|zA<|vT ((j:Int)<↑n)<|vKB<|vAe ?_;refine vA<|vr 3 ((0:Int)<=(j:Int))<|vs 21 (Am<|AC As<|BY (e:Int) ((2:Int)^min (AB (j:Int)) 32)) (dig (e>>>j)) (by simp(disch:=omega) only[AS,zE4])<|vrT 1<|vs 22 (Am<|AC As<|AU As (↑(AQ (AE 32 (↑(e>>>j):Int)&&&AE 32 (1:Int))):Int)) (dig<|AQ (AE 32 (↑(e>>>j):Int)&&&AE 32 (1:Int))) (by simp(disch:=omega) only[zA4])<|vrT 1<|vs 23 (bD ((↑(AQ (AE 32 (↑(e>>>j):Int)&&&AE 32 (1:Int))):Int)==(1:Int))) (bD<|Nat.testBit e j) (by simp(disch:=omega) only[bit_b])<|veT ?_;refine zAa (t:=Nat.testBit e j) (by kernel_rfl) (λhc=>?_)<|λhc=>?_;refine vd [0,1,3,4,5,6,2,7,8,9]<|vr 2 ((0:Int)<=(j:Int)/\(j:Int)<↑(32:Nat))<|vo 25 2 j<|vr 3 ((0:Int)<=(j:Int))<|vs 29 (Am<|AC As<|AU As ((1:Int)*(2:Int)^min (AB (j:Int)) 32)) (dig ((2:Nat)^j)) (by simp(disch:=omega) only[AS,zEe])<|vrT 1<|vs 30 (Am<|AC As<|AU As (↑(AQ (AE 32 (e:Int)&&&~~~AE 32 (↑((2:Nat)^j):Int))):Int)) (dig<|AQ (AE 32 (e:Int)&&&~~~AE 32 (↑((2:Nat)^j):Int))) (by simp(disch:=omega) only[zA4])<|vr 1 (0<Aa (Ak j<|AO<|gaB<|adL (Aw i E) e j))<|vsh 26 hdj<|vrT 1<|vs 31 (Am<|AC As<|AU As (↑(AQ (AE 32 (↑(nbE (Aw i E) j):Int)|||AE 32 (↑(AQ (AE 32 (e:Int)&&&~~~AE 32 (↑((2:Nat)^j):Int))):Int))):Int)) (dig (nbE (Aw i E) j|||andn e j)) (by simp(disch:=omega) only[zA4,hor])<|vr 1 ((0:Int)<=(j:Int)/\(j:Int)<↑(32:Nat))<|vo 32 2 j<|vr 1 (A2 (gaB<|adL (Aw i E) e j)=Ab/\Ad=Ad/\1=1/\j+1<=32) ?_;refine vnil<|zD<|vN<|zB rfl<|vr 2 (i6 (↑j+1))<|vnil<|zC ?_;rotate_left;refine zQ<|zD<|vN<|zB rfl<|vr 2 (i6 (↑j+1))<|vnil<|zC ?_;rotate_left
   ·have hc2:e.testBit j=true:=by assumption
    have hset:=adL_set (E.take i) e j h5;unfold adU at hset;rw[if_pos hc2]at hset;refine⟨j+1,by omega,by omega,?_⟩;rw[<-hset];refine vk 3
   have hc2:e.testBit j=false:=by assumption
   refine⟨j+1,by omega,by omega,?_⟩;rw[adL_no _ _ _ hc2];refine vk 3
  obtain rfl:j=n:=by omega
  rw[adL_all hlt,<-htk];focus
   refine vAu<|zA<|vF ((j:Int)<↑j)<|vY2<|zD<|vN<|zB rfl ?_;refine vr 2 (i6 (↑i+1))<|vnil<|zC ?_;rotate_left
  refine⟨i+1,by omega,by omega,?_⟩;refine vk 3
 obtain rfl:i=E.length:=by omega
 rw[Bf];focus
  refine vAu<|zA<|vF ((Aa E:Int)<↑(Aa E))<|vZ2<|vA ?_;refine ve (32<=32/\Ab=Ab/\Ad=Ad/\32=32/\32<=32)<|zE<|vret (32<=32)<|.inr rfl
theorem adR_get(E:List Nat)(j:Nat)(h:j<32):(adR E).getD j .unk=u32D (nbE E j):=by
 grind [adR,Cz]
theorem nbrs_c(n v:Nat)(hn:n<=32)(hv:v<n)(E:List Nat)(hE:E.length<=64)(hl:∀e∈E,e<2^n):Pure AH 109 [.agg [iD (n:Nat), .row (E.map u32D) E.length],iD (v:Nat)] [] (u32D (nbE E v)):=by
 have hck:=zXz n hn E hE hl;have had:=adj_c n hn E hE hl;have hhd:=adR_get E v (by omega);have hal:(adR E).length=32:=by simp[adR]
 change Pure _ _ _ _ (.agg (adR E))at had;generalize adR E=l at had hhd hal;refine zF zBb mixed Tryz.func109 rfl ?_;focus
  refine vAu<|zA<|vA<|vr 1 (2<=2)<|vc hck<|vew [] [(7,Ab)] (True/\decide ((v:Int)<0)=Ab/\True/\0<2)<|vF ((v:Int)>=(n:Int))<|vK ?_;refine vA<|vr 1 (2<=2)<|vc had<|vr 2 (ix ↑v ↑(32:Nat) (AB (v:Int)*1<Aa l))<|vs 21 (AA l (AB (v:Int)*1) Uk) (u32D<|nbE E v) (by simp(disch:=omega) only[AS,A5,hhd])<|veT<|zE<|vret (True)<|.inr rfl
theorem cfree_c(n f:Nat)(hn:n<=32)(hf:f<=n)(E:List Nat)(hE:E.length<=64)(hl:∀e∈E,e<2^n):Pure AH 70 [.agg [iD (n:Nat), .row (E.map u32D) E.length],iD (f:Nat)] [] (iD 0):=by
 have hck:=zXz n hn E hE hl;refine zF zBb mixed Tryz.func70 rfl ?_;focus
  refine vAu<|zA<|vA<|vr 1 (2<=2)<|vc hck<|veT<|vAe<|vf ?_;refine vK<|zA<|vA<|vew [] [(2,Ab)] (decide ((f:Int)<0)=Ab/\True/\0<2)<|vF ((f:Int)>(n:Int))<|vK<|vAe ?_;refine zE<|vret (True)<|.inr rfl
def eaL(E:List Nat)(i:Nat):List D:=(AT 32).map λv=>u32D (if v<i then nbE E v else 0)
theorem eaL_set(E:List Nat)(i:Nat)(h:i<32):(eaL E i).set i (u32D (nbE E i))=eaL E (i+1):=by
 unfold eaL;apply Cd;grind
theorem eadj_c(n:Nat)(hn:n<=32)(E:List Nat)(hE:E.length<=64)(hl:∀e∈E,e<2^n):Pure AH 71 [.agg [iD (n:Nat), .row (E.map u32D) E.length]] [] (.agg (eaL E n)):=by
 refine zF zBb mixed Tryz.func71 rfl ?_;focus
  refine vAu<|vAe<|zA<|vA<|ve (True/\0<2)<|zH ?_;rotate_left
 refine zK (λ(i:Nat)=>fr 17 [(1,Ae 0 0),(2,Ae 1 0),(3,Ae 2 0),(6,iD n),(7,iD i)]) (λ(i:Nat)=>[grB (iD (n:Nat))<|.row (E.map u32D) E.length,gaB<|eaL E 0,gaB<|eaL E i]) (λ(i:Nat)=>n-i) (λ(i:Nat)=>i<=n) 0 ?_ ?_ ?_
 ·omega
 ·refine vk 3
 intro i h1;rcases AX i n with h3|h3
 ·have hnb:=nbrs_c n i hn h3 E hE hl;have hset:=eaL_set E i (by omega);have hll:(eaL E i).length=32:=by simp[eaL]
  focus
   refine vAu<|zA<|vT ((i:Int)<↑n)<|vKB<|vAe ?_;refine zB rfl<|vr 3 (2<=2)<|vc hnb<|vr 1 ((0:Int)<=(i:Int)/\(i:Int)<↑(32:Nat))<|vo 14 2 i<|vr 1 (A2 (gaB<|eaL E i)=Ab/\Ad=Ad/\1=1/\i+1<=32)<|vnil<|zD<|vN<|zB rfl<|vr 2 (i6 (↑i+1))<|vnil<|zC ?_;rotate_left
  refine⟨i+1,by omega,by omega,?_⟩;rw[<-hset];refine vk 3
 obtain rfl:i=n:=by omega
 focus
  refine vAu<|zA<|vF ((i:Int)<↑i)<|vZ2<|vA ?_;refine ve (32<=32/\A2 (gaB<|eaL E 0)=Ab/\Ad=Ad/\32=32/\32<=32) ?_;refine zE<|vret (32<=32)<|.inr rfl
abbrev iaB(l:List D):Bk:=⟨l,143,0,Ab,Ab, .plain⟩
abbrev bgE(l:List D):Bk:=⟨l,99,3,Ad,Ab, .plain⟩
abbrev bgK(v k:Nat)(p:Int):Bk:=⟨[iD (v:Nat),u32D k,iD p],99,0,Ab,Ab, .plain⟩
theorem rep32:BJ 32 (iD 0)=fA 32 λ_=>iD 0:=fA_rep _
theorem ebags_c(n f:Nat)(hn:n<=32)(E:List Nat)(hE:E.length<=64)(hl:∀e∈E,e<2^n)(P:List Nat)(hf:P.length+f=n)(hP:∀v∈P,f<=v/\v<n)(hnd:P.Nodup)(nb:Nat->Nat)(hnb:nb=λv=>if v<n then nbE E v else 0):Pure AH 31 [.agg [iD (n:Nat), .row (E.map u32D) E.length],iD (f:Nat), .row (nsD P) P.length] [] (.tup [.row ((AT n).flatMap λv=>bgC (bagE n (ordL f P) nb v)) n,iD 0]):=by
 have hcf:=cfree_c n f hn (by omega) E hE hl;have had:=eadj_c n hn E hE hl;have hea:eaL E n=fA 32 λv=>u32D (nb v):=by subst hnb;rfl
 rw[hea]at had;have hal:(fA 32 λv=>u32D (nb v)).length=32:=zEx;have hsa:=setAt_rep (.val (.int .u32 0)) hal;simp only[BJ]at hsa;generalize hg:(fA 32 λv=>u32D (nb v))=l0 at*;have hb32:∀v,nb v<4294967296:=λv=>by
  grind [only,nbE_32]
 have hms:∀i,msk (P.take i)<4294967296:=λi=>msk_lt λv hv=>by have:=(hP v (CB hv)).2;omega
 refine zF zBb mixed Tryz.func31 rfl ?_;focus
  refine vAu<|zA<|vA<|vr 2 (2<=2)<|vc hcf<|veT<|vAe<|vf ?_;refine vK<|vAe<|zA<|vAe<|zH ?_;rotate_left
 refine zK (λ(i:Nat)=>fr 155 [(1,iD f),(2,(q5_ P)),(3,Ae 0 0),(9,u32D<|msk<|Aw i P),(28,(q5_ P)),(29,iD<|Aa P),(30,iD i)]) (λ(i:Nat)=>[grB (iD (n:Nat))<|.row (E.map u32D) E.length]) (λ(i:Nat)=>P.length-i) (λ(i:Nat)=>i<=P.length) 0 ?_ ?_ ?_
 ·omega
 ·refine vk 1
 intro i h1;rcases AX i P.length with h3|h3
 ·have h4:=hP _ (zBv P i h3);have h5:=zEa (by omega:P.getD i 0<32);have h6:=zR2 (hms i) h5;have h7:=hms i;have h8:(msk (P.take i)).testBit (P.getD i 0)=false:=by
   grind [zHa,BT,AV,List.getElem_inj]
  have hbt:=zXf P i h3;have hhd:=zCl P i h3;generalize P.getD i 0=v at*;focus
   refine vAu<|zA<|vT ((i:Int)<↑(Aa P))<|vKB<|vA<|vr 1 (ix ↑i ↑(Aa P) (nsD P≠[])) ?_ ⟨(by omega),⟨(by omega),(by exact zAm (by omega))⟩⟩;refine vp 32 i (nsD P)<|vr 1 (0<Aa (Ak i<|nsD P))<|vsh 33 hhd<|veT<|zA<|vA<|vw 13 [] [(3,Ab),(9,Ab)] (decide ((v:Int)<↑f)=Ab/\True/\0<2/\decide ((v:Int)>=(n:Int))=Ab/\(0:Int)<=(v:Int))<|vs 46 (Am<|AC As<|BY (↑(msk<|Aw i P):Int) ((2:Int)^min (AB (v:Int)) 32)) (dig (msk (Aw i P)>>>v)) (by simp(disch:=omega) only[AS,zE4])<|vrT 1<|vs 47 (Am<|AC As<|AU As (↑(AQ (AE 32 (↑(msk (Aw i P)>>>v):Int)&&&AE 32 (1:Int))):Int)) (dig<|AQ (AE 32 (↑(msk (Aw i P)>>>v):Int)&&&AE 32 (1:Int))) (by simp(disch:=omega) only[zA4])<|vrT 1<|vs 48 (bD ((↑(AQ (AE 32 (↑(msk (Aw i P)>>>v):Int)&&&AE 32 (1:Int))):Int)==(1:Int))) (bD Ab) (by simp(disch:=omega) only[bit_b,h8])<|veT ?_;refine vf<|vK<|zB rfl<|vr 3 ((0:Int)<=(v:Int))<|vs 52 (Am<|AC As<|AU As ((1:Int)*(2:Int)^min (AB (v:Int)) 32)) (dig ((2:Nat)^v)) (by simp(disch:=omega) only[AS,zEe])<|vrT 1<|vs 53 (Am<|AC As<|AU As (↑(AQ (AE 32 (↑(msk<|Aw i P):Int)|||AE 32 (↑((2:Nat)^v):Int))):Int)) (dig (msk (Aw i P)|||(2:Nat)^v)) (by simp(disch:=omega) only[zNi,zA4])<|vrT 1<|vnil<|zD<|vN ?_;refine zB rfl<|vr 2 (i6 (↑i+1))<|vnil<|zC ?_;rotate_left
  refine⟨i+1,by omega,by omega,?_⟩;rw[hbt];refine vk 1
 obtain rfl:i=P.length:=by omega
 have hcp:setAt (BJ 32 (iD 0)) 0 (Aw (min P.length 32) (nsD P))=fA 32 λu=>iD ((if u<P.length then P.getD u 0 else 0:Nat):Int):=by
  rw[rep32,zX5,Nat.min_eq_left (by omega),By (by simp)];grind
 simp only[BJ]at hcp;have hO:=zP8 (f:=f) hf;have hol:∀u,u<P.length->(ordL f P).getD u 0=P.getD u 0:=λu hu=>by
  grind [ordL,CD]
 have hor:∀j,j<f->(ordL f P).getD (P.length+j) 0=f-1-j:=λj hj=>by
  grind [ordL,Co,Nat.add_sub_cancel_left,BO,Cz]
 have hoL:=zT1 hf hP;have hoN:=zT0 hP hnd;have hOm:∀j,j<n->(ordL f P).getD j 0∈ordL f P:=λj hj=>zBv _ _ (by omega);have hix:∀j,j<n->(ordL f P).idxOf ((ordL f P).getD j 0)=j:=λj hj=>by
  grind
 have hxi:∀v,v<n->(ordL f P).idxOf v<n/\(ordL f P).getD ((ordL f P).idxOf v) 0=v:=λv hv=>by
  have h1:=zGj hoN hO hoL v hv;grind
 have hst:(fA 32 λu=>iD ((if u<P.length then P.getD u 0 else 0:Nat):Int))=fA 32 λu=>iD ((oI P.length (ordL f P) 0 u:Nat):Int):=zB5 λu _=>by
  grind [oI]
 rw[hst]at hcp;clear hst;generalize hOO:ordL f P=O at*;have hz:=rep32;simp only[BJ]at hz;focus
  refine vAu<|zA<|vF ((Aa P:Int)<↑(Aa P))<|vZ2<|zA<|zA ?_;refine zB rfl<|ve (True/\0<2/\i6 ((n:Int)-(f:Int))/\True)<|zFs (t:=(Aa P:Int)!=(n:Int)-(f:Int)) (by kernel_rfl) (by simpa using by omega)<|vK<|vAe<|vA<|vr 3 ((True/\True/\0<1/\32<=32/\32<=maxLen)/\Ab=Ab/\Ab=Ab/\0<1/\3=3/\Aa (nsD P)=Aa P*1/\32<=32)<|vb 1 (An (setAt [iD 0,iD 0,iD 0,iD 0,iD 0,iD 0,iD 0,iD 0,iD 0,iD 0,iD 0,iD 0,iD 0,iD 0,iD 0,iD 0,iD 0,iD 0,iD 0,iD 0,iD 0,iD 0,iD 0,iD 0,iD 0,iD 0,iD 0,iD 0,iD 0,iD 0,iD 0,iD 0] 0<|Aw (min (Aa P) 32*1)<|nsD P) 143 0 Ab Ab Au) (An (fA 32 λ(u:Nat)=>iD (↑(oI (Aa P) O 0 u):Int)) 143 0 Ab Ab Au) (by simp(disch:=omega) only[A5,hcp])<|veT ?_;refine zA<|vAe<|zH ?_;rotate_left
 refine zK (λ(i:Nat)=>fr 155 [(1,iD f),(2,(q5_ P)),(3,Ae 0 0),(12,Ae 1 0),(13,Ae 2 0),(65,iD f),(66,iD i)]) (λ(i:Nat)=>[grB (iD (n:Nat))<|.row (E.map u32D) E.length,iaB (fA 32 λu=>iD ((oI P.length O i u:Nat):Int)),iaB (fA 32 λ_=>iD 0)]) (λ(i:Nat)=>f-i) (λ(i:Nat)=>i<=f) 0 ?_ ?_ ?_
 ·omega
 ·rw[<-hz];refine vk 3
 intro i h1;rcases AX i f with h3|h3
 ·have hset:(fA 32 λu=>iD ((oI P.length O i u:Nat):Int)).set (P.length+i) (iD ((f:Int)-1-(i:Int)))=fA 32 λu=>iD ((oI P.length O (i+1) u:Nat):Int):=by
   rw[zEw];refine zB5 λu _=>?_;unfold oI;by_cases h:u=P.length+i;all_goals grind
  focus
   refine vAu<|zA<|vT ((i:Int)<↑f)<|vKB<|vAe ?_;refine zB rfl<|vr 9 (i6 ((Aa P:Int)+(i:Int))/\i6 (↑f-1)/\i6 ((f:Int)-(1:Int)-(i:Int))/\(0:Int)<=(Aa P:Int)+(i:Int)/\(Aa P:Int)+(i:Int)<↑(32:Nat))<|vo 77 1 (AB ((Aa P:Int)+(i:Int)))<|vr 1 (A2 (iaB (fA 32 λ(u:Nat)=>iD (↑(oI (Aa P) O i u):Int)))=Ab/\Ad=Ad/\1=1/\AB ((Aa P:Int)+(i:Int))+1<=32)<|vnil<|zD<|vN<|zB rfl<|vr 2 (i6 (↑i+1))<|vnil<|zC ?_;rotate_left
  refine⟨i+1,by omega,by omega,?_⟩;rw[<-hset];refine vk 3
 obtain rfl:i=f:=by omega
 have hall:(fA 32 λu=>iD ((oI P.length O i u:Nat):Int))=fA 32 λu=>iD ((O.getD u 0:Nat):Int):=zB5 λu _=>by
  unfold oI;grind
 rw[hall];have hz2:(fA 32 λ_=>iD 0)=fA 32 λu=>iD ((pI O 0 u:Nat):Int):=zB5 λu _=>by unfold pI;rw[if_neg (by omega)];rfl
 rw[hz2];focus
  refine vAu<|zA<|vF ((i:Int)<↑i)<|vZ2<|zA<|zA ?_;refine zB rfl<|ve (True/\0<2)<|zH ?_;rotate_left
 refine zK (λ(j:Nat)=>fr 155 [(3,Ae 0 0),(12,Ae 1 0),(13,Ae 2 0),(80,iD n),(81,iD j)]) (λ(j:Nat)=>[grB (iD (n:Nat))<|.row (E.map u32D) E.length,iaB (fA 32 λu=>iD ((O.getD u 0:Nat):Int)),iaB (fA 32 λu=>iD ((pI O j u:Nat):Int))]) (λ(j:Nat)=>n-j) (λ(j:Nat)=>j<=n) 0 ?_ ?_ ?_
 ·omega
 ·refine vk 3
 intro j h2;rcases AX j n with h4|h4
 ·have hv:=hoL _ (hOm j h4);have hhd:=zD4 (g:=λu=>iD ((O.getD u 0:Nat):Int)) (N:=32) (by omega:j<32);have hset:(fA 32 λu=>iD ((pI O j u:Nat):Int)).set (O.getD j 0) (iD (j:Nat))=fA 32 λu=>iD ((pI O (j+1) u:Nat):Int):=by
   rw[zEw];refine zB5 λu _=>?_;unfold pI;by_cases h:u=O.getD j 0
   ·grind
   rw[if_neg h];by_cases h2:O.idxOf u<j;all_goals grind
  generalize O.getD j 0=v at*;focus
   refine vAu<|zA<|vT ((j:Int)<↑n)<|vKB<|vAe ?_;refine zB rfl<|vr 2 ((0:Int)<=(j:Int)/\(j:Int)<↑(32:Nat))<|vo 85 1 j<|vr 1 (0<Aa (Ak j<|AO<|iaB (fA 32 λ(u:Nat)=>iD ↑(AA O u 0)))) (vsh 86 hhd<|vr 2 ((0:Int)<=(v:Int)/\(v:Int)<↑(32:Nat))<|vo 88 2 v<|vr 1 (A2 (iaB (fA 32 λ(u:Nat)=>iD ↑(pI O j u)))=Ab/\Ad=Ad/\1=1/\v+1<=32)<|vnil<|zD<|vN<|zB rfl<|vr 2 (i6 (↑j+1)) ?_) (by exact zCa (by omega));refine vnil<|zC ?_;rotate_left
  refine⟨j+1,by omega,by omega,?_⟩;rw[<-hset];refine vk 3
 obtain rfl:j=n:=by omega
 focus
  refine vAu<|zA<|vF ((j:Int)<↑j)<|vZ2<|vA ?_;refine vr 1 (2<=2)<|vc had<|vr 2 (Ab=Ab/\Ad=Ad/\Aa (cellsOf<|AJ l0)=32/\32<=32)<|vb 3 (An (setAt [Am<|AC As 0,Am<|AC As 0,Am<|AC As 0,Am<|AC As 0,Am<|AC As 0,Am<|AC As 0,Am<|AC As 0,Am<|AC As 0,Am<|AC As 0,Am<|AC As 0,Am<|AC As 0,Am<|AC As 0,Am<|AC As 0,Am<|AC As 0,Am<|AC As 0,Am<|AC As 0,Am<|AC As 0,Am<|AC As 0,Am<|AC As 0,Am<|AC As 0,Am<|AC As 0,Am<|AC As 0,Am<|AC As 0,Am<|AC As 0,Am<|AC As 0,Am<|AC As 0,Am<|AC As 0,Am<|AC As 0,Am<|AC As 0,Am<|AC As 0,Am<|AC As 0,Am<|AC As 0] 0<|cellsOf<|AJ l0) 144 0 Ab Ab Au) (An l0 144 0 Ab Ab Au) (by simp(disch:=omega) only[cellsOf,hsa]) ?_;refine veT<|vA<|vr 3 (True/\0<2/\(0:Int)<=(j:Int)/\(j:Int)<=↑j/\(↑(24:Nat):Int)*(j:Int)<=(281474976710656:Int)/\(j:Int)<=(281474976710656:Int)/\0<3/\3=3)<|vb 4 (An (repL (AB (j:Int)) [iD 0,Am<|AC As 0,iD 0]) 99 3 Ad Ab<|kdOf Ab) (An (Ah (λ(x:Nat)=>[iD 0,Am<|AC As 0,iD 0])<|AT j) 99 3 Ad Ab<|kdOf Ab) (by simp(disch:=omega) only[AS,repL_fl])<|veT<|zA<|vA<|ve (True/\0<2)<|zH ?_;rotate_left
 have hbz:(AT j).flatMap (λ_=>[iD 0, .val (.int .u32 0),iD 0])=(AT j).flatMap (bI (bagE j O nb) O 0):=by
  refine congrArg (λg=>(AT j).flatMap g) (funext λu=>?_);grind [bI]
 rw[hbz,<-hg];have hpl:(fA 32 λu=>iD ((pI O j u:Nat):Int))=fA 32 λu=>iD ((pI O j u:Nat):Int):=rfl;refine zK (λ(i:Nat)=>fr 155 [(3,Ae 0 0),(12,Ae 1 0),(13,Ae 2 0),(16,Ae 3 0),(17,Ay 4 0 j (j*3) Ad),(96,iD j),(97,iD i)]) (λ(i:Nat)=>[grB (iD (j:Nat))<|.row (E.map u32D) E.length,iaB (fA 32 λu=>iD ((O.getD u 0:Nat):Int)),iaB (fA 32 λu=>iD ((pI O j u:Nat):Int)),gaB (fA 32 λu=>u32D (nbT j O nb i u)),bgE<|(AT j).flatMap<|bI (bagE j O nb) O i]) (λ(i:Nat)=>j-i) (λ(i:Nat)=>i<=j) 0 ?_ ?_ ?_
 ·omega
 ·refine vk 5
 clear hsa hal had hea hg l0;intro i h1;rcases AX i j with h3|h3
 ·have hv:=hoL _ (hOm i h3);have hhd:=zD4 (g:=λu=>iD ((O.getD u 0:Nat):Int)) (N:=32) (by omega:i<32);have hpi:∀u,u<j->pI O j u=O.idxOf u:=λu hu=>by unfold pI;rw[if_pos (hxi u hu).1]
  have hid:=hix i h3;have hT:=zH0 (n:=j) (O:=O) hb32 i;have hT1:nbT j O nb (i+1)=nbJ (nbT j O nb i (O.getD i 0)) (O.getD i 0) j (nbT j O nb i):=rfl;have hbg:bagE j O nb (O.getD i 0)=⟨O.getD i 0,nbT j O nb i (O.getD i 0),pz (parJ (nbT j O nb i (O.getD i 0)) (λu=>O.idxOf u) j)⟩:=by unfold bagE;rw[hid]
  generalize nbT j O nb i=T at*;generalize O.getD i 0=v at*;have hhn:=zD4 (g:=λu=>u32D (T u)) (N:=32) (by omega:v<32);focus
   refine vAu<|zA<|vT ((i:Int)<↑j)<|vKB<|vAe ?_;refine vA<|vr 2 ((0:Int)<=(i:Int)/\(i:Int)<↑(32:Nat))<|vo 101 1 i<|vr 1 (0<Aa (Ak i<|AO<|iaB (fA 32 λ(u:Nat)=>iD ↑(AA O u 0)))) (vsh 102 hhd<|veT<|vA<|vr 3 ((0:Int)<=(v:Int)/\(v:Int)<↑(32:Nat))<|vo 105 3 v<|vr 1 (0<Aa (Ak v<|AO<|gaB (fA 32 λ(u:Nat)=>u32D (T u)))) (vsh 106 hhn<|ve (((1=1/\1<=3/\1=1/\2<=3/\1=1/\3<=3/\True)/\Ad=Ad)/\Ab=Ab/\Ad=Ad/\3=3/\3<=3) ?_) (by exact zCa (by omega))) (by exact zCa (by omega));refine zA<|vA<|ve (True/\0<2)<|zH ?_;rotate_left
  have hkv:=hT v;generalize hk:T v=key at*;refine zK (λ(q:Nat)=>fr 155 [(3,Ae 0 0),(12,Ae 1 0),(13,Ae 2 0),(16,Ae 3 0),(17,Ay 4 0 j (j*3) Ad),(19,iD v),(20,Ae 5 0),(96,iD j),(97,iD i),(109,iD j),(110,iD q)]) (λ(q:Nat)=>[grB (iD (j:Nat))<|.row (E.map u32D) E.length,iaB (fA 32 λu=>iD ((O.getD u 0:Nat):Int)),iaB (fA 32 λu=>iD ((pI O j u:Nat):Int)),gaB (fA 32 λu=>u32D (nbJ key v q T u)),bgE<|(AT j).flatMap<|bI (bagE j O nb) O i,bgK v key<|pz<|parJ key (λu=>O.idxOf u) q]) (λ(q:Nat)=>j-q) (λ(q:Nat)=>q<=j) 0 ?_ ?_ ?_
  ·omega
  ·rw[nbJ_zero];refine vk 6
  intro q h5;rcases AX q j with h6|h6
  ·have hhp:=zD4 (g:=λu=>iD ((pI O j u:Nat):Int)) (N:=32) (by omega:q<32);have hhq:=zD4 (g:=λu=>u32D (nbJ key v q T u)) (N:=32) (by omega:q<32);have hTq:nbJ key v q T q=T q:=by unfold nbJ;rw[if_neg (by omega)]
   rw[hTq]at hhq;rw[hpi q h6]at hhp;have hq2:=zEa (by omega:q<32);have hv2:=zEa (by omega:v<32);have hqv:=zR2 hq2 hv2;have hqk:=zR2 (hT q) hkv;have han:=andm_32 (T q|||key) (2^q|||2^v);have hq32:=hT q;by_cases hb:key.testBit q=Ad
   ·have hset:(fA 32 λu=>u32D (nbJ key v q T u)).set q (u32D (andm (T q|||key) (2^q|||2^v)))=fA 32 λu=>u32D (nbJ key v (q+1) T u):=by
     rw[zEw];refine zB5 λu _=>?_;rw[nbJ_succ hb];split<;>rfl
    unfold andm at hset han;cases hp:parJ key (λu=>O.idxOf u) q with
    | none=>
     have hp1:parJ key (λu=>O.idxOf u) (q+1)=AI q:=by rw[parJ,if_pos hb,hp]
     focus
      refine vAu<|zA<|vT ((q:Int)<↑j)<|vKB<|vAe ?_;refine zA<|vA<|vr 4 (True/\0<2/\(0:Int)<=(q:Int))<|vs 116 (Am<|AC As<|BY (key:Int) ((2:Int)^min (AB (q:Int)) 32)) (dig (key>>>q)) (by simp(disch:=omega) only[AS,zE4])<|vrT 1<|vs 117 (Am<|AC As<|AU As (↑(AQ (AE 32 (↑(key>>>q):Int)&&&AE 32 (1:Int))):Int)) (dig<|AQ (AE 32 (↑(key>>>q):Int)&&&AE 32 (1:Int))) (by simp(disch:=omega) only[zA4])<|vrT 1<|vs 118 (bD ((↑(AQ (AE 32 (↑(key>>>q):Int)&&&AE 32 (1:Int))):Int)==(0:Int))) (bD Ab) (by simp(disch:=omega) only[bit_b0,Cm,hb])<|veT<|vf<|vK ?_;refine zA<|zA<|vd [0,1,2,3,4,5,7,6,8,9,10,11,12]<|ve (True/\0<1)<|vt<|zB rfl<|ve (True/\A2 (bgK v key<|pz AM)=Ab/\Ad=Ad/\1=1/\3<=3)<|vd [0,1,2,4,7,8,9,10,11,3,5,6,12,13,14]<|vr 3 ((0:Int)<=(q:Int)/\(q:Int)<↑(32:Nat))<|vo 136 3 q<|vr 3 (True/\(0:Int)<=(q:Int))<|vs 142 (Am<|AC As<|AU As ((1:Int)*(2:Int)^min (AB (q:Int)) 32)) (dig ((2:Nat)^q)) (by simp(disch:=omega) only[AS,zEe])<|vr 2 ((0:Int)<=(v:Int))<|vs 144 (Am<|AC As<|AU As ((1:Int)*(2:Int)^min (AB (v:Int)) 32)) (dig ((2:Nat)^v)) (by simp(disch:=omega) only[AS,zEe]) ?_;refine vrT 1<|vs 145 (Am<|AC As<|AU As (↑(AQ (AE 32 (↑((2:Nat)^q):Int)|||AE 32 (↑((2:Nat)^v):Int))):Int)) (dig ((2:Nat)^q|||(2:Nat)^v)) (by simp(disch:=omega) only[zNi,zA4])<|vr 1 (0<Aa (Ak q<|AO<|gaB (fA 32 λ(u:Nat)=>u32D (nbJ key v q T u)))) (vsh 137 hhq<|vr 2 (0<2/\True)<|vs 140 (Am<|AC As<|AU As (↑(AQ (AE 32 (↑(T q):Int)|||AE 32 (key:Int))):Int)) (dig (T q|||key)) (by simp(disch:=omega) only[zNi,zA4])<|vrT 1<|vs 146 (Am<|AC As<|AU As (↑(AQ (AE 32 (↑(T q|||key):Int)&&&~~~AE 32 (↑((2:Nat)^q|||(2:Nat)^v):Int))):Int)) (dig<|AQ (AE 32 (↑(T q|||key):Int)&&&~~~AE 32 (↑((2:Nat)^q|||(2:Nat)^v):Int))) (by simp(disch:=omega) only[zA4])<|vr 1 ((0:Int)<=(q:Int)/\(q:Int)<↑(32:Nat))<|vo 147 3 q<|vr 1 (A2 (gaB (fA 32 λ(u:Nat)=>u32D (nbJ key v q T u)))=Ab/\Ad=Ad/\1=1/\q+1<=32)<|vnil<|zD<|zC ?_) (by exact zCa (by omega));refine zAw<|zB rfl<|vr 2 (i6 (↑q+1))<|vnil<|zC ?_;rotate_left
     refine⟨q+1,by omega,by omega,?_⟩;rw[hp1,<-hset];refine vk 6
    | some p=>
     obtain⟨p1,p2⟩:=zL0 hp;have hhr:=zD4 (g:=λu=>iD ((pI O j u:Nat):Int)) (N:=32) (by omega:p<32);rw[hpi p (by omega)]at hhr;have hpz:pz (AI p)=((p:Nat):Int):=rfl;rw[hpz];focus
      refine vAu<|zA<|vT ((q:Int)<↑j)<|vKB<|vAe ?_;refine zA<|vA<|vr 4 (True/\0<2/\(0:Int)<=(q:Int))<|vs 116 (Am<|AC As<|BY (key:Int) ((2:Int)^min (AB (q:Int)) 32)) (dig (key>>>q)) (by simp(disch:=omega) only[AS,zE4])<|vrT 1<|vs 117 (Am<|AC As<|AU As (↑(AQ (AE 32 (↑(key>>>q):Int)&&&AE 32 (1:Int))):Int)) (dig<|AQ (AE 32 (↑(key>>>q):Int)&&&AE 32 (1:Int))) (by simp(disch:=omega) only[zA4])<|vrT 1<|vs 118 (bD ((↑(AQ (AE 32 (↑(key>>>q):Int)&&&AE 32 (1:Int))):Int)==(0:Int))) (bD Ab) (by simp(disch:=omega) only[bit_b0,Cm,hb])<|veT<|vf<|vK ?_;refine zA<|zA<|vd [0,1,2,3,4,5,7,6,8,9,10,11,12]<|vw 6 [] [(3,Ab)] (True/\0<1/\decide ((p:Int)<0)=Ab/\(0:Int)<=(q:Int)/\(q:Int)<↑(32:Nat))<|vo 124 2 q<|vr 2 (True/\0<Aa (Ak q<|AO<|iaB (fA 32 λ(u:Nat)=>iD ↑(pI O j u)))) (vsh 125 hhp<|vr 2 (0<1/\(0:Int)<=(p:Int)/\(p:Int)<↑(32:Nat))<|vo 128 2 p<|vr 1 (0<Aa (Ak p<|AO<|iaB (fA 32 λ(u:Nat)=>iD ↑(pI O j u)))) (vsh 129 hhr<|veT ?_) (by exact zCa (by omega))) ⟨trivial,(by exact zCa (by omega))⟩;refine zAa (t:=decide ((↑(List.idxOf q O):Int)<(↑(List.idxOf p O):Int))) (by kernel_rfl) (λhc=>?_)<|λhc=>?_;simp only[decide_eq_true_eq]at hc;refine zB rfl<|ve (True/\A2 (bgK v key (p:Int))=Ab/\Ad=Ad/\1=1/\3<=3)<|vd [0,1,2,4,7,8,9,10,11,3,5,6,12,13,14]<|vr 3 ((0:Int)<=(q:Int)/\(q:Int)<↑(32:Nat))<|vo 136 3 q<|vr 3 (True/\(0:Int)<=(q:Int))<|vs 142 (Am<|AC As<|AU As ((1:Int)*(2:Int)^min (AB (q:Int)) 32)) (dig ((2:Nat)^q)) (by simp(disch:=omega) only[AS,zEe])<|vr 2 ((0:Int)<=(v:Int))<|vs 144 (Am<|AC As<|AU As ((1:Int)*(2:Int)^min (AB (v:Int)) 32)) (dig ((2:Nat)^v)) (by simp(disch:=omega) only[AS,zEe])<|vrT 1<|vs 145 (Am<|AC As<|AU As (↑(AQ (AE 32 (↑((2:Nat)^q):Int)|||AE 32 (↑((2:Nat)^v):Int))):Int)) (dig ((2:Nat)^q|||(2:Nat)^v)) (by simp(disch:=omega) only[zNi,zA4])<|vr 1 (0<Aa (Ak q<|AO<|gaB (fA 32 λ(u:Nat)=>u32D (nbJ key v q T u)))) (vsh 137 hhq<|vr 2 (0<2/\True) ?_) (by exact zCa (by omega));refine vs 140 (Am<|AC As<|AU As (↑(AQ (AE 32 (↑(T q):Int)|||AE 32 (key:Int))):Int)) (dig (T q|||key)) (by simp(disch:=omega) only[zNi,zA4])<|vrT 1<|vs 146 (Am<|AC As<|AU As (↑(AQ (AE 32 (↑(T q|||key):Int)&&&~~~AE 32 (↑((2:Nat)^q|||(2:Nat)^v):Int))):Int)) (dig<|AQ (AE 32 (↑(T q|||key):Int)&&&~~~AE 32 (↑((2:Nat)^q|||(2:Nat)^v):Int))) (by simp(disch:=omega) only[zA4])<|vr 1 ((0:Int)<=(q:Int)/\(q:Int)<↑(32:Nat))<|vo 147 3 q<|vr 1 (A2 (gaB (fA 32 λ(u:Nat)=>u32D (nbJ key v q T u)))=Ab/\Ad=Ad/\1=1/\q+1<=32)<|vnil<|zD<|vN<|zB rfl<|vr 2 (i6 (↑q+1))<|vnil<|zC ?_;rotate_left;simp only[decide_eq_false_iff_not]at hc;refine vK<|vd [0,1,2,4,7,8,9,10,11,3,5,6,12,13,14]<|vr 3 ((0:Int)<=(q:Int)/\(q:Int)<↑(32:Nat))<|vo 136 3 q<|vr 3 (True/\(0:Int)<=(q:Int))<|vs 142 (Am<|AC As<|AU As ((1:Int)*(2:Int)^min (AB (q:Int)) 32)) (dig ((2:Nat)^q)) (by simp(disch:=omega) only[AS,zEe])<|vr 2 ((0:Int)<=(v:Int))<|vs 144 (Am<|AC As<|AU As ((1:Int)*(2:Int)^min (AB (v:Int)) 32)) (dig ((2:Nat)^v)) (by simp(disch:=omega) only[AS,zEe])<|vrT 1<|vs 145 (Am<|AC As<|AU As (↑(AQ (AE 32 (↑((2:Nat)^q):Int)|||AE 32 (↑((2:Nat)^v):Int))):Int)) (dig ((2:Nat)^q|||(2:Nat)^v)) (by simp(disch:=omega) only[zNi,zA4])<|vr 1 (0<Aa (Ak q<|AO<|gaB (fA 32 λ(u:Nat)=>u32D (nbJ key v q T u)))) (vsh 137 hhq ?_) (by exact zCa (by omega));refine vr 2 (0<2/\True)<|vs 140 (Am<|AC As<|AU As (↑(AQ (AE 32 (↑(T q):Int)|||AE 32 (key:Int))):Int)) (dig (T q|||key)) (by simp(disch:=omega) only[zNi,zA4])<|vrT 1<|vs 146 (Am<|AC As<|AU As (↑(AQ (AE 32 (↑(T q|||key):Int)&&&~~~AE 32 (↑((2:Nat)^q|||(2:Nat)^v):Int))):Int)) (dig<|AQ (AE 32 (↑(T q|||key):Int)&&&~~~AE 32 (↑((2:Nat)^q|||(2:Nat)^v):Int))) (by simp(disch:=omega) only[zA4])<|vr 1 ((0:Int)<=(q:Int)/\(q:Int)<↑(32:Nat))<|vo 147 3 q<|vr 1 (A2 (gaB (fA 32 λ(u:Nat)=>u32D (nbJ key v q T u)))=Ab/\Ad=Ad/\1=1/\q+1<=32)<|vnil<|zD<|vN<|zB rfl<|vr 2 (i6 (↑q+1))<|vnil ?_;refine zC ?_;rotate_left
     ·have hp1:parJ key (λu=>O.idxOf u) (q+1)=AI q:=by
       grind [parJ]
      refine⟨q+1,by omega,by omega,?_⟩;rw[hp1,<-hset];refine vk 6
     have hp1:parJ key (λu=>O.idxOf u) (q+1)=AI p:=by
      grind [parJ]
     refine⟨q+1,by omega,by omega,?_⟩;rw[hp1,<-hset];refine vk 6
   have hb0:key.testBit q=false:=by simpa using hb
   have hp1:parJ key (λu=>O.idxOf u) (q+1)=parJ key (λu=>O.idxOf u) q:=by rw[parJ,if_neg hb]
   focus
    refine vAu<|zA<|vT ((q:Int)<↑j)<|vKB<|vAe ?_;refine zA<|vA<|vr 4 (True/\0<2/\(0:Int)<=(q:Int))<|vs 116 (Am<|AC As<|BY (key:Int) ((2:Int)^min (AB (q:Int)) 32)) (dig (key>>>q)) (by simp(disch:=omega) only[AS,zE4])<|vrT 1<|vs 117 (Am<|AC As<|AU As (↑(AQ (AE 32 (↑(key>>>q):Int)&&&AE 32 (1:Int))):Int)) (dig<|AQ (AE 32 (↑(key>>>q):Int)&&&AE 32 (1:Int))) (by simp(disch:=omega) only[zA4])<|vrT 1<|vs 118 (bD ((↑(AQ (AE 32 (↑(key>>>q):Int)&&&AE 32 (1:Int))):Int)==(0:Int))) (bD Ad) (by simp(disch:=omega) only[bit_b0,Bool.not_false,hb0])<|veT<|vt<|vY ?_;refine vN<|zB rfl<|vr 2 (i6 (↑q+1))<|vnil<|zC ?_;rotate_left
   refine⟨q+1,by omega,by omega,?_⟩;rw[hp1,nbJ_no hb0];refine vk 6
  obtain rfl:q=j:=by omega
  have hbs:setAt ((AT q).flatMap (bI (bagE q O nb) O i)) (v*3) [iD (v:Nat),u32D key,iD (pz (parJ key (λu=>O.idxOf u) q))]=(AT q).flatMap (bI (bagE q O nb) O (i+1)):=by
   rw[fl_set (bI_len _ _ _) rfl hv];refine congrArg (λg=>(AT q).flatMap g) (funext λu=>?_);by_cases hu:u=v
   ·grind [bI]
   rw[if_neg hu];unfold bI;by_cases h7:O.idxOf u<i;all_goals grind
  have hln:v*3+3<=((AT q).flatMap (bI (bagE q O nb) O i)).length:=by
   rw[zDj (bI_len _ _ _),BO];omega
  simp only[setAt]at hbs;focus
   refine vAu<|zA<|vF ((q:Int)<↑q)<|vZ2<|zB rfl<|vr 4 (3<=3/\(0:Int)<=(v:Int)/\(v:Int)<↑q) ?_;refine vo0 152 4 (v*3)<|vr 1 (A2 (bgE<|Ah (bI (bagE q O nb) O i)<|AT q)=Ab/\Ad=Ad/\3=3/\v*3+3<=Aa (AO<|bgE<|Ah (bI (bagE q O nb) O i)<|AT q)/\¬4∈[])<|vnil<|zD<|vN<|zB rfl<|vr 2 (i6 (↑i+1))<|vnil<|zC ?_;rotate_left
  refine⟨i+1,by omega,by omega,?_⟩;rw[<-hbs,hT1];refine vk 5
 obtain rfl:i=j:=by omega
 have hbl:(AT i).flatMap (bI (bagE i O nb) O i)=(AT i).flatMap λv=>bgC (bagE i O nb v):=by
  rw[List.flatMap_def,List.flatMap_def];refine congrArg List.flatten (Ci λv hv=>?_);grind [bI]
 have hbt:((AT i).flatMap λv=>bgC (bagE i O nb v)).take (i*3)=(AT i).flatMap λv=>bgC (bagE i O nb v):=zN7 (c:=3) (λ_=>rfl) _ _ (by simp);rw[hbl];focus
  refine vAu<|zA<|vF ((i:Int)<↑i)<|vZ2<|vA ?_;refine veT<|zE ?_;refine zCf (True) (D.tup [Aj (Aw (i*3)<|Ak 0<|AO<|bgE<|Ah (λ(v:Nat)=>bgC (bagE i O nb v))<|AT i) i,iD 0]) (D.tup [Aj (Ah (λ(v:Nat)=>bgC (bagE i O nb v))<|AT i) i,Am<|AC Bi 0]) (.inr rfl) trivial (by simp(disch:=omega) only[Bb,hbt]) rfl
structure Bal(b:Bd)(VT:Nat->List Rw)(TT:Nat->List (Rw×Nat)):Prop where
 n:b.n<=1000
 f:b.f<=b.n
 d:b.desc.length=b.f
 L:b.L.length=b.n
 R:b.R.length=b.n
 E:b.E=b.A.map λa=>msk a.1
 P:b.P.length+b.f=b.n
 P2:∀v∈b.P,b.f<=v/\v<b.n
 P3:b.P.Nodup
 A:b.A.length<=1000
 Av:∀a∈b.A,a.1.length<=1000/\(∀v∈a.1,v<32)/\a.2.length<=65536
 k:∀c∈b.L,c.k<4294967296
 V:∀v,v<b.n->(b.R.getD v Af).1.length<=1000/\0<(b.R.getD v Af).1.length/\∀u∈(b.R.getD v Af).1,u<32
 r:∀v,v<b.n->∀x∈(b.R.getD v Af).2,x.length=(b.R.getD v Af).1.length/\(∀u∈x,Vs u)/\x.all vok=Ad
 rl:∀v,v<b.n->(b.R.getD v Af).2.length<=65536
 S:∀v,v<b.n->∀x∈(b.R.getD v Af).2,∀i,i<=(chV b v).length->Sm (wtL b.f VT TT x ((chV b v).take i))
 S1:∀v,v<b.n->∀p∈TT v,Sm p.2
 T:∀v,v<b.n->Sm (sumW (λx=>wtL b.f VT TT x (chV b v)) (b.R.getD v Af).2)
 Rt:∀i,i<=b.n->Sm (rtL b.L b.f VT TT i)
 vt:∀v,b.f<=v->v<b.n->VT v=redK (λx=>wtL b.f VT TT x (chV b v)) (keyC b v) (b.R.getD v Af).2
 tt:∀v,v<b.f->TT v=totL (grpL (b.desc.getD v Ab) (λx=>wtL b.f VT TT x (chV b v)) (b.R.getD v Af).2)
 o1:∀i,i<b.P.length->∀c∈chV b (b.P.getD i 0),c.1∈b.P.take i
 o2:∀v,v<b.f->∀c∈chV b v,c.1<b.f->v<c.1
def gvT(P:List Nat)(VT:Nat->List Rw)(i c:Nat):D:=if c∈P.take i then zHo (VT c)else .val (.map AM)
def gtT(f:Nat)(TT:Nat->List (Rw×Nat))(j c:Nat):D:=if f<=c+j/\c<f then zGv (TT c)else .val (.map AM)
def guT(f:Nat)(U:Nat->List Bu)(j c:Nat):D:=if f<=c+j/\c<f then busD (U c)else .val (.slice AM 0 0)
abbrev buk(b:Bd)(VT:Nat->List Rw)(TT:Nat->List (Rw×Nat))(v:Nat):List Bu:=grpL (b.desc.getD v Ab) (λx=>wtL b.f VT TT x (chV b v)) (b.R.getD v Af).2
theorem gvT_ref{P:List Nat}{VT:Nat->List Rw}{i c j:Nat}:refs j (gvT P VT i c)=false:=by unfold gvT;split<;>rfl
theorem gtT_ref{f:Nat}{TT:Nat->List (Rw×Nat)}{i c j:Nat}:refs j (gtT f TT i c)=false:=by unfold gtT;split<;>rfl
section
variable {b : Bd} {VT : Nat → List Rw} {TT : Nat → List (Rw × Nat)} (h : Bal b VT TT)
include h
theorem Bal.mem{v:Nat}(h1:b.f<=v)(h2:v<b.n):v∈b.P:=by
 have hO:=zP8 (f:=b.f) h.P;have hm:=zGj (zT0 h.P2 h.P3) hO (zT1 h.P h.P2) v h2;rcases Ct.1 hm with hm|hm
 ·exact hm
 simp at hm;omega
theorem Bal.bok{v i j:Nat}(hv:v<b.n)(hgv:∀c∈chV b v,b.f<=c.1->c.1∈b.P.take i)(hgt:∀c∈chV b v,c.1<b.f->b.f<=c.1+j)(hne:∀c∈chV b v,c.1≠v):Bok b v (gvT b.P VT i) (gtT b.f TT j) VT TT where
 n:=h.n
 vn:=hv
 L:=h.L
 R:=h.R
 k:=h.k
 V:=(h.V v hv).1
 V2:=(h.V v hv).2.2
 r x hx:=⟨(h.r v hv x hx).1,(h.r v hv x hx).2.1⟩
 rl:=h.rl v hv
 hv c hc hf:=if_pos (hgv c hc hf)
 ht c hc hf:=if_pos ⟨hgt c hc hf,hf⟩
 ne:=hne
 S:=h.S v hv
 S1 c hc:=h.S1 c.1 (by rw[<-h.L];exact(zHd hc).1)
 gw c _ j _:=gvT_ref
 tw c _ j _:=gtT_ref
theorem Bal.bokP{i:Nat}(hi:i<b.P.length):Bok b (b.P.getD i 0) (gvT b.P VT i) (gtT b.f TT 0) VT TT:=by
 have hm:=zBv b.P i hi;have h1:=h.P2 _ hm;refine h.bok h1.2 (λc hc _=>h.o1 i hi c hc) (λc hc hf=>?_) (λc hc e=>?_)
 ·have:=(h.P2 _ (CB (h.o1 i hi c hc))).1
  omega
 have h2:=h.o1 i hi c hc;rw[e]at h2;obtain⟨j,hj,e2⟩:=BT h2;have hji:j<i:=by simp at hj;omega
 rw[List.getElem_take,A0,AV hi]at e2
 have:=(List.getElem_inj h.P3).1 e2
 omega
theorem Bal.bokF{j:Nat}(hj:j<b.f):Bok b (b.f-1-j) (gvT b.P VT b.P.length) (gtT b.f TT j) VT TT:=by
 have hf:=h.f;refine h.bok (by omega) (λc hc hcf=>?_) (λc hc hcf=>?_) (λc hc e=>?_)
 ·rw[Bf];exact h.mem hcf (by rw[<-h.L];exact(zHd hc).1)
 ·have:=h.o2 _ (by omega) c hc hcf
  omega
 have:=h.o2 _ (by omega) c hc (by omega)
 omega
end
theorem fA_le{n:Nat}{g g':Nat->D}(h:∀i,LeD (g i) (g' i)):LeL (fA n g) (fA n g'):=by
 unfold fA;induction AT n with
 |nil=>exact .nil
 |cons a l ih=>exact .cons (h a) ih
def Tbd:Par:=⟨λf=>f==51||f==52||f==53,λ_ _=>AM,λ_=>Ab,λ_=>Ab,λt=>t==170||t==177⟩
theorem Tbd_ok:zA7 AH Tbd:=by intro t n f h;cases h
abbrev inpN(b:Bd):D:= .agg [iD (b.n:Nat),iD (b.f:Nat), .row (b.desc.map bD) b.desc.length, .row (nsD b.P) b.P.length, .row (b.A.flatMap atR) b.A.length]
abbrev gB2(n m:Nat):Bk:=⟨[iD (n:Nat), .osl 3 0 m m Ad],77,0,Ab,Ab, .plain⟩
def zDm(R:List (List Nat×List Rw)):Nat:=(R.map λa=>a.2.length).sum
theorem zY2(R:List (List Nat×List Rw))(i:Nat)(h:i<R.length):zDm (R.take (i+1))=zDm (R.take i)+(R.getD i Af).2.length:=by
 grind [zDm,Bl,AV]
set_option maxHeartbeats 4000000 in
theorem build_c(b:Bd)(VT:Nat->List Rw)(TT:Nat->List (Rw×Nat))(S:Nat)(h:Bal b VT TT)
  (hck:Pure AH 16 [inpN b] [] (iD 0))
  (heb:Pure AH 31 [.agg [iD (b.n:Nat), .row (b.E.map u32D) b.E.length],iD (b.f:Nat), .row (nsD b.P) b.P.length] [] (.tup [.row (b.L.flatMap bgC) b.L.length,iD 0]))
  (hall:Pure AH 32 [iD (b.n:Nat), .row (b.L.flatMap bgC) b.L.length, .row (b.A.flatMap atR) b.A.length] [] (.tup [.row (b.R.flatMap atR) b.R.length,iD ((S:Nat):Int),iD 0]))
  (hSb:S+zDm b.R<=9000000000000000000):
  Pure AH 15 [inpN b] [] (.tup [ixD b.desc (b.L.take b.f) (λc=>if totB b VT TT=0 then[]else buk b VT TT c) (totB b VT TT),iD ((S+zDm b.R:Nat):Int),iD 0]):=by
 have hac:∀a:List Nat×List Rw,(atR a).length=3:=λ_=>rfl;have hAl:=h.A;refine zF Tbd_ok mixed Tryz.func15 rfl ?_;focus
  refine vAu<|zA<|vA<|vr 1 (5<=5)<|vc hck<|veT<|vAe<|vf ?_;refine vK<|vA<|vr 5 (True/\0<5/\((1=1/\1<=2/\True)/\Ad=Ad)/\Ab=Ab/\Ad=Ad/\2=2/\2<=2)<|vnil<|zC<|vnn (fr 159 [(1,Ae 0 0),(2,Ae 1 0),(3,iD 0),(4,iD 0),(5,iD 0),(6,Ae 2 0),(27,bD Ab),(30,Ae 0 0),(31,iD ↑(Ag b)),(32,AJ [iD ↑(Ag b),nl])]) [(q26_ b),q27_,An [iD ↑(Ag b),nl] 77 0 Ab Ab Au] ?_;rotate_left
 refine zBx (Weak.nilC (j:=2) (i:=1) (ej:=grB (iD (b.n:Nat)) nl1) (uuB []) rfl rfl rfl rfl) ?_;focus
  refine zA<|vAs<|ve (True/\0<1)<|zH ?_;rotate_left
 refine zK (λ(i:Nat)=>fr 159 [(1,Ae 0 0),(2,Ae 1 0),(3,iD 0),(4,iD 0),(6,Ae 2 0),(34,(q19_ b)),(35,iD (Aa (AN b):Int)),(36,iD i)]) (λ(i:Nat)=>[blI b,blX,gB2 b.n i,uuB ((b.A.take i).map λa=>msk a.1)]) (λ(i:Nat)=>b.A.length-i) (λ(i:Nat)=>i<=b.A.length) 0 ?_ ?_ ?_
 ·omega
 ·refine vk 4
 intro i h1;rcases AX i b.A.length with h3|h3
 ·have hg2:=zCz hac b.A i h3;have hle:=zEv hac b.A i h3;have hne:=zDe hac (by decide) b.A (by omega);have hmem:b.A.getD i Af∈b.A:=by rw[A0,AV h3];exact A4 h3
  obtain⟨a1,a2,a3⟩:=h.Av _ hmem;have htk:b.A.take (i+1)=b.A.take i++[b.A.getD i Af]:=zEj b.A i h3;have hcl:((b.A.take i).map λa=>msk a.1).length=i:=by simp;omega
  generalize b.A.getD i Af=a at*;have huu:uuB ((b.A.take (i+1)).map λa=>msk a.1)=⟨((b.A.take i).map λa=>msk a.1).map u32D++[u32D (msk a.1)],36,1,Ad,Ab, .plain⟩:=by rw[htk];simp
  focus
   refine vAu<|zA<|vT ((i:Int)<(Aa (AN b):Int))<|vKB<|vA<|vr 2 (ix ↑i (Aa (AN b):Int) (Ah atR (AN b)≠[])/\3<=Aa (Ak (i*3)<|Ah atR<|AN b)) ?_;refine vs 39 (AJ<|Aw 3<|Ak (i*3)<|Ah atR<|AN b) (AJ<|atR a) (by simp(disch:=omega) only[hg2])<|ve (Ab=Ab/\Ad=Ad/\3=3/\3<=3)<|vAe<|zA<|vA<|ve (True/\0<3)<|zH ?_;rotate_left
  refine zK (λ(j:Nat)=>fr 159 [(1,Ae 0 0),(2,Ae 1 0),(3,iD 0),(4,iD 0),(6,Ae 2 0),(9,u32D<|msk<|Aw j<|Az a),(34,(q19_ b)),(35,iD (Aa (AN b):Int)),(36,iD i),(41,Aj (nsD<|Az a)<|Aa<|Az a),(42,iD (Aa (Az a):Int)),(43,iD j)]) (λ(j:Nat)=>[blI b,blX,gB2 b.n i,uuB ((b.A.take i).map λa=>msk a.1),atK a]) (λ(j:Nat)=>a.1.length-j) (λ(j:Nat)=>j<=a.1.length) 0 ?_ ?_ ?_
  ·omega
  ·refine vk 5
  intro j h2;have hlt:∀j,msk (a.1.take j)<4294967296:=λj=>msk_lt λv hv=>a2 v (CB hv);rcases AX j a.1.length with h4|h4
  ·have h5:=a2 _ (zBv a.1 j h4);have h6:=zEa h5;have h7:=zR2 (hlt j) h6;have h8:=hlt j;focus
    refine vAu<|zA<|vT ((j:Int)<(Aa (Az a):Int))<|vKB<|vA<|vr 1 (ix ↑j (Aa (Az a):Int) (nsD (Az a)≠[])) ?_ ⟨(by omega),⟨(by omega),(by exact zAm (by omega))⟩⟩;refine vp 45 j (nsD<|Az a)<|vr 1 (0<Aa (Ak j<|nsD<|Az a))<|vs 46 (Bm (Ak j<|nsD<|Az a) Uk) (iD (↑(AA (Az a) j 0):Int)) (by simp(disch:=omega) only[zCl])<|veT<|zB rfl<|vr 3 ((0:Int)<=(↑(AA (Az a) j 0):Int))<|vs 49 (Am<|AC As<|AU As ((1:Int)*(2:Int)^min (AB (↑(AA (Az a) j 0):Int)) 32)) (dig ((2:Nat)^AA (Az a) j 0)) (by simp(disch:=omega) only[AS,zEe])<|vrT 1<|vs 50 (Am<|AC As<|AU As (↑(AQ (AE 32 (↑(msk<|Aw j<|Az a):Int)|||AE 32 (↑((2:Nat)^AA (Az a) j 0):Int))):Int)) (dig (msk (Aw j<|Az a)|||(2:Nat)^AA (Az a) j 0)) (by simp(disch:=omega) only[zNi,zA4])<|vrT 1<|vnil<|zD<|vN ?_;refine zB rfl<|vr 2 (i6 (↑j+1))<|vnil<|zC ?_;rotate_left
   refine⟨j+1,by omega,by omega,?_⟩;rw[zXf a.1 j h4];refine vk 5
  obtain rfl:j=a.1.length:=by omega
  rw[Bf];focus
   refine vAu<|zA<|vF ((Aa (Az a):Int)<(Aa (Az a):Int))<|vZ2<|zB rfl<|vr 7 (True/\0<1/\((1=1/\1<=1/\True)/\0<1/\1=1/\1<=16777216/\1<=9223372036854775807)/\(Bk.arr (uuB<|Ao (λ(a:List Nat×List Rw)=>msk (Az a))<|Aw i<|AN b)=Ad/\Aa (AO<|uuB<|Ao (λ(a:List Nat×List Rw)=>msk (Az a))<|Aw i<|AN b)=i*1/\i=i*1/\Bp (uuB<|Ao (λ(a:List Nat×List Rw)=>msk (Az a))<|Aw i<|AN b)=36/\Bq (uuB<|Ao (λ(a:List Nat×List Rw)=>msk (Az a))<|Aw i<|AN b)=1/\1=1/\0<1/\0<4/\36=36/\(i+1)*4<=140737488355328/\1=1/\Bt (Bj<|uuB<|Ao (λ(a:List Nat×List Rw)=>msk (Az a))<|Aw i<|AN b)=Ab/\(Ab=Ab\/Bv (Bj<|uuB<|Ao (λ(a:List Nat×List Rw)=>msk (Az a))<|Aw i<|AN b)=Ad))/\True/\Ab=Ab/\Ad=Ad/\1=1/\2<=2) ?_;refine vb 2 (An [iD ↑(Ag b),Ay 3 0 (i+1) ((i+1)*1) Ad] 77 0 Ab Ab Au) (An [iD ↑(Ag b),Ay 3 0 (i+1) (i+1) Ad] 77 0 Ab Ab Au) (by simp(disch:=omega) only[A5])<|vnil<|zD<|vN<|zB rfl<|vr 2 (i6 (↑i+1))<|vnil<|zC ?_;rotate_left
  refine⟨i+1,by omega,by omega,?_⟩;rw[huu];refine vk 4
 have hiA:i=b.A.length:=by omega
 rw[hiA,Bf,<-h.E];have hEl:b.A.length=b.E.length:=by rw[h.E,Bc]
 have hEt:(b.E.map u32D).take b.A.length=b.E.map u32D:=By (by rw[Bc];omega);rw[<-hEl]at heb;focus
  refine vAu<|zA<|vF ((Aa (AN b):Int)<(Aa (AN b):Int))<|vZ2<|vA ?_;refine vr 5 (2<=2/\True/\0<4/\True/\0<2)<|vcl [AJ [iD ↑(Ag b),Aj (Aw (Aa<|AN b)<|Ak 0<|AO<|uuB<|Bd.E b)<|Aa<|AN b],iD ↑(Ai b),Aj (nsD<|AP b)<|Aa<|AP b] [AJ [iD ↑(Ag b),Aj (Ao u32D<|Bd.E b)<|Aa<|AN b],iD ↑(Ai b),Aj (nsD<|AP b)<|Aa<|AP b] (LeL.of_eq (by simp(disch:=omega) only[Bb,hEt])) (by exact heb)<|ve (0<2/\1<2)<|zA<|vAe<|vf<|vK<|vA<|vr 5 (True/\0<5/\True/\0<1) ?_;refine vc hall<|ve (0<3/\1<3/\2<3)<|zA<|vAe<|vf<|zQ<|zC<|vnn (fr 159 [(1,Ae 0 0),(2,Ae 1 0),(3,iD 0),(4,iD 0),(12,(q16_ b)),(13,iD 0),(14,(q15_ b)),(15,iD S),(83,bD Ab)]) [blI b,blX,gB2 (Ag b)<|Aa<|AN b,An (Ao u32D<|Bd.E b) (36:TypeId) 1 Ad Ad Au] ?_;rotate_left
 have hRl:=h.R;have hbn:=h.n;focus
  refine zAw<|zA<|vAu<|zH ?_;rotate_left
 refine zK (λ(i:Nat)=>fr 159 [(1,Ae 0 0),(2,Ae 1 0),(3,iD 0),(4,iD 0),(12,(q16_ b)),(14,(q15_ b)),(15,iD (↑(S+zDm (Aw i<|Ar b)):Int)),(86,(q15_ b)),(87,iD (Aa (Ar b):Int)),(88,iD i)]) (λ(i:Nat)=>[blI b,blX,blG b,blE b]) (λ(i:Nat)=>b.R.length-i) (λ(i:Nat)=>i<=b.R.length) 0 ?_ ?_ ?_
 ·omega
 ·refine vk 4
 intro j h2;rcases AX j b.R.length with h3'|h3'
 ·have hg2:=zCz hac b.R j h3';have hle:=zEv hac b.R j h3';have hne:=zDe hac (by decide) b.R (by omega);have hsu:=zY2 b.R j h3';have hbd:zDm (b.R.take j)+(b.R.getD j Af).2.length<=zDm b.R:=by
   grind [zDm,Cu]
  generalize b.R.getD j Af=a at*;have hlen:=zKe (a.1.length:Nat) (a.2.map rowV) a.2.length;focus
   refine vAu<|zA<|vT ((j:Int)<(Aa (Ar b):Int))<|vKB<|vA<|vr 2 (ix ↑j (Aa (Ar b):Int) (Ah atR (Ar b)≠[])/\3<=Aa (Ak (j*3)<|Ah atR<|Ar b)) ?_;refine vs 91 (AJ<|Aw 3<|Ak (j*3)<|Ah atR<|Ar b) (AJ<|atR a) (by simp(disch:=omega) only[hg2])<|ve (Ab=Ab/\Ad=Ad/\3=3/\3<=3)<|zB rfl<|vr 3 (True/\2<=2)<|vc hlen<|vr 2 (i6 ((↑(S+zDm (Aw j<|Ar b)):Int)+(Aa (AL a):Int)))<|vnil<|zD<|vN<|zB rfl<|vr 2 (i6 (↑j+1))<|vnil<|zC ?_;rotate_left
  refine⟨j+1,h3',by omega,?_⟩;rw[hsu,show((S+(zDm (b.R.take j)+a.2.length):Nat):Int)=((S+zDm (b.R.take j):Nat):Int)+((a.2.length:Nat):Int) by omega];refine vk 4
 have hjR:j=b.R.length:=by omega
 rw[hjR,Bf];have hz1:repL b.n [.val (.map AM)]=fA b.n (gvT b.P VT 0):=by
  grind [zTu,zB5,gvT]
 have hz2:repL b.n [.val (.map AM)]=fA b.n (gtT b.f TT 0):=by
  grind [zTu,zB5,gtT]
 have hz3:repL b.f [.val (.slice AM 0 0)]=fA b.f (guT b.f (buk b VT TT) 0):=by
  grind [zTu,zB5,guT]
 have hbf:=h.f;have hPl:=h.P;focus
  refine vAu<|zA<|vF ((Aa (Ar b):Int)<(Aa (Ar b):Int))<|vZ2<|vA ?_;refine ve (5<=5/\((5=5/\5<=10/\1=1/\6<=10/\1=1/\7<=10/\True)/\Ad=Ad)/\Ab=Ab/\Ad=Ad/\10=10/\10<=10)<|zA ?_;refine zA6 [0,3,1,2,6,4,5] [(7,[(4,100000),(5,6)],[8,9])] rfl ?_;refine vr 7 (True/\True/\0<5/\((0:Int)<=(↑(Ag b):Int)/\(↑(Ag b):Int)<=(↑(Ag b):Int)/\(↑(8:Nat):Int)*(↑(Ag b):Int)<=(281474976710656:Int)/\(↑(Ag b):Int)<=(281474976710656:Int)/\0<1/\1=1)/\True/\0<5/\(0:Int)<=(↑(Ag b):Int)/\(↑(Ag b):Int)<=(↑(Ag b):Int)/\(↑(8:Nat):Int)*(↑(Ag b):Int)<=(281474976710656:Int)/\(↑(Ag b):Int)<=(281474976710656:Int)/\0<1/\1=1)<|vnil<|zBz rfl rfl<|vr 1 (Ab=Ab/\Ad=Ad/\1=1/\8<=10)<|vb 4 (An [iD ↑(Ag b),iD ↑(Ai b),Aj (Ao bD<|AW b)<|Aa<|AW b,Aj (nsD<|AP b)<|Aa<|AP b,Aj (Ah atR<|AN b)<|Aa<|AN b,Aj (Ah bgC<|Aq b)<|Aa<|Aq b,Aj (Ah atR<|Ar b)<|Aa<|Ar b,Ay 5 0 (AB (↑(Ag b):Int)) (AB (↑(Ag b):Int)*1) Ad,nl,nl] 120 0 Ab Ab Au) (An [iD ↑(Ag b),iD ↑(Ai b),Aj (Ao bD<|AW b)<|Aa<|AW b,Aj (nsD<|AP b)<|Aa<|AP b,Aj (Ah atR<|AN b)<|Aa<|AN b,Aj (Ah bgC<|Aq b)<|Aa<|Aq b,Aj (Ah atR<|Ar b)<|Aa<|Ar b,Ay 5 0 (Ag b) (Ag b) Ad,nl,nl] 120 0 Ab Ab Au) (by simp(disch:=omega) only[AS,A5]) ?_;refine vnil ?_;refine zEd (C:=0<5/\AI (iD ↑(Ag b))=AI (Bm [iD ↑(Ag b),iD ↑(Ai b),(q17_ b),(q18_ b),(q19_ b)] Uk)/\((0:Int)<=(↑(Ag b):Int)/\(↑(Ag b):Int)<=(↑(Ag b):Int)/\(↑(8:Nat):Int)*(↑(Ag b):Int)<=(281474976710656:Int)/\(↑(Ag b):Int)<=(281474976710656:Int)/\0<1/\1=1)/\AI (Ay 6 0 (AB (↑(Ag b):Int)) (AB (↑(Ag b):Int)*1) Ad)=AI (Ay 6 0 (AB (↑(Ag b):Int)) (AB (↑(Ag b):Int)*1) Ad)/\eqDL (repL (Ag b) [Am (Cg AM)]) (repL (AB (↑(Ag b):Int)) [Am (Cg AM)])/\177=177/\1=1/\Ad=Ad/\(kdOf Ad)=kdOf Ad) ⟨(by omega),(by kernel_rfl),(by omega),(by kernel_rfl),rfl,(by kernel_rfl),(by kernel_rfl),(by kernel_rfl),(by kernel_rfl)⟩ ?_;refine vr 2 (True/\Ab=Ab/\Ad=Ad/\1=1/\9<=10)<|vb 4 (An [iD ↑(Ag b),iD ↑(Ai b),Aj (Ao bD<|AW b)<|Aa<|AW b,Aj (nsD<|AP b)<|Aa<|AP b,Aj (Ah atR<|AN b)<|Aa<|AN b,Aj (Ah bgC<|Aq b)<|Aa<|Aq b,Aj (Ah atR<|Ar b)<|Aa<|Ar b,Ay 5 0 (Ag b) (Ag b) Ad,Ay 6 0 (AB (↑(Ag b):Int)) (AB (↑(Ag b):Int)*1) Ad,nl] 120 0 Ab Ab Au) (An [iD ↑(Ag b),iD ↑(Ai b),Aj (Ao bD<|AW b)<|Aa<|AW b,Aj (nsD<|AP b)<|Aa<|AP b,Aj (Ah atR<|AN b)<|Aa<|AN b,Aj (Ah bgC<|Aq b)<|Aa<|Aq b,Aj (Ah atR<|Ar b)<|Aa<|Ar b,Ay 5 0 (Ag b) (Ag b) Ad,Ay 6 0 (Ag b) (Ag b) Ad,nl] 120 0 Ab Ab Au) (by simp(disch:=omega) only[AS,A5]) ?_;refine vnil<|zBu<|vN<|vA<|vr 3 (True/\0<4/\(0:Int)<=(↑(Ai b):Int)/\(↑(Ai b):Int)<=(↑(Ai b):Int)/\(↑(24:Nat):Int)*(↑(Ai b):Int)<=(281474976710656:Int)/\(↑(Ai b):Int)<=(281474976710656:Int)/\0<1/\1=1)<|vb 7 (An (repL (AB (↑(Ai b):Int)) [nl]) 88 1 Ad Ab<|kdOf Ab) (An (fA (Ai b)<|guT (Ai b) (buk b VT TT) 0) 88 1 Ad Ab<|kdOf Ab) (by simp(disch:=omega) only[AS,hz3])<|vr 2 (True/\Ab=Ab/\Ad=Ad/\1=1/\10<=10)<|vb 4 (An [iD ↑(Ag b),iD ↑(Ai b),Aj (Ao bD<|AW b)<|Aa<|AW b,Aj (nsD<|AP b)<|Aa<|AP b,Aj (Ah atR<|AN b)<|Aa<|AN b,Aj (Ah bgC<|Aq b)<|Aa<|Aq b,Aj (Ah atR<|Ar b)<|Aa<|Ar b,Ay 5 0 (Ag b) (Ag b) Ad,Ay 6 0 (Ag b) (Ag b) Ad,Ay 7 0 (AB (↑(Ai b):Int)) (AB (↑(Ai b):Int)*1) Ad] 120 0 Ab Ab Au) (An [iD ↑(Ag b),iD ↑(Ai b),Aj (Ao bD<|AW b)<|Aa<|AW b,Aj (nsD<|AP b)<|Aa<|AP b,Aj (Ah atR<|AN b)<|Aa<|AN b,Aj (Ah bgC<|Aq b)<|Aa<|Aq b,Aj (Ah atR<|Ar b)<|Aa<|Ar b,Ay 5 0 (Ag b) (Ag b) Ad,Ay 6 0 (Ag b) (Ag b) Ad,Ay 7 0 (Ai b) (Ai b) Ad] 120 0 Ab Ab Au) (by simp(disch:=omega) only[AS,A5]) ?_;refine veT<|zA<|vA<|ve (True/\0<2)<|zH ?_;rotate_left
 refine zK (λ(i:Nat)=>fr 159 [(1,Ae 0 0),(2,Ae 1 0),(3,iD 0),(4,iD 0),(12,(q16_ b)),(15,iD (↑(S+zDm (Ar b)):Int)),(18,Ae 4 0),(115,(q18_ b)),(116,iD (Aa (AP b):Int)),(117,iD i)]) (λ(i:Nat)=>[blI b,blX,blG b,blE b,blB b,blV<|fA b.n<|gvT b.P VT i,blT<|fA b.n<|gtT b.f TT 0,blU<|fA b.f<|guT b.f (buk b VT TT) 0]) (λ(i:Nat)=>b.P.length-i) (λ(i:Nat)=>i<=b.P.length) 0 ?_ ?_ ?_
 ·omega
 ·rw[<-hz1,<-hz2];refine vk 8
 intro p h4;rcases AX p b.P.length with h5|h5
 ·have hhd:=zCl b.P p h5;have hpm:=h.P2 _ (zBv b.P p h5);have hre:=reduce_c b (b.P.getD p 0) (gvT b.P VT p) (gtT b.f TT 0) VT TT (h.bokP h5) (fA b.f (guT b.f (buk b VT TT) 0));rw[<-h.vt _ hpm.1 hpm.2]at hre;have hgs:(fA b.n λc=>if c=b.P.getD p 0 then zHo (VT (b.P.getD p 0))else gvT b.P VT p c)=fA b.n (gvT b.P VT (p+1)):=by
   refine zB5 λc _=>?_;grind [Bl,AV,gvT,BH]
  rw[hgs]at hre;focus
   refine vAu<|zA<|vT ((p:Int)<(Aa (AP b):Int))<|vKB<|vA<|vr 1 (ix ↑p (Aa (AP b):Int) (nsD (AP b)≠[])) ?_ ⟨(by omega),⟨(by omega),(by exact zAm (by omega))⟩⟩;refine vp 119 p (nsD<|AP b)<|vr 1 (0<Aa (Ak p<|nsD<|AP b))<|vsh 120 hhd<|veT<|zB rfl<|vrT 1<|vnt [blI b,blX,blG b,blE b,blB b,blV<|fA (Ag b)<|gvT (AP b) VT p,blT<|fA (Ag b)<|gtT (Ai b) TT 0,blU<|fA (Ai b)<|guT (Ai b) (buk b VT TT) 0] ?_;refine zY [] [] [Ae 4 0,iD (↑(AA (AP b) p 0):Int)] [Ae 4 0,iD (↑(AA (AP b) p 0):Int)] (A1 _) (by exact hre) ?_;refine vnil<|zD<|vN<|zB rfl<|v0s<|vr 2 (i6 (↑p+1))<|vnil<|zC ?_;rotate_left
  refine⟨p+1,h5,by omega,?_⟩;refine vk 8
 have hpP:p=b.P.length:=by omega
 rw[hpP];focus
  refine vAu<|zA<|vF ((Aa (AP b):Int)<(Aa (AP b):Int))<|vZ2<|zA<|zA ?_;refine zB rfl<|ve (True/\0<4)<|zH ?_;rotate_left
 refine zK (λ(i:Nat)=>fr 159 [(1,Ae 0 0),(2,Ae 1 0),(12,(q16_ b)),(15,iD (↑(S+zDm (Ar b)):Int)),(18,Ae 4 0),(125,iD ↑(Ai b)),(126,iD i)]) (λ(i:Nat)=>[blI b,blX,blG b,blE b,blB b,blV<|fA b.n<|gvT b.P VT b.P.length,blT<|fA b.n<|gtT b.f TT i,blU<|fA b.f<|guT b.f (buk b VT TT) i]) (λ(i:Nat)=>b.f-i) (λ(i:Nat)=>i<=b.f) 0 ?_ ?_ ?_
 ·omega
 ·refine vk 8
 intro q h6;rcases AX q b.f with h7|h7
 ·have hvn:b.f-1-q<b.n:=by omega
  have hgr:=group_c b (b.f-1-q) (gvT b.P VT b.P.length) (gtT b.f TT q) (guT b.f (buk b VT TT) q) VT TT (h.bokF h7) (by omega) h.d (h.V _ hvn).2.1 (λx hx=>(h.r _ hvn x hx).2.2) (h.T _ hvn);rw[<-h.tt _ (by omega)]at hgr;have hg1:(fA b.n λc=>if c=b.f-1-q then zGv (TT (b.f-1-q))else gtT b.f TT q c)=fA b.n (gtT b.f TT (q+1)):=by
   refine zB5 λc _=>?_;grind [gtT]
  have hg2:(fA b.f λc=>if c=b.f-1-q then busD (buk b VT TT (b.f-1-q))else guT b.f (buk b VT TT) q c)=fA b.f (guT b.f (buk b VT TT) (q+1)):=by
   refine zB5 λc _=>?_;grind [guT]
  rw[hg1,hg2]at hgr;have hvi:((b.f:Int)-1-(q:Int))=((b.f-1-q:Nat):Int):=by omega
  focus
   refine vAu<|zA<|vT ((q:Int)<↑(Ai b))<|vKB<|vAe ?_;refine vA<|vr 5 (True/\0<4/\i6 (↑(Ai b)-1)/\i6 ((↑(Ai b):Int)-(1:Int)-(q:Int)))<|vs 133 (iD ((↑(Ai b):Int)-(1:Int)-(q:Int))) (iD ↑(Ai b-1-q)) (by simp(disch:=omega) only[hvi])<|vnt [blI b,blX,blG b,blE b,blB b,blV<|fA (Ag b)<|gvT (AP b) VT<|Aa<|AP b,blT<|fA (Ag b)<|gtT (Ai b) TT q,blU<|fA (Ai b)<|guT (Ai b) (buk b VT TT) q] ?_;refine zY [] [] [Ae 4 0,iD ↑(Ai b-1-q)] [Ae 4 0,iD ↑(Ai b-1-q)] (A1 _) (by exact hgr) ?_;refine v0s<|veT<|vAe<|vf<|zQ<|zD<|vN<|zB rfl<|vr 2 (i6 (↑q+1))<|vnil<|zC ?_;rotate_left
  refine⟨q+1,h7,by omega,?_⟩;refine vk 8
 have hqf:q=b.f:=by omega
 rw[hqf];have htot:=total_c b (gvT b.P VT b.P.length) (gtT b.f TT b.f) VT TT (fA b.f (guT b.f (buk b VT TT) b.f)) h.n h.L h.A (λa ha=>(h.Av a ha).2.2) (λv hv hf _=>if_pos (by rw[Bf];exact h.mem hf hv)) (λv hv hf _=>if_pos ⟨by omega,hf⟩) h.Rt h.S1 (λc _ j _=>gvT_ref) (λc _ j _=>gtT_ref);have hLn:=h.L;have hlt:(b.L.take b.f).length=b.f:=by rw[Cv,h.L];omega
 have hfl:(b.L.flatMap bgC).take (b.f*3)=(b.L.take b.f).flatMap bgC:=fl_take (c:=3) (λ_=>rfl) b.L b.f;have hU:∀c,c<b.f->(buk b VT TT c).length<=1000000/\∀u∈buk b VT TT c,u.Ok:=λc hc=>by
  have hcn:c<b.n:=by omega
  have hrc:=h.r c hcn;have hVc:=(h.V c hcn).1;obtain⟨q1,q2⟩:=zQp (desc:=b.desc.getD c Ab) (w:=λx=>wtL b.f VT TT x (chV b c)) (Q:=λk=>k.length<=1000/\∀u∈k,Vs u) (b.R.getD c Af).2 λx hx=>by
   grind
  exact⟨A6 q1 (by have:=h.rl c hcn;omega),λu hu=>⟨by have:=(q2 u hu).q.1;omega,(q2 u hu).q.2⟩⟩
 generalize totB b VT TT=tot at*;rcases Cb tot with ht|ht
 ·have hdl0:dg tot=[]:=by subst ht;simp[dg]
  have hz4:repL b.f [.val (.slice AM 0 0)]=fA b.f λ_=> .val (.slice AM 0 0):=zTu _ _;have htk:(fA b.f λ_=> .val (.slice AM 0 0)).take b.f=fA b.f λ_=> .val (.slice AM 0 0):=By (by rw[zEx];exact AY _);have hasm:Pure AH 54 [.row (b.desc.map bD) b.desc.length, .row ((b.L.take b.f).flatMap bgC) b.f, .row (fA b.f λ_=> .val (.slice AM 0 0)) b.f,natD tot] [] (ixD b.desc (b.L.take b.f) (λc=>if tot=0 then[]else buk b VT TT c) tot):=by
   have h0:=zPh b.desc (b.L.take b.f) (λc=>if tot=0 then[]else buk b VT TT c) tot (by rw[h.d];omega) (by omega) (λc hc=>by rw[if_pos ht];exact⟨by simp,λu hu=>by cases hu⟩);rw[hlt]at h0;refine Pure.le (args':=_) h0 (.cons (.refl _) (.cons (.refl _) (.cons ?_ (.cons (.refl _) .nil))));rw[h.d];refine LeD.row (fA_le λc=>?_);rw[if_pos ht];exact LeD.nil_row
  focus
   refine vAu<|zA<|vF ((↑(Ai b):Int)<↑(Ai b))<|vZ2<|vA ?_;refine vnt [blI b,blX,blG b,blE b,blB b,blV<|fA (Ag b)<|gvT (AP b) VT<|Aa<|AP b,blT<|fA (Ag b)<|gtT (Ai b) TT<|Ai b,blU<|fA (Ai b)<|guT (Ai b) (buk b VT TT)<|Ai b] ?_;refine zY [] [] [Ae 4 0] [Ae 4 0] (A1 _) (by exact htot) ?_;refine v0s<|veT<|zA<|vAe<|zGb (t:=(Aa (dg tot):Int)==(0:Int)) (by kernel_rfl) (by simpa using by omega)<|zB rfl<|vr 3 (True/\0<4/\(0:Int)<=(↑(Ai b):Int)/\(↑(Ai b):Int)<=(↑(Ai b):Int)/\(↑(24:Nat):Int)*(↑(Ai b):Int)<=(281474976710656:Int)/\(↑(Ai b):Int)<=(281474976710656:Int)/\0<1/\1=1)<|vb 8 (An (repL (AB (↑(Ai b):Int)) [nl]) 88 1 Ad Ab<|kdOf Ab) (An (fA (Ai b) λ(x:Nat)=>nl) 88 1 Ad Ab<|kdOf Ab) (by simp(disch:=omega) only[AS,hz4])<|vr 2 (True/\Ab=Ab/\Ad=Ad/\1=1/\10<=10)<|vb 4 (An [iD ↑(Ag b),iD ↑(Ai b),Aj (Ao bD<|AW b)<|Aa<|AW b,Aj (nsD<|AP b)<|Aa<|AP b,Aj (Ah atR<|AN b)<|Aa<|AN b,Aj (Ah bgC<|Aq b)<|Aa<|Aq b,Aj (Ah atR<|Ar b)<|Aa<|Ar b,Ay 5 0 (Ag b) (Ag b) Ad,Ay 6 0 (Ag b) (Ag b) Ad,Ay 8 0 (AB (↑(Ai b):Int)) (AB (↑(Ai b):Int)*1) Ad] 120 0 Ab Ab Au) (An [iD ↑(Ag b),iD ↑(Ai b),Aj (Ao bD<|AW b)<|Aa<|AW b,Aj (nsD<|AP b)<|Aa<|AP b,Aj (Ah atR<|AN b)<|Aa<|AN b,Aj (Ah bgC<|Aq b)<|Aa<|Aq b,Aj (Ah atR<|Ar b)<|Aa<|Ar b,Ay 5 0 (Ag b) (Ag b) Ad,Ay 6 0 (Ag b) (Ag b) Ad,Ay 8 0 (Ai b) (Ai b) Ad] 120 0 Ab Ab Au) (by simp(disch:=omega) only[AS,A5]) ?_;refine veT<|zA<|vd [0,2,3,6,8,10,1,4,5,7,9,11,12,13]<|vr 9 (True/\True/\True/\0<3/\0<4/\True/\(0:Int)<=(↑(Ai b):Int)/\True/\0<3/\0<=AB (↑(Ai b):Int)/\AB (↑(Ai b):Int)<=Aa (Aq b)/\AB (↑(Ai b):Int)=AB (↑(Ai b):Int))<|vs 153 (Aj (Aw ((AB (↑(Ai b):Int)-0)*3)<|Ak 0<|Ah bgC<|Aq b) (AB (↑(Ai b):Int)-0)) (Aj (Ah bgC<|Aw (Ai b)<|Aq b)<|Ai b) (by simp(disch:=omega) only[AS,BQ,Bb,hfl])<|vr 1 (0<1)<|vcl [Aj (Ao bD<|AW b)<|Aa<|AW b,Aj (Ah bgC<|Aw (Ai b)<|Aq b)<|Ai b,Aj (Aw (Ai b)<|Ak 0 (fA (Ai b) λ(x:Nat)=>nl))<|Ai b,natD tot] [Aj (Ao bD<|AW b)<|Aa<|AW b,Aj (Ah bgC<|Aw (Ai b)<|Aq b)<|Ai b,Aj (fA (Ai b) λ(x:Nat)=>nl)<|Ai b,natD tot] (LeL.of_eq (by simp(disch:=omega) only[Bb,htk])) (by exact hasm)<|ve (Ab=Ab/\Ad=Ad/\5=5/\5<=5)<|zE<|vret (5<=5)<|.inr rfl
 have hdp:=zX7 ht;have hgu:fA b.f (guT b.f (buk b VT TT) b.f)=fA b.f λc=>busD (buk b VT TT c):=zB5 λc hc=>if_pos ⟨by omega,hc⟩;have htk:(fA b.f λc=>busD (buk b VT TT c)).take b.f=fA b.f λc=>busD (buk b VT TT c):=By (by rw[zEx];exact AY _);rw[hgu]at htot⊢;have hasm:Pure AH 54 [.row (b.desc.map bD) b.desc.length, .row ((b.L.take b.f).flatMap bgC) b.f, .row (fA b.f λc=>busD (buk b VT TT c)) b.f,natD tot] [] (ixD b.desc (b.L.take b.f) (λc=>if tot=0 then[]else buk b VT TT c) tot):=by
  have h0:=zPh b.desc (b.L.take b.f) (buk b VT TT) tot (by rw[h.d];omega) (by omega) (λc hc=>hU c (by rw[<-h.d];exact hc));have e:(λc=>if tot=0 then[]else buk b VT TT c)=buk b VT TT:=funext λc=>if_neg (by omega);rw[e];rw[hlt]at h0;have hd:=h.d;grind
 focus
  refine vAu<|zA<|vF ((↑(Ai b):Int)<↑(Ai b))<|vZ2<|vA ?_;refine vnt [blI b,blX,blG b,blE b,blB b,blV<|fA (Ag b)<|gvT (AP b) VT<|Aa<|AP b,blT<|fA (Ag b)<|gtT (Ai b) TT<|Ai b,blU (fA (Ai b) λ(c:Nat)=>busD (buk b VT TT c))] ?_;refine zY [] [] [Ae 4 0] [Ae 4 0] (A1 _) (by exact htot) ?_;refine v0s<|veT<|zA<|vAe<|vEf ((Aa (dg tot):Int)) ((0:Int))<|vK<|zA<|vd [0,2,3,6,8,10,1,4,5,7,9,11,12,13]<|vr 9 (True/\True/\True/\0<3/\0<4/\True/\(0:Int)<=(↑(Ai b):Int)/\True/\0<3/\0<=AB (↑(Ai b):Int)/\AB (↑(Ai b):Int)<=Aa (Aq b)/\AB (↑(Ai b):Int)=AB (↑(Ai b):Int))<|vs 153 (Aj (Aw ((AB (↑(Ai b):Int)-0)*3)<|Ak 0<|Ah bgC<|Aq b) (AB (↑(Ai b):Int)-0)) (Aj (Ah bgC<|Aw (Ai b)<|Aq b)<|Ai b) (by simp(disch:=omega) only[AS,BQ,Bb,hfl]) ?_;refine vr 1 (0<1)<|vcl [Aj (Ao bD<|AW b)<|Aa<|AW b,Aj (Ah bgC<|Aw (Ai b)<|Aq b)<|Ai b,Aj (Aw (Ai b)<|Ak 0 (fA (Ai b) λ(c:Nat)=>busD (buk b VT TT c)))<|Ai b,natD tot] [Aj (Ao bD<|AW b)<|Aa<|AW b,Aj (Ah bgC<|Aw (Ai b)<|Aq b)<|Ai b,Aj (fA (Ai b) λ(c:Nat)=>busD (buk b VT TT c))<|Ai b,natD tot] (LeL.of_eq (by simp(disch:=omega) only[Bb,htk])) (by exact hasm)<|ve (Ab=Ab/\Ad=Ad/\5=5/\5<=5)<|zE<|vret (5<=5)<|.inr rfl
end
theorem zQd{E:List Nat}(hE:∀e∈E,e<4294967296){v:Nat}(hv:v<32)(w:Nat):(nbE E v).testBit w=E.any λe=>e.testBit v&&(e.testBit w&&decide (w≠v)):=by
 have key:∀(E:List Nat)(m:Nat),(∀e∈E,e<4294967296)->(E.foldl (λm e=>adU e m v) m).testBit w=(m.testBit w||E.any λe=>e.testBit v&&(e.testBit w&&decide (w≠v))):=by
  intro E;induction E with
  |nil=>intro m _;simp
  | cons e E ih=>
   intro m h;rw[B9,ih _ λx hx=>h x (BL _ hx),List.any_cons,<-Bool.or_assoc];congr 1;unfold adU;split
   ·rename_i hb;have e2:andn e v=andm e (2^v):=rfl;rw[Nat.testBit_or,e2,zYk (h e (List.mem_cons_self ..)) (zEa hv),Nat.testBit_two_pow,hb,Bool.true_and];grind
   grind
 have:=key E 0 hE
 rw[Nat.zero_testBit,Bool.false_or]at this;exact this
structure Nbk(n:Nat)(O:List Nat)(i:Nat)(nb:Nat->Nat):Prop where
 b:∀u,nb u<4294967296
 r:∀u w,u<n->i<=O.idxOf u->(nb u).testBit w=Ad->w<n/\i<=O.idxOf w/\w≠u
 s:∀u w,u<n->w<n->i<=O.idxOf u->i<=O.idxOf w->(nb u).testBit w=(nb w).testBit u
structure Ook(n:Nat)(O:List Nat):Prop where
 n32:n<=32
 len:O.length=n
 lt:∀v∈O,v<n
 nd:O.Nodup
theorem Ook.at{n:Nat}{O:List Nat}(h:Ook n O){i:Nat}(hi:i<n):O.getD i 0<n/\O.idxOf (O.getD i 0)=i:=by
 have hl:=h.len;refine⟨h.lt _ (zBv O i (by omega)),?_⟩;rw[A0,AV (by omega),BM];exact h.nd.idxOf_getElem i (by omega)
theorem Ook.ix{n:Nat}{O:List Nat}(h:Ook n O){v:Nat}(hv:v<n):O.idxOf v<n/\O.getD (O.idxOf v) 0=v:=by
 have h1:=zGj h.nd h.len h.lt v hv;have h2:=List.idxOf_lt_length_iff.2 h1;refine⟨by rw[<-h.len];exact h2,?_⟩;grind
theorem Ook.inj{n:Nat}{O:List Nat}(h:Ook n O){u v:Nat}(hu:u<n)(hv:v<n)(e:O.idxOf u=O.idxOf v):u=v:=by
 rw[<-(h.ix hu).2,<-(h.ix hv).2,e]
theorem zJs{n key v u w:Nat}{nb:Nat->Nat}(hn:n<=32)(hu:u<n)(hv:v<n)(hb:nb u<4294967296)(hk:key<4294967296):(nbJ key v n nb u).testBit w=if key.testBit u=Ad then(((nb u).testBit w||key.testBit w)&&(decide (w≠u)&&decide (w≠v)))else(nb u).testBit w:=by
 grind [nbJ,zYk,zR2,zEa]
theorem Nbk.step{n:Nat}{O:List Nat}{i:Nat}{nb:Nat->Nat}(hO:Ook n O)(hi:i<n)(h:Nbk n O i nb):Nbk n O (i+1) (nbJ (nb (O.getD i 0)) (O.getD i 0) n nb):=by
 obtain⟨v1,v2⟩:=hO.at hi;generalize O.getD i 0=v at*;have hne:∀u,u<n->i+1<=O.idxOf u->u≠v:=λu _ h1 e=>by rw[e,v2]at h1;omega
 have hgt:∀w,w<n->i<=O.idxOf w->w≠v->i+1<=O.idxOf w:=λw hw h1 h2=>by
  rcases AX i (O.idxOf w)with h3|h3
  ·exact h3
  exact absurd (hO.inj hw v1 (by omega)) h2
 refine⟨nbJ_32 h.b,λu w hu h1 hb=>?_,λu w hu hw h1 h2=>?_⟩
 ·rw[zJs hO.n32 hu v1 (h.b u) (h.b v)]at hb;split at hb
  ·rename_i hk;simp only[BI,Cj,decide_eq_true_eq]at hb;obtain⟨hb,h3,h4⟩:=hb;rcases hb with hb|hb
   ·obtain⟨q1,q2,q3⟩:=h.r u w hu (by omega) hb;grind
   obtain⟨q1,q2,q3⟩:=h.r v w v1 (by omega) hb;grind
  rename_i hk;obtain⟨q1,q2,q3⟩:=h.r u w hu (by omega) hb;refine⟨q1,hgt w q1 q2 λe=>?_,q3⟩;subst e;rw[h.s u w hu q1 (by omega) q2]at hb;exact hk hb
 rw[zJs hO.n32 hu v1 (h.b u) (h.b v),zJs hO.n32 hw v1 (h.b w) (h.b v),h.s u w hu hw (by omega) (by omega)];grind
theorem Nbk.all{n:Nat}{O:List Nat}{nb:Nat->Nat}(hO:Ook n O)(h:Nbk n O 0 nb):∀i,i<=n->Nbk n O i (nbT n O nb i)
 |0,_=>h
 |i+1,hi=>(Nbk.all hO h i (by omega)).step hO (by omega)
structure Bgk(n:Nat)(O:List Nat)(g:Nat->Bg):Prop where
 v:∀c,(g c).v=c
 k:∀c,(g c).k<4294967296
 r:∀c w,c<n->(g c).k.testBit w=Ad->w<n/\O.idxOf c<O.idxOf w
 p:∀c (v:Nat),c<n->(g c).p=(v:Int)->(g c).k.testBit v=Ad/\∀w,(g c).k.testBit w=Ad->O.idxOf v<=O.idxOf w
 q:∀c,c<n->(g c).p<0->(g c).k=0
 pz:∀c,c<n->(g c).p=-1\/∃v:Nat,(g c).p=(v:Int)/\v<n
theorem zP7{key:Nat}{pl:Nat->Nat}:∀{j:Nat},(parJ key pl j=AM->∀w,w<j->key.testBit w=Ab)/\∀p,parJ key pl j=AI p->∀w,w<j->key.testBit w=Ad->pl p<=pl w
 |0=>⟨λ_ w h=>by omega,λp h=>by cases h⟩
 |j+1=>by
  obtain⟨i1,i2⟩:=zP7 (key:=key) (pl:=pl) (j:=j);rw[parJ];grind
theorem zVx{n:Nat}{O:List Nat}{nb:Nat->Nat}(hO:Ook n O)(h:Nbk n O 0 nb):Bgk n O (bagE n O nb):=by
 have hk:∀c,c<n->∀w,(nbT n O nb (O.idxOf c) c).testBit w=Ad->w<n/\O.idxOf c<O.idxOf w:=λc hc w hw=>by
  have hi:=(hO.ix hc).1;obtain⟨q1,q2,q3⟩:=(h.all hO _ (by omega)).r c w hc (AY _) hw;refine⟨q1,?_⟩;rcases AX (O.idxOf c) (O.idxOf w)with h3|h3
  ·exact h3
  exact absurd (hO.inj q1 hc (by omega)) q3
 refine⟨λc=>rfl,λc=>zH0 h.b _ _,λc w hc hw=>hk c hc w hw,λc v hc hp=>?_,λc hc hp=>?_,λc hc=>?_⟩
 ·unfold bagE at hp⊢;dsimp only at hp⊢;cases e:parJ (nbT n O nb (O.idxOf c) c) (λu=>O.idxOf u) n with
  |none=>rw[e]at hp;simp only[Go.Proofs.YtjcofbkhoeockaaGreatDoor.pz]at hp;omega
  |some p=>
   rw[e]at hp;simp only[Go.Proofs.YtjcofbkhoeockaaGreatDoor.pz]at hp;obtain rfl:p=v:=by omega
   grind [zL0,zP7]
 ·unfold bagE at hp⊢;dsimp only at hp⊢;cases e:parJ (nbT n O nb (O.idxOf c) c) (λu=>O.idxOf u) n with
  |none=>
   apply Nat.eq_of_testBit_eq;grind [nbT,zP7]
  |some p=>rw[e]at hp;simp only[Go.Proofs.YtjcofbkhoeockaaGreatDoor.pz]at hp;omega
 unfold bagE;dsimp only;cases e:parJ (nbT n O nb (O.idxOf c) c) (λu=>O.idxOf u) n with
 |none=>exact .inl rfl
 |some p=>exact .inr ⟨p,rfl,(zL0 e).1⟩
theorem zMc{n:Nat}{O E:List Nat}(hn:n<=32)(hE:∀e∈E,e<2^n):Nbk n O 0 λv=>if v<n then nbE E v else 0:=by
 have hE2:∀e∈E,e<4294967296:=λe he=>BW (hE e he) (BX (n:=2) (by omega) hn);refine⟨λu=>?_,λu w hu _ hb=>?_,λu w hu hw _ _=>?_⟩
 ·grind [nbE,nbE_32]
 ·rw[if_pos hu,zQd hE2 (by omega),BS]at hb;obtain⟨e,he,hb⟩:=hb;simp only[BI,decide_eq_true_eq]at hb;refine⟨?_,Br _,hb.2.2⟩;grind [AX,CA,BW,BX]
 grind [zQd,Bool.and_comm]
end Go.Proofs.YtjcofbkhoeockaaGreatDoor
