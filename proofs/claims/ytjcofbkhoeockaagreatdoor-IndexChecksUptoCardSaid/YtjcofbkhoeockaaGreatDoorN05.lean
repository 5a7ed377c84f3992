/- Texts of this claim, joined: Dwt Did FkiP Dwe Dwa Dre Dix GrP Dgr Dbd Dbe Dbf Dbu Rrl Dbv Dbw Dhg Dhh Del Deb Dbi EcP BaP -/
import Derived.Test.YtjcofbkhoeockaaGreatDoorN04
import Derived.Lib.ItoaLen
set_option linter.unusedVariables false
set_option linter.unusedSimpArgs false
namespace Go.Proofs.YtjcofbkhoeockaaGreatDoor
open _root_.List renaming length->Aa,flatMap->Ah,drop->Ak,map->Ao,take->As,getD->Ax,range->AQ,getElem?_eq_getElem->AS,getD_eq_getElem?_getD->AZ,mem_map->A1,getElem_mem->A2,length_map->A6,take_length->Bc,drop_zero->Bf,map_cons->Bi,take_succ_eq_append_getElem->Bn,mem_cons_of_mem->Bo,all->Bq,headD->Bt,length_append->Bw,length_cons->BA,take_of_length_le->BC,all_eq_true->BD,mem_singleton->BE,mem_cons->BF,mem_filter->BH,mem_cons_self->BI,foldl_cons->BN,getElem_of_mem->BP,replicate->BQ,length_filter_le->BT,length_range->BU,any_eq_true->BY,pairwise_cons->BZ,map_congr_left->B5,map_append->B7,sum_cons->B8,length_nil->B_,findIdx?_eq_some_iff_getElem->Cb,mem_range->Cc,map_set->Ce,ext_getElem?->Cf,set_append_right->Cg,mem_of_mem_take->Ck,cons_append->Cn,not_mem_nil->Co,ext_getElem->Ct,eq_nil_or_concat->Cu,concat_eq_append->Cv,mem_append->Cx,take_append_drop->Cy,length_take->Cz,flatMap_append->CA,range_succ->CB,getElem?_range->CC,pairwise_map->CD,foldr_cons->CF,mem_of_find?_eq_some->CH,getElem?_append_right->CI
open _root_.Bool renaming true->Ab,false->Ad,and_eq_true->BO,or_eq_true->Cm,not_true->Cq,or_eq_false_iff->Cr
open D renaming own->Ae,row->Aj,val->Am,osl->Au,fx->AD,agg->AI,ptr->AM,mref->AT,clo->Bh
open _root_.Inhabited renaming default->Af
open Bd renaming n->Ag,f->Ai,L->Ap,R->Aq,A->AK,P->AP,desc->AX
open Lib renaming itoa->Al,itoa_length_le->BJ,decDigits->BM
open Bk renaming mk->An,cells->AO,fz->A5,kd->Bj,ty->Br,sz->Bs
open IntKind renaming u32->Ar,wrap->AV,i64->Bm,u8->Bz,u64->Cj
open _root_.Prod renaming fst->Aw,snd->AN
open _root_.Int renaming toNat->Ay,toNat_natCast->AU,fdiv->B6
open Kd renaming plain->Az,sh->Ba,isMap->Bx,isSh->By,map->BG
open Value renaming int->AA,string->AJ,pointer->BX,map->Ci
open Va renaming kind->AB,int->AE,str->AH
open _root_.BitVec renaming ofInt->AC,toNat->AR
open _root_.Go.Proofs.Tryz renaming prog->AF,func118->BR,func84->B9
open _root_.Option renaming some->AG,none->AL,getD_some->BS,map_eq_some_iff->Cp
open _root_.Nat renaming lt_or_ge->AW,le_refl->AY,le_trans->A0,mul_one->A7,zero_le->Bl,pow_le_pow_right->Bv,sub_zero->BW,lt_of_lt_of_le->B3,eq_zero_or_pos->Cd,zero_add->Ch,mul_comm->Cl,testBit_lt_two_pow->CE,mul_le_mul_right->CG
open LeL renaming refl->A3
open _root_.ByteArray renaming mk->A4,data->BL
open TypeInfo renaming desc->A8,mk->A9
open TypeDesc renaming string->A_
open Bg renaming p->Bb
open LeD renaming fx->Bp,refl->BB
open _root_.Array renaming toList->BK
open Weak renaming fzCell->BV
open Go.RowKit
section
attribute [local irreducible] seqW awp zAf zAn zAd Weak updS zAv retL Pure Acts rP setP setQ cP nP fr
set_option maxRecDepth 4096
inductive WT where
  |nil
  |node(v:Va)(w:Nat)(l r:WT)
namespace WT
def ht:WT->Nat
  |nil=>0
  |node _ _ l r=>max l.ht r.ht+1
def sz:WT->Nat
  |nil=>0
  |node _ _ l r=>l.sz+1+r.sz
def tot:WT->Nat
  |nil=>0
  |node _ w l r=>l.tot+w+r.tot
def lst:WT->List (Va×Nat)
  |nil=>[]
  |node v w l r=>l.lst++(v,w)::r.lst
def d:WT->D
  |nil=> .val (.pointer AL)
  |node v w l r=> .ptr (vaC v++[natD w, .fx l.d, .fx r.d,iD (max l.ht r.ht+1:Nat),iD (l.sz+1+r.sz:Nat),natD (l.tot+w+r.tot)])
def bal(l:WT)(v:Va)(w:Nat)(r:WT):WT:=
  if r.ht+1<l.ht then match l with
    | node lv lw ll lr=>if lr.ht<=ll.ht then node lv lw ll (node v w lr r)else match lr with
      |node mv mw ml mr=>node mv mw (node lv lw ll ml) (node v w mr r)
      |nil=>nil
    |nil=>nil
  else if l.ht+1<r.ht then match r with
    | node rv rw rl rr=>if rl.ht<=rr.ht then node rv rw (node v w l rl) rr else match rl with
      |node mv mw ml mr=>node mv mw (node v w l ml) (node rv rw mr rr)
      |nil=>nil
    |nil=>nil
  else node v w l r
def cmp(desc:Bool)(a b:Va):Int:=if desc then vcmp b a else vcmp a b
def put(desc:Bool)(v:Va)(w:Nat):WT->WT
  |nil=>node v w nil nil
  |node u x l r=>if cmp desc v u<0 then bal (put desc v w l) u x r else if cmp desc v u>0 then bal l u x (put desc v w r)else node v w l r
theorem zJh:∀t:WT,t.lst.length=t.sz
  |nil=>rfl
  |node v w l r=>by simp only[lst,sz,Bw,BA,zJh l,zJh r];omega
theorem ht_le_sz:∀t:WT,t.ht<=t.sz
  |nil=>AY _
  |node v w l r=>by have:=ht_le_sz l;have:=ht_le_sz r;simp only[ht,sz];omega
theorem ht_pos{t:WT}(h:0<t.ht):∃v w l r,t=node v w l r:=by
  cases t<;>grind [ht]
theorem bal_lst(l:WT)(v:Va)(w:Nat)(r:WT):(bal l v w r).lst=l.lst++(v,w)::r.lst:=by
  unfold bal;split
  · rename_i h
    obtain⟨lv,lw,ll,lr,rfl⟩:=ht_pos (t:=l) (by omega);simp only;grind [lst,ht_pos]
  · split
    · rename_i h
      obtain⟨rv,rw',rl,rr,rfl⟩:=ht_pos (t:=r) (by omega);simp only;grind [lst,ht_pos]
    rfl
theorem zK5:∀t:WT,(t.lst.map AN).sum=t.tot
  |nil=>rfl
  |node v w l r=>by simp only[lst,tot,B7,Bi,List.sum_append,B8,zK5 l,zK5 r];omega
theorem bal_sz(l:WT)(v:Va)(w:Nat)(r:WT):(bal l v w r).sz=l.sz+1+r.sz:=by
  grind [zJh,bal_lst,Bw,BA]
theorem bal_tot(l:WT)(v:Va)(w:Nat)(r:WT):(bal l v w r).tot=l.tot+w+r.tot:=by
  rw[<-zK5,bal_lst,B7,Bi,List.sum_append,B8,zK5,zK5];simp only;omega
theorem put_le(desc:Bool)(v:Va)(w:Nat):∀t:WT,(put desc v w t).sz<=t.sz+1/\(put desc v w t).tot<=t.tot+w
  |nil=>by simp[put,sz,tot]
  | node u x l r=>by
    have h1:=put_le desc v w l;have h2:=put_le desc v w r;simp only[put];split
    ·rw[bal_sz,bal_tot];simp only[sz,tot];omega
    · split
      ·rw[bal_sz,bal_tot];simp only[sz,tot];omega
      simp only[sz,tot];omega
def Ok(t:WT):Prop:=t.sz<=1000000000/\Sm t.tot
theorem Ok.node{v:Va}{w:Nat}{l r:WT}(h:(node v w l r).Ok):l.Ok/\r.Ok/\Sm w:=by
  obtain⟨h1,h2⟩:=h;simp only[sz,tot]at h1 h2;exact⟨⟨by omega,h2.le (by omega)⟩,⟨by omega,h2.le (by omega)⟩,h2.le (by omega)⟩
end WT
abbrev zMw(v:Va)(w:Nat)(l r:WT):D:= .ptr (vaC v++[natD w, .fx l.d, .fx r.d,iD (max l.ht r.ht+1:Nat),iD (l.sz+1+r.sz:Nat),natD (l.tot+w+r.tot)])
theorem LeL.relC{I:Im}{w:World}:∀{cs cs':List D}{b o:Nat},LeL cs cs'->RelC I w cs b o->RelC I w cs' b o
  |_,_,_,_, .nil,h=>h
  | _,_,b,o, .cons h1 h2,h=>by
    simp only[RelC]at h⊢;obtain⟨⟨k1,v,k2,k3,k4⟩,k5⟩:=h;exact⟨⟨k1,v,k2,k3,h1 _ _ _ _ k4⟩,h2.relC k5⟩
theorem LeD.ptr{cs cs':List D}(h:LeL cs cs'):LeD (.ptr cs) (.ptr cs'):=λI w β v hr=>by
  simp only[Rel]at hr⊢;obtain⟨b,o,h1,h2⟩:=hr;exact⟨b,o,h1,h.relC h2⟩
theorem LeD.row{cs cs':List D}{n:Nat}(h:LeL cs cs'):LeD (.row cs n) (.row cs' n):=λI w β v hr=>by
  cases h with
  |nil=>exact hr
  | cons h1 h2=>
    simp only[Rel]at hr⊢;obtain⟨a,cap,h3,h4,h5,h6,h7⟩:=hr;refine⟨a,cap,h3,h4,h5,h6,?_⟩;rcases h7 with h7|⟨b,o,h7,h8⟩
    ·cases h7
    exact .inr ⟨b,o,h7,(LeL.cons h1 h2).relC h8⟩
theorem WT.d_node(v:Va)(w:Nat)(l r:WT):(WT.node v w l r).d=zMw v w l r:=rfl
theorem WT.one(t:WT)(I:Im)(w:World)(v:Value)(h:Rel I w noB t.d v):v.oneCell'=true:=by
  cases t with
  |nil=>simp only[WT.d,Rel]at h;subst h;rfl
  |node a b l r=>simp only[WT.d,Rel]at h;obtain⟨b,o,rfl,_⟩:=h;rfl
abbrev WT.x(t:WT):D:= .fx t.d
theorem whtd_c (t : WT):Pure AF 116 [t.d] [] (iD (t.ht:Nat)):=by
  refine zF zBj mixed Tryz.func116 rfl ?_;cases t with
  |nil=>focus
             refine vAu<|zA<|vAe<|vt<|vAe<|zE<|zG ?_;refine vret (True)<|.inr rfl
  |node v w l r=>focus
                      refine vAu<|zA<|vAe<|vf<|vK<|vA ?_;refine ve (True/\0<3)<|zE<|vret (True)<|.inr rfl
theorem zHb(t:WT):Pure AF 116 [t.x] [] (iD (t.ht:Nat)):=(whtd_c t).le (.cons (Bp _) .nil)
theorem wszd_c (t : WT):Pure AF 68 [t.d] [] (iD (t.sz:Nat)):=by
  refine zF zBj mixed Tryz.func68 rfl ?_;cases t with
  |nil=>focus
             refine vAu<|zA<|vAe<|vt<|vAe<|zE<|zG ?_;refine vret (True)<|.inr rfl
  |node v w l r=>focus
                      refine vAu<|zA<|vAe<|vf<|vK<|vA ?_;refine ve (True/\0<2)<|zE<|vret (True)<|.inr rfl
theorem wsz_c(t:WT):Pure AF 68 [t.x] [] (iD (t.sz:Nat)):=(wszd_c t).le (.cons (Bp _) .nil)
theorem wtotd_c(t:WT):Pure AF 121 [t.d] [] (natD t.tot):=by
  refine zF zBj mixed Tryz.func121 rfl ?_;cases t with
  | nil=>
    focus
      refine vAu<|zA<|vAe<|vt<|vAe<|zE<|zG ?_;refine vret (True)<|.inr rfl
  |node v w l r=>focus
                      refine vAu<|zA<|vAe<|vf<|vK<|vA ?_;refine ve (True/\0<1)<|zE<|vret (True)<|.inr rfl
theorem zY5(t:WT):Pure AF 121 [t.x] [] (natD t.tot):=(wtotd_c t).le (.cons (Bp _) .nil)
theorem zQf(v:Va)(w:Nat)(l r:WT):Pure AF 116 [zMw v w l r] [] (iD ((WT.node v w l r).ht:Nat)):=whtd_c (.node v w l r)
abbrev entD(v:Va)(w:Nat):D:= .agg (vaC v++[natD w])
theorem zCy(l r:WT)(v:Va)(w:Nat)(h:(WT.node v w l r).Ok):Pure AF 115 [l.x,entD v w,r.x] [] (WT.node v w l r).x:=by
  refine Pure.fx ?_ (WT.one _);refine zF zBj mixed Tryz.func115 rfl ?_;have h1:=l.ht_le_sz;have h2:=r.ht_le_sz;have h3:=h.1;have h4:=h.2;simp only[WT.sz,WT.tot]at h3 h4;have h5:Sm [l.tot,w,r.tot].sum:=by simp only[B8,List.sum_nil];exact h4.le (by omega)
  focus
    refine vAu<|zA<|vd [1,2,3,5,9,12,15,17,19,0,4,6,7,8,10,11,13,14,16,18,20,21,22,23,24,25]<|vr 10 (True/\4<=4)<|vca [AD<|WT.d l] (by exact zHb _)<|vca [AD<|WT.d r] (by exact zHb _)<|vr 2 (i6 ((if(↑(WT.ht r):Int)>(↑(WT.ht l):Int)then(↑(WT.ht r):Int)else(↑(WT.ht l):Int))+(1:Int)))<|vca [AD<|WT.d l] (by exact wsz_c _)<|vr 1 (i6 (↑(WT.sz l)+1))<|vca [AD<|WT.d r] (by exact wsz_c _)<|vr 1 (i6 ((↑(WT.sz l):Int)+(1:Int)+(↑(WT.sz r):Int))) ?_;refine vca [AD<|WT.d l] (by exact zY5 _)<|vr 1 (0<1)<|vca [AD<|WT.d r] (by exact zY5 _)<|vr 1 ((1=1/\1<=3/\1=1/\2<=3/\1=1/\3<=3/\True)/\0<1/\1=1/\3<=16777216/\3<=9223372036854775807)<|vc (nsum_c [l.tot,w,r.tot] 3 rfl (by omega) h5)<|ve ((4=4/\4<=9/\1=1/\5<=9/\1=1/\6<=9/\1=1/\7<=9/\1=1/\8<=9/\1=1/\9<=9/\True)/\Ab=Ab)<|zE ?_;refine vre (True) (AM [Am<|AA Bm<|AB v,Am<|AA Bm<|AE v,Am<|AJ<|bs<|AH v,natD w,AD<|WT.d l,AD<|WT.d r,Am<|AA Bm ((if(↑(WT.ht r):Int)>(↑(WT.ht l):Int)then(↑(WT.ht r):Int)else(↑(WT.ht l):Int))+(1:Int)),Am<|AA Bm ((↑(WT.sz l):Int)+(1:Int)+(↑(WT.sz r):Int)),natD<|List.sum [WT.tot l,w,WT.tot r]]) (.inr rfl) ?_;rotate_left
  have e1:((if(r.ht:Int)>(l.ht:Int)then(r.ht:Int)else(l.ht:Int))+1)=((max l.ht r.ht+1:Nat):Int):=by
    omega
  have e2:(l.sz:Int)+1+(r.sz:Int)=((l.sz+1+r.sz:Nat):Int):=by omega
  have e3:[l.tot,w,r.tot].sum=l.tot+w+r.tot:=by simp only[B8,List.sum_nil];omega
  rw[e1,e2,e3];rfl
theorem wnil_x(v:Va)(w:Nat):LeL [.val (.pointer AL),entD v w, .val (.pointer AL)] [WT.nil.x,entD v w,WT.nil.x]:=by
  have h:LeD (.val (.pointer AL)) WT.nil.x:=λI w β v h=>by
    simp only[Rel]at h;subst h;simp only[Rel,WT.d];exact⟨rfl,trivial⟩
  exact .cons h (.cons (BB _) (.cons h .nil))
theorem zM0(desc:Bool)(t:WT)(a b:Va):Pure AF 62 [.agg [bD desc,t.x],vaD a,vaD b] [] (iD (WT.cmp desc a b)):=by
  refine zF zBj mixed Tryz.func62 rfl ?_;cases desc
  ·focus
      refine vAu<|zA<|vA<|ve (True/\0<2)<|vf<|vK<|vA ?_;refine vr 2 (3<=3/\3<=3)<|vca [AI [iD<|AB a,iD<|AE a,Am<|AJ<|bs<|AH a],AI [iD<|AB b,iD<|AE b,Am<|AJ<|bs<|AH b]] (by exact zDq _ _)<|veT<|zE<|vret (True)<|.inr rfl
  focus
     refine vAu<|zA<|vA<|ve (True/\0<2)<|vt<|vA<|vr 2 (3<=3/\3<=3)<|vca [AI [iD<|AB b,iD<|AE b,Am<|AJ<|bs<|AH b],AI [iD<|AB a,iD<|AE a,Am<|AJ<|bs<|AH a]] (by exact zDq _ _)<|veT ?_;refine zE<|zG<|vret (True)<|.inr rfl
set_option maxHeartbeats 2000000 in
theorem wbal_c(l r:WT)(v:Va)(w:Nat)(h:(WT.node v w l r).Ok):Pure AF 118 [l.x,entD v w,r.x] [] (WT.bal l v w r).x:=by
  have k1:=l.ht_le_sz;have k2:=r.ht_le_sz;have k3:=h.1;have k4:=h.2;simp only[WT.sz,WT.tot]at k3 k4;by_cases c1:r.ht+1<l.ht
  · obtain⟨lv,lw,ll,lr,rfl⟩:=WT.ht_pos (t:=l) (by omega)
    simp only[WT.sz,WT.tot]at k3 k4;have e1:(WT.node lv lw ll lr).ht=max ll.ht lr.ht+1:=rfl;have g1:=ll.ht_le_sz;have g2:=lr.ht_le_sz;rw[WT.bal.eq_def,if_pos c1];simp only;refine Pure.le (args':=[zMw lv lw ll lr,entD v w,r.x]) ?_ (.cons (Bp _) (.refl _));by_cases c2:lr.ht<=ll.ht
    · rw[if_pos c2]
      have j1:=zCy lr r v w ⟨by simp only[WT.sz];omega,k4.le (by simp only[WT.tot];omega)⟩;have j2:=zCy ll (.node v w lr r) lv lw ⟨by simp only[WT.sz];omega,k4.le (by simp only[WT.tot];omega)⟩;refine zF zBj mixed BR rfl ?_;focus
        refine vAu<|zA<|vA<|vrT 1<|vc (zQf lv lw ll lr)<|vrT 1<|vca [AD<|WT.d r] (by exact zHb _)<|veT<|zH<|zA ?_;refine vd [0,1,2,3,4,5,6,7,10,11,12,8,9,13,14,15,16,17]<|vw 12 [] [(4,Ab)] (i6 (↑(WT.ht r)+1)/\decide ((↑(WT.ht<|WT.node lv lw ll lr):Int)>(↑(WT.ht r):Int)+(1:Int))=Ab/\True/\True/\0<5)<|vca [AD<|WT.d ll] (by exact zHb _)<|vr 1 (0<4)<|vca [AD<|WT.d lr] (by exact zHb _)<|veT<|vT ((↑(WT.ht ll):Int)>=(↑(WT.ht lr):Int))<|zA<|vd [0,1,2,4,5,6,8,9,10,13,3,7,11,12,14,15,16]<|vr 14 (True/\True/\True/\0<5/\4<=9/\0<4/\4<=4)<|vc j1<|vc j2<|veT<|zE ?_;refine zL<|zG<|vret (True)<|.inr rfl
    · rw [if_neg c2]
      obtain⟨mv,mw,ml,mr,rfl⟩:=WT.ht_pos (t:=lr) (by omega);simp only[WT.sz,WT.tot]at k3 k4;have e2:(WT.node mv mw ml mr).ht=max ml.ht mr.ht+1:=rfl;have j1:=zCy ll ml lv lw ⟨by simp only[WT.sz];omega,k4.le (by simp only[WT.tot];omega)⟩;have j2:=zCy mr r v w ⟨by simp only[WT.sz];omega,k4.le (by simp only[WT.tot];omega)⟩;have j3:=zCy (.node lv lw ll ml) (.node v w mr r) mv mw ⟨by simp only[WT.sz];omega,k4.le (by simp only[WT.tot];omega)⟩;simp only[WT.sz]at k1;have o1:=zQf lv lw ll (.node mv mw ml mr);refine Pure.le (args':=[.ptr (vaC lv++[natD lw, .fx ll.d,zMw mv mw ml mr,iD (max ll.ht (WT.node mv mw ml mr).ht+1:Nat),iD (ll.sz+1+(WT.node mv mw ml mr).sz:Nat),natD (ll.tot+lw+(WT.node mv mw ml mr).tot)]),entD v w,r.x]) ?_ (.cons (LeD.ptr (.cons (.refl _) (.cons (.refl _) (.cons (.refl _) (.cons (.refl _) (.cons (.refl _) (.cons (Bp _) (.refl _)))))))) (.refl _));have o2:Pure AF 116 [.ptr (vaC lv++[natD lw, .fx ll.d,zMw mv mw ml mr,iD (max ll.ht (WT.node mv mw ml mr).ht+1:Nat),iD (ll.sz+1+(WT.node mv mw ml mr).sz:Nat),natD (ll.tot+lw+(WT.node mv mw ml mr).tot)])] [] (iD ((WT.node lv lw ll (.node mv mw ml mr)).ht:Nat)):=by
        refine zF zBj mixed Tryz.func116 rfl ?_;focus
          refine vAu<|zA<|vAe<|vf<|vK<|vA ?_;refine ve (True/\0<3)<|zE<|vret (True)<|.inr rfl
      refine zF zBj mixed BR rfl ?_;focus
        refine vAu<|zA<|vA<|vrT 1<|vc o2<|vrT 1<|vca [AD<|WT.d r] (by exact zHb _)<|veT<|zH<|zA ?_;refine vd [0,1,2,3,4,5,6,7,10,11,12,8,9,13,14,15,16,17]<|vw 12 [] [(4,Ab)] (i6 (↑(WT.ht r)+1)/\decide ((↑(WT.ht<|WT.node lv lw ll<|WT.node mv mw ml mr):Int)>(↑(WT.ht r):Int)+(1:Int))=Ab/\True/\True/\0<5)<|vca [AD<|WT.d ll] (by exact zHb _)<|vr 1 (0<4)<|vc (zQf mv mw ml mr)<|veT<|vF ((↑(WT.ht ll):Int)>=(↑(WT.ht<|WT.node mv mw ml mr):Int))<|vA<|ve (i6 (↑(WT.ht r)+1))<|vT ((↑(WT.ht<|WT.node lv lw ll<|WT.node mv mw ml mr):Int)>(↑(WT.ht r):Int)+(1:Int))<|vA<|ve (True/\0<4) ?_;refine zA<|vd [0,1,2,4,5,6,8,9,10,13,14,15,17,18,19,22,3,7,11,12,16,20,21,23,24,25]<|vr 19 (True/\True/\True/\True/\True/\0<5/\4<=9/\0<5)<|vc j1<|vr 3 (4<=9/\0<4/\4<=4)<|vc j2<|vc j3<|veT<|zE<|zL<|zG<|vret (True)<|.inr rfl
  · by_cases c3:l.ht+1<r.ht
    · obtain⟨rv,rw',rl,rr,rfl⟩:=WT.ht_pos (t:=r) (by omega)
      simp only[WT.sz,WT.tot]at k3 k4;have e1:(WT.node rv rw' rl rr).ht=max rl.ht rr.ht+1:=rfl;have g1:=rl.ht_le_sz;have g2:=rr.ht_le_sz;rw[WT.bal.eq_def,if_neg c1,if_pos c3];simp only;refine Pure.le (args':=[l.x,entD v w,zMw rv rw' rl rr]) ?_ (.cons (BB _) (.cons (BB _) (.cons (Bp _) .nil)));by_cases c2:rl.ht<=rr.ht
      · rw[if_pos c2]
        have j1:=zCy l rl v w ⟨by simp only[WT.sz];omega,k4.le (by simp only[WT.tot];omega)⟩;have j2:=zCy (.node v w l rl) rr rv rw' ⟨by simp only[WT.sz];omega,k4.le (by simp only[WT.tot];omega)⟩;refine zF zBj mixed BR rfl ?_;focus
          refine vAu<|zA<|vA<|vrT 1<|vca [AD<|WT.d l] (by exact zHb _)<|vrT 1<|vc (zQf rv rw' rl rr)<|veT<|zH<|zA ?_;refine vd [0,1,2,3,4,5,6,7,10,11,12,8,9,13,14,15,16,17]<|vew [] [(4,Ad)] (i6 ((↑(WT.ht<|WT.node rv rw' rl rr):Int)+(1:Int))/\decide ((↑(WT.ht l):Int)>(↑(WT.ht<|WT.node rv rw' rl rr):Int)+(1:Int))=Ad)<|vf<|vA<|ve (i6 ((↑(WT.ht<|WT.node rv rw' rl rr):Int)+(1:Int)))<|vF ((↑(WT.ht l):Int)>(↑(WT.ht<|WT.node rv rw' rl rr):Int)+(1:Int))<|zA<|vd [0,1,2,3,4,5,6,7,10,11,12,8,9,13,14,15,16,17]<|vw 12 [] [(4,Ab)] (i6 (↑(WT.ht l)+1)/\decide ((↑(WT.ht<|WT.node rv rw' rl rr):Int)>(↑(WT.ht l):Int)+(1:Int))=Ab/\True/\True/\0<4)<|vca [AD<|WT.d rr] (by exact zHb _)<|vr 1 (0<5)<|vca [AD<|WT.d rl] (by exact zHb _)<|veT ?_;refine vT ((↑(WT.ht rr):Int)>=(↑(WT.ht rl):Int))<|zA<|vd [0,2,3,4,7,8,9,11,12,13,1,5,6,10,14,15,16]<|vr 12 (True/\True/\True/\4<=4/\0<5)<|vc j1<|vr 2 (4<=9/\0<4)<|vc j2<|veT<|zE<|zL<|zG<|vret (True)<|.inr rfl
      · rw [if_neg c2]
        obtain⟨mv,mw,ml,mr,rfl⟩:=WT.ht_pos (t:=rl) (by omega);simp only[WT.sz,WT.tot]at k3 k4;have e2:(WT.node mv mw ml mr).ht=max ml.ht mr.ht+1:=rfl;have j1:=zCy l ml v w ⟨by simp only[WT.sz];omega,k4.le (by simp only[WT.tot];omega)⟩;have j2:=zCy mr rr rv rw' ⟨by simp only[WT.sz];omega,k4.le (by simp only[WT.tot];omega)⟩;have j3:=zCy (.node v w l ml) (.node rv rw' mr rr) mv mw ⟨by simp only[WT.sz];omega,k4.le (by simp only[WT.tot];omega)⟩;simp only[WT.sz]at k2;refine Pure.le (args':=[l.x,entD v w, .ptr (vaC rv++[natD rw',zMw mv mw ml mr, .fx rr.d,iD (max (WT.node mv mw ml mr).ht rr.ht+1:Nat),iD ((WT.node mv mw ml mr).sz+1+rr.sz:Nat),natD ((WT.node mv mw ml mr).tot+rw'+rr.tot)])]) ?_ (.cons (.refl _) (.cons (.refl _) (.cons (LeD.ptr (.cons (.refl _) (.cons (.refl _) (.cons (.refl _) (.cons (.refl _) (.cons (Bp _) (.refl _))))))) .nil)));have o2:Pure AF 116 [.ptr (vaC rv++[natD rw',zMw mv mw ml mr, .fx rr.d,iD (max (WT.node mv mw ml mr).ht rr.ht+1:Nat),iD ((WT.node mv mw ml mr).sz+1+rr.sz:Nat),natD ((WT.node mv mw ml mr).tot+rw'+rr.tot)])] [] (iD ((WT.node rv rw' (.node mv mw ml mr) rr).ht:Nat)):=by
          refine zF zBj mixed Tryz.func116 rfl ?_;focus
            refine vAu<|zA<|vAe<|vf<|vK<|vA ?_;refine ve (True/\0<3)<|zE<|vret (True)<|.inr rfl
        refine zF zBj mixed BR rfl ?_;focus
          refine vAu<|zA<|vA<|vrT 1<|vca [AD<|WT.d l] (by exact zHb _)<|vrT 1<|vc o2<|veT<|zH<|zA ?_;refine vd [0,1,2,3,4,5,6,7,10,11,12,8,9,13,14,15,16,17]<|vew [] [(4,Ad)] (i6 ((↑(WT.ht<|WT.node rv rw' (WT.node mv mw ml mr) rr):Int)+(1:Int))/\decide ((↑(WT.ht l):Int)>(↑(WT.ht<|WT.node rv rw' (WT.node mv mw ml mr) rr):Int)+(1:Int))=Ad)<|vf<|vA<|ve (i6 ((↑(WT.ht<|WT.node rv rw' (WT.node mv mw ml mr) rr):Int)+(1:Int)))<|vF ((↑(WT.ht l):Int)>(↑(WT.ht<|WT.node rv rw' (WT.node mv mw ml mr) rr):Int)+(1:Int))<|zA<|vd [0,1,2,3,4,5,6,7,10,11,12,8,9,13,14,15,16,17]<|vw 12 [] [(4,Ab)] (i6 (↑(WT.ht l)+1)/\decide ((↑(WT.ht<|WT.node rv rw' (WT.node mv mw ml mr) rr):Int)>(↑(WT.ht l):Int)+(1:Int))=Ab/\True/\True/\0<4)<|vca [AD<|WT.d rr] (by exact zHb _)<|vr 1 (0<5)<|vc (zQf mv mw ml mr)<|veT ?_;refine vF ((↑(WT.ht rr):Int)>=(↑(WT.ht<|WT.node mv mw ml mr):Int))<|vA<|ve (i6 (↑(WT.ht l)+1))<|vT ((↑(WT.ht<|WT.node rv rw' (WT.node mv mw ml mr) rr):Int)>(↑(WT.ht l):Int)+(1:Int))<|vA<|ve (True/\0<5)<|zA<|vd [0,2,3,4,7,8,9,11,12,13,15,16,17,19,20,21,1,5,6,10,14,18,22,23,24,25]<|vr 18 (True/\True/\True/\True/\True/\4<=4/\0<5)<|vc j1<|vr 4 (4<=9/\0<4/\4<=9/\0<4)<|vc j2 ?_;refine vc j3<|veT<|zE<|zL<|zG<|vret (True)<|.inr rfl
    · rw[WT.bal.eq_def,if_neg c1,if_neg c3]
      have j1:=zCy l r v w h;refine zF zBj mixed BR rfl ?_;focus
        refine vAu<|zA<|vA<|vrT 1<|vca [AD<|WT.d l] (by exact zHb _)<|vrT 1<|vca [AD<|WT.d r] (by exact zHb _)<|veT<|zH<|zA ?_;refine vd [0,1,2,3,4,5,6,7,10,11,12,8,9,13,14,15,16,17]<|vew [] [(4,Ad)] (i6 (↑(WT.ht r)+1)/\decide ((↑(WT.ht l):Int)>(↑(WT.ht r):Int)+(1:Int))=Ad)<|vf<|vA<|ve (i6 (↑(WT.ht r)+1))<|vF ((↑(WT.ht l):Int)>(↑(WT.ht r):Int)+(1:Int))<|zA<|vd [0,1,2,3,4,5,6,7,10,11,12,8,9,13,14,15,16,17]<|vew [] [(4,Ad)] (i6 (↑(WT.ht l)+1)/\decide ((↑(WT.ht r):Int)>(↑(WT.ht l):Int)+(1:Int))=Ad)<|vf<|vA<|ve (i6 (↑(WT.ht l)+1)) ?_;refine vF ((↑(WT.ht r):Int)>(↑(WT.ht l):Int)+(1:Int))<|zQ<|zD<|vN<|vA<|vr 3 (4<=4)<|vc j1<|veT<|zE<|vret (True)<|.inr rfl
theorem zY6(desc:Bool)(root:WT)(v:Va)(w:Nat):∀(t:WT),t.sz+1<=1000000000->Sm (t.tot+w)->Pure AF 84 [.agg [bD desc,root.x],t.x,entD v w] [] (t.put desc v w).x
  | .nil,h1,h2=>by
    have j1:=(zCy .nil .nil v w ⟨by simp[WT.sz],h2.le (by simp[WT.tot])⟩).le (wnil_x v w);refine Pure.le (args':=[.agg [bD desc,root.x], .val (.pointer AL),entD v w]) ?_ (.cons (BB _) (.cons (Bp _) (.refl _)));rw[WT.put];refine zF zBj mixed B9 rfl ?_;focus
      refine vAu<|zA<|vAe<|vt<|vA<|vr 1 (4<=4)<|vc j1<|veT ?_;refine zE<|zG<|vret (True)<|.inr rfl
    all_goals skip
  | .node u x l r,h1,h2=>by
    simp only[WT.sz,WT.tot]at h1 h2;have i1:=zY6 desc root v w l (by omega) (h2.le (by omega));have i2:=zY6 desc root v w r (by omega) (h2.le (by omega));have c:=zM0 desc root v u;have p1:=WT.put_le desc v w l;have p2:=WT.put_le desc v w r;have b1:=wbal_c (l.put desc v w) r u x ⟨by simp only[WT.sz];omega,h2.le (by simp only[WT.tot];omega)⟩;have b2:=wbal_c l (r.put desc v w) u x ⟨by simp only[WT.sz];omega,h2.le (by simp only[WT.tot];omega)⟩;have b3:=zCy l r v w ⟨by simp only[WT.sz];omega,h2.le (by simp only[WT.tot];omega)⟩;refine Pure.le (args':=[.agg [bD desc,root.x],zMw u x l r,entD v w]) ?_ (.cons (BB _) (.cons (Bp _) (.refl _)));rw[WT.put];by_cases c1:WT.cmp desc v u<0
    · rw[if_pos c1]
      refine zF zBj mixed B9 rfl ?_;focus
        refine vAu<|zA<|vAe<|vf<|vK<|zA<|zA ?_;refine vd [1,3,4,5,6,0,2,7,8,9]<|vr 8 (True/\True/\True/\2<=2/\3<=4/\3<=9)<|vc c<|veT<|zH<|vAe<|vT (WT.cmp desc v u<0)<|zA<|vd [1,2,3,7,8,9,11,12,13,0,4,5,6,10,14,15,16]<|vr 12 (True/\True/\True/\2<=2/\0<5/\4<=4)<|vc i1<|vr 2 (4<=9/\0<4) ?_;refine vc b1<|veT<|zE<|zL<|zG<|vret (True)<|.inr rfl
    · rw [if_neg c1]
      by_cases c2:WT.cmp desc v u>0
      · rw[if_pos c2]
        refine zF zBj mixed B9 rfl ?_;focus
          refine vAu<|zA<|vAe<|vf<|vK<|zA<|zA ?_;refine vd [1,3,4,5,6,0,2,7,8,9]<|vr 8 (True/\True/\True/\2<=2/\3<=4/\3<=9)<|vc c<|veT<|zH<|vAe<|vF (WT.cmp desc v u<0)<|vAe<|vT (WT.cmp desc v u>(0:Int))<|zA ?_;refine vd [0,1,2,4,5,6,9,10,11,3,7,8,12,13,14,15,16]<|vr 14 (True/\True/\True/\0<5/\4<=9/\2<=2/\0<4/\4<=4)<|vc i2<|vc b2<|veT<|zE<|zL<|zG<|vret (True)<|.inr rfl
      · rw[if_neg c2]
        refine zF zBj mixed B9 rfl ?_;focus
          refine vAu<|zA<|vAe<|vf<|vK<|zA<|zA ?_;refine vd [1,3,4,5,6,0,2,7,8,9]<|vr 8 (True/\True/\True/\2<=2/\3<=4/\3<=9)<|vc c<|veT<|zH<|vAe<|vF (WT.cmp desc v u<0)<|vAe<|vF (WT.cmp desc v u>(0:Int))<|zQ ?_;refine zD<|vN<|zA<|vd [0,1,2,5,6,7,3,4,8,9,10]<|vr 9 (True/\True/\0<5/\4<=4/\0<4)<|vc b3<|veT<|zE<|vret (True)<|.inr rfl
def idV(v:Va):List UInt8:=Al v.kind++[44]++Al v.int++[44]++Al (v.str.length:Nat)++[44]++v.str
def idR(r:List Va):List UInt8:=r.flatMap idV
def Vs(v:Va):Prop:=(-9223372036854775808<=v.kind/\v.kind<=9223372036854775807)/\(-9223372036854775808<=v.int/\v.int<=9223372036854775807)/\v.str.length<=10000
theorem idV_len(v:Va)(h:Vs v):(idV v).length<=10100:=by
 have h1:=BJ v.kind h.1.1 h.1.2;have h2:=BJ v.int h.2.1.1 h.2.1.2;have h3:=BJ (v.str.length:Nat) (by omega) (by have:=h.2.2;omega);have h4:=h.2.2;grind [only,idV,Bw,BA,B_]
theorem zW7(r:List Va)(i:Nat)(h:i<r.length):idR (r.take (i+1))=idR (r.take i)++idV (r.getD i Af):=by
 grind [Bn,idR,AS]
theorem idR_len(r:List Va)(h:∀v∈r,Vs v)(i:Nat)(hi:i<=r.length):(idR (r.take i)).length<=10100*i:=by
 induction i<;>grind [idR,zW7,Bw,idV_len,AS,A2]
def isConv:Op->Bool
 | .convert s d _=>s==180&&d==9
 |_=>Ad
def Tid:Par:=⟨λf=>f==102,λ_ _=>AL,λ_=>Ad,isConv,λ_=>Ad⟩
theorem Tid_ok:zA9 AF Tid:=by intro t n f h;cases h
theorem zSb(l:List UInt8):zFl (zAg l)=AG l:=by
 induction l<;>simp_all [zFl,zAg]
theorem zP5(l:List UInt8):zNs (zAg l)=l:=by
 induction l<;>simp_all [byteG,zNs,zAg]
theorem zGs(l:List UInt8)(n:Nat)(h:l.length=n):(zAg l).take n=zAg l:=by grind [BC,zBf]
def zM9(k:Nat)(st:List Bk):Bool:=st.zipIdx.all λp=>p.2==k||p.1.nob||!zV k p.1.cells
theorem zE9{k:Nat}{st:List Bk}(h:zM9 k st=Ab):∀j e0,j≠k->st[j]?=AG e0->e0.nob=Ab\/zV k e0.cells=false:=λj e0 hj he=>by
 unfold zM9 at h;rw[BD]at h
 have:=h (e0,j) (List.mem_zipIdx_iff_getElem?.2 he)
 simp only[Cm,beq_iff_eq,Bool.not_eq_true']at this;rcases this with(h1|h1)|h1
 ·exact absurd h1 hj
 ·exact .inl h1
 exact .inr h1
set_option maxHeartbeats 4000000 in
theorem zC1(r:List Va)(n:Nat)(hn:r.length=n)(hl:n<=10000)(hv:∀v∈r,Vs v):Pure AF 59 [.row (zJ r) n] [] (strD (idR r)):=by
 subst hn;refine zF Tid_ok mixed Tryz.func59 rfl ?_;focus
  refine vAu<|vAe<|zA<|vAe<|zH ?_;rotate_left
 refine zK (λ(i:Nat)=>fr 38 [(2,q7_),(3,Au 0 0 (Aa<|idR<|As i r) (Aa<|idR<|As i r) Ab),(6,(q3_ r)),(7,iD<|Aa r),(8,iD i)]) (λi=>[byB<|idR<|r.take i]) (λi=>r.length-i) (λi=>i<=r.length) 0 ?_ ?_ ?_
 ·omega
 ·rw[show idR (r.take 0)=[]from rfl];refine vk 0
 rintro i h1;have hb:=idR_len r hv i (by omega);generalize ex:idR (r.take i)=x at*;rcases AW i r.length with hi|hi
 ·have hvi:Vs (r.getD i Af):=by rw[AZ,AS hi];exact hv _ (A2 _)
  have e2:=zW7 r i hi;rw[ex]at e2;obtain⟨v,ev⟩:∃v,v=r.getD i default:=⟨_,rfl⟩;rw[<-ev]at e2 hvi;have l1:=BJ v.kind hvi.1.1 hvi.1.2;have l2:=BJ v.int hvi.2.1.1 hvi.2.1.2;have l3:=hvi.2.2;have l4:=BJ (v.str.length:Nat) (by omega) (by omega);have e3:x++idV v=x++Al v.kind++[44]++Al v.int++[44]++Al (v.str.length:Nat)++[44]++v.str:=by simp[idV]
  focus
   refine vAu<|zA<|vT ((i:Int)<↑(Aa r))<|vKB<|vA<|vr 2 (ix ↑i ↑(Aa r) (zJ r≠[])/\3<=Aa (Ak (i*3)<|zJ r)) ?_ ⟨⟨(by omega),⟨(by omega),(by exact zHf _ (by omega))⟩⟩,(by exact zGo _ _ (by omega))⟩;refine vs 11 (AI<|As 3<|Ak (i*3)<|zJ r) (AI<|vaC v) (by simp(disch:=omega) only[zDt,<-ev])<|ve (Ad=Ad/\Ab=Ab/\3=3/\3<=3)<|vA<|vr 3 (True/\0<3)<|vnt [byB x,An [iD<|AB v,iD<|AE v,Am<|AJ<|bs<|AH v] 64 0 Ad Ad Az] ?_;refine zGt [] [] [Au 0 0 (Aa x) (Aa x) Ab,iD<|AB v,iD 10] [Au 0 0 (Aa x) (Aa x) Ab,iD<|AB v,iD 10] (A3 _) (by exact zMo 0 _ v.kind _ (by simp) (by omega) hvi.1.1 hvi.1.2 rfl (zE9 rfl)) ?_;refine v0s<|vr 2 (((1=1/\1<=1/\True)/\0<1/\1=1/\1<=16777216/\1<=9223372036854775807)/\Ab=Ab/\Aa (zAg (x++Al (AB v)))=(Aa x+Aa (Al<|AB v))*1/\Aa x+Aa (Al<|AB v)=(Aa x+Aa (Al<|AB v))*1/\5=5/\1=1/\1=1/\0<1/\0<1/\5=5/\(Aa x+Aa (Al<|AB v)+1)*1<=140737488355328/\1=1/\Bx Az=Ad/\(Ad=Ad\/By Az=Ab)) (vb 0 (An (zAg (x++Al (AB v))++[Am<|AA Bz 44]) 5 1 Ab Ad Az) (An (zAg (x++Al (AB v)++[(44:UInt8)])) 5 1 Ab Ad Az) (by simp(disch:=omega) only[zC4,show([Am (AA Bz 44)]:List D)=zAg [44]from rfl])<|vrT 1<|vs 3 (Au 0 0 (Aa x+Aa (Al<|AB v)+1) ((Aa x+Aa (Al<|AB v)+1)*1) Ab) (Au 0 0 (Aa x+Aa (Al<|AB v)+1) (Aa x+Aa (Al<|AB v)+1) Ab) (by simp(disch:=omega) only[A7])<|veT<|zA ?_) ⟨⟨⟨(by kernel_rfl),⟨(by omega),trivial⟩⟩,(by omega)⟩,⟨(by kernel_rfl),⟨(by simp[zBf]),⟨(by omega),⟨(by kernel_rfl),⟨(by kernel_rfl),⟨(by kernel_rfl),⟨(by omega),⟨(by omega),⟨(by kernel_rfl),⟨(by omega),⟨(by kernel_rfl),⟨(by kernel_rfl),(by simp)⟩⟩⟩⟩⟩⟩⟩⟩⟩⟩⟩⟩⟩;refine zB rfl<|vr 3 (True/\0<2)<|vnt [An (zAg (x++Al (AB v)++[(44:UInt8)])) 5 1 Ab Ad Az,An [iD<|AB v,iD<|AE v,Am<|AJ<|bs<|AH v] 64 0 Ad Ad Az,An (zAg [(44:UInt8)]) 5 1 Ab Ad Az] ?_;refine zGt [] [] [Au 0 0 (Aa x+Aa (Al<|AB v)+1) (Aa x+Aa (Al<|AB v)+1) Ab,iD<|AE v,iD 10] [Au 0 0 (Aa x+Aa (Al<|AB v)+1) (Aa x+Aa (Al<|AB v)+1) Ab,iD<|AE v,iD 10] (A3 _) (by exact zMo 0 _ v.int _ (by simp;omega) (by omega) hvi.2.1.1 hvi.2.1.2 rfl (zE9 rfl)) ?_;refine v0s<|vr 2 (((1=1/\1<=1/\True)/\0<1/\1=1/\1<=16777216/\1<=9223372036854775807)/\Ab=Ab/\Aa (zAg (x++Al (AB v)++[(44:UInt8)]++Al (AE v)))=(Aa x+Aa (Al<|AB v)+1+Aa (Al<|AE v))*1/\Aa x+Aa (Al<|AB v)+1+Aa (Al<|AE v)=(Aa x+Aa (Al<|AB v)+1+Aa (Al<|AE v))*1/\5=5/\1=1/\1=1/\0<1/\0<1/\5=5/\(Aa x+Aa (Al<|AB v)+1+Aa (Al<|AE v)+1)*1<=140737488355328/\1=1/\Bx Az=Ad/\(Ad=Ad\/By Az=Ab)) (vb 0 (An (zAg (x++Al (AB v)++[(44:UInt8)]++Al (AE v))++[Am<|AA Bz 44]) 5 1 Ab Ad Az) (An (zAg (x++Al (AB v)++[(44:UInt8)]++Al (AE v)++[(44:UInt8)])) 5 1 Ab Ad Az) (by simp(disch:=omega) only[zC4,show([Am (AA Bz 44)]:List D)=zAg [44]from rfl]) ?_) ⟨⟨⟨(by kernel_rfl),⟨(by omega),trivial⟩⟩,(by omega)⟩,⟨(by kernel_rfl),⟨(by(simp[zBf];omega)),⟨(by omega),⟨(by kernel_rfl),⟨(by kernel_rfl),⟨(by kernel_rfl),⟨(by omega),⟨(by omega),⟨(by kernel_rfl),⟨(by omega),⟨(by kernel_rfl),⟨(by kernel_rfl),(by simp)⟩⟩⟩⟩⟩⟩⟩⟩⟩⟩⟩⟩⟩;refine vrT 1<|vs 3 (Au 0 0 (Aa x+Aa (Al<|AB v)+1+Aa (Al<|AE v)+1) ((Aa x+Aa (Al<|AB v)+1+Aa (Al<|AE v)+1)*1) Ab) (Au 0 0 (Aa x+Aa (Al<|AB v)+1+Aa (Al<|AE v)+1) (Aa x+Aa (Al<|AB v)+1+Aa (Al<|AE v)+1) Ab) (by simp(disch:=omega) only[A7])<|veT<|vA<|vr 4 (True/\0<1)<|vnt [An (zAg (x++Al (AB v)++[(44:UInt8)]++Al (AE v)++[(44:UInt8)])) 5 1 Ab Ad Az,An [iD<|AB v,iD<|AE v,Am<|AJ<|bs<|AH v] 64 0 Ad Ad Az,An [Am<|AA Bz (↑(44:Nat):Int)] 5 1 Ab Ad Az,An (zAg [(44:UInt8)]) 5 1 Ab Ad Az] ?_;refine zGt [] [] [Au 0 0 (Aa x+Aa (Al<|AB v)+1+Aa (Al<|AE v)+1) (Aa x+Aa (Al<|AB v)+1+Aa (Al<|AE v)+1) Ab,iD (Aa (AH v):Int),iD 10] [Au 0 0 (Aa x+Aa (Al<|AB v)+1+Aa (Al<|AE v)+1) (Aa x+Aa (Al<|AB v)+1+Aa (Al<|AE v)+1) Ab,iD (Aa (AH v):Int),iD 10] (A3 _) (by exact zMo 0 _ (v.str.length:Nat) _ (by simp;omega) (by omega) (by omega) (by omega) rfl (zE9 rfl)) ?_;refine v0s<|vr 2 (((1=1/\1<=1/\True)/\0<1/\1=1/\1<=16777216/\1<=9223372036854775807)/\Ab=Ab/\Aa (zAg (x++Al (AB v)++[(44:UInt8)]++Al (AE v)++[(44:UInt8)]++Al (Aa (AH v):Int)))=(Aa x+Aa (Al<|AB v)+1+Aa (Al<|AE v)+1+Aa (Al (Aa (AH v):Int)))*1/\Aa x+Aa (Al<|AB v)+1+Aa (Al<|AE v)+1+Aa (Al (Aa (AH v):Int))=(Aa x+Aa (Al<|AB v)+1+Aa (Al<|AE v)+1+Aa (Al (Aa (AH v):Int)))*1/\5=5/\1=1/\1=1/\0<1/\0<1/\5=5/\(Aa x+Aa (Al<|AB v)+1+Aa (Al<|AE v)+1+Aa (Al (Aa (AH v):Int))+1)*1<=140737488355328/\1=1/\Bx Az=Ad/\(Ad=Ad\/By Az=Ab)) ?_ ⟨⟨⟨(by kernel_rfl),⟨(by omega),trivial⟩⟩,(by omega)⟩,⟨(by kernel_rfl),⟨(by(simp[zBf];omega)),⟨(by omega),⟨(by kernel_rfl),⟨(by kernel_rfl),⟨(by kernel_rfl),⟨(by omega),⟨(by omega),⟨(by kernel_rfl),⟨(by omega),⟨(by kernel_rfl),⟨(by kernel_rfl),(by simp)⟩⟩⟩⟩⟩⟩⟩⟩⟩⟩⟩⟩⟩;refine vb 0 (An (zAg (x++Al (AB v)++[(44:UInt8)]++Al (AE v)++[(44:UInt8)]++Al (Aa (AH v):Int))++[Am<|AA Bz 44]) 5 1 Ab Ad Az) (An (zAg (x++Al (AB v)++[(44:UInt8)]++Al (AE v)++[(44:UInt8)]++Al (Aa (AH v):Int)++[(44:UInt8)])) 5 1 Ab Ad Az) (by simp(disch:=omega) only[zC4,show([Am (AA Bz 44)]:List D)=zAg [44]from rfl])<|vrT 1<|vs 3 (Au 0 0 (Aa x+Aa (Al<|AB v)+1+Aa (Al<|AE v)+1+Aa (Al (Aa (AH v):Int))+1) ((Aa x+Aa (Al<|AB v)+1+Aa (Al<|AE v)+1+Aa (Al (Aa (AH v):Int))+1)*1) Ab) (Au 0 0 (Aa x+Aa (Al<|AB v)+1+Aa (Al<|AE v)+1+Aa (Al (Aa (AH v):Int))+1) (Aa x+Aa (Al<|AB v)+1+Aa (Al<|AE v)+1+Aa (Al (Aa (AH v):Int))+1) Ab) (by simp(disch:=omega) only[A7])<|veT<|zB rfl ?_;refine vwh 4 [] [] (True/\0<1/\Ab=Ab/\Aa (zAg (x++Al (AB v)++[(44:UInt8)]++Al (AE v)++[(44:UInt8)]++Al (Aa (AH v):Int)++[(44:UInt8)]))=(Aa x+Aa (Al<|AB v)+1+Aa (Al<|AE v)+1+Aa (Al (Aa (AH v):Int))+1)*1/\Aa x+Aa (Al<|AB v)+1+Aa (Al<|AE v)+1+Aa (Al (Aa (AH v):Int))+1=(Aa x+Aa (Al<|AB v)+1+Aa (Al<|AE v)+1+Aa (Al (Aa (AH v):Int))+1)*1/\5=5/\1=1/\Aa (zAg<|BK<|BL<|bs<|AH v)=Aa (BK<|BL<|bs<|AH v)*1/\0<1/\0<1/\5=5/\(Aa x+Aa (Al<|AB v)+1+Aa (Al<|AE v)+1+Aa (Al (Aa (AH v):Int))+1+Aa (BK<|BL<|bs<|AH v))*1<=140737488355328/\1=1/\Bx Az=Ad/\(Ad=Ad\/By Az=Ab)) ⟨trivial,(by omega),?_⟩ ?_;rotate_left;refine vb 0 (An (zAg (x++Al (AB v)++[(44:UInt8)]++Al (AE v)++[(44:UInt8)]++Al (Aa (AH v):Int)++[(44:UInt8)])++zAg (BK<|BL<|bs<|AH v)) 5 1 Ab Ad Az) (An (zAg (x++Al (AB v)++[(44:UInt8)]++Al (AE v)++[(44:UInt8)]++Al (Aa (AH v):Int)++[(44:UInt8)]++AH v)) 5 1 Ab Ad Az) (by simp(disch:=omega) only[bs_dl,zC4])<|vrT 1<|vs 3 (Au 0 0 (Aa x+Aa (Al<|AB v)+1+Aa (Al<|AE v)+1+Aa (Al (Aa (AH v):Int))+1+Aa (BK<|BL<|bs<|AH v)) ((Aa x+Aa (Al<|AB v)+1+Aa (Al<|AE v)+1+Aa (Al (Aa (AH v):Int))+1+Aa (BK<|BL<|bs<|AH v))*1) Ab) (Au 0 0 (Aa x+Aa (Al<|AB v)+1+Aa (Al<|AE v)+1+Aa (Al (Aa (AH v):Int))+1+Aa (AH v)) (Aa x+Aa (Al<|AB v)+1+Aa (Al<|AE v)+1+Aa (Al (Aa (AH v):Int))+1+Aa (AH v)) Ab) (by simp(disch:=omega) only[bs_dl,A7])<|vnil<|zD<|vN<|zB rfl<|vr 2 (i6 (↑i+1))<|vnil<|zC ?_;rotate_left
  all_goals first|(refine⟨rfl,?_,?_,rfl,rfl,?_,by decide,by decide,rfl,?_,rfl,rfl, .inl rfl⟩<;>(try simp only[zBf,Bw,BA,B_,bs_dl])<;>omega)|skip
  refine⟨i+1,by omega,by omega,?_⟩;rw[e2,e3];refine wk 3 (Au 0 0 (Aa x+Aa (Al (AB v))+1+Aa (Al (AE v))+1+Aa (Al (↑(Aa (AH v)):Int))+1+Aa (AH v)) (Aa x+Aa (Al (AB v))+1+Aa (Al (AE v))+1+Aa (Al (↑(Aa (AH v)):Int))+1+Aa (AH v)) Ab) (Au 0 0 (Aa (x++Al (AB v)++[(44:UInt8)]++Al (AE v)++[(44:UInt8)]++Al (↑(Aa (AH v)):Int)++[(44:UInt8)]++AH v)) (Aa (x++Al (AB v)++[(44:UInt8)]++Al (AE v)++[(44:UInt8)]++Al (↑(Aa (AH v)):Int)++[(44:UInt8)]++AH v)) Ab) (by(simp;omega)) (vk 1)
 have e:i=r.length:=by omega
 subst e;rw[Bc]at ex;focus
  refine vAu<|zA<|vF ((Aa r:Int)<↑(Aa r))<|vZ2<|vA ?_;refine vr 2 (zFl (As (Aa x)<|Ak 0<|AO<|byB x)=AG (zNs<|As (Aa x)<|Ak 0<|AO<|byB x)/\Aa (As (Aa x)<|Ak 0<|AO<|byB x)=Aa x/\Program.underlying AF 5=AG (TypeDesc.int Bz)) (vs 37 (Am<|AJ<|A4<|List.toArray<|zNs<|As (Aa x)<|Ak 0<|AO<|byB x) (Am<|AJ<|A4<|List.toArray x) (by simp(disch:=omega) only[Bf,zGs,zP5])<|veT<|zE ?_) ⟨(by simp[zSb,zP5,zGs,zBf]),⟨(by simp[zSb,zP5,zGs,zBf]),(by kernel_rfl)⟩⟩;refine vre (True) (Am<|AJ<|A4<|List.toArray x) (.inr rfl) ?_;rotate_left
 rw[ex];rfl
end
def dvl(l:List UInt8):Nat:=l.foldl (λa b=>a*10+(b.toNat-48)) 0
theorem zXh(u:Nat):dvl (BM u)=u/\∀b∈BM u,48<=b.toNat/\b.toNat<=57:=by
 induction u using Nat.strongRecOn with
 | _ u ih=>
  rw[BM];split
  ·rename_i h;have e:(UInt8.ofNat (48+u)).toNat=48+u:=by rw[UInt8.toNat_ofNat'];omega
   grind [only,dvl,BE]
  rename_i h;obtain⟨h1,h2⟩:=ih (u/10) (by omega);have e:(UInt8.ofNat (48+u%10)).toNat=48+u%10:=by rw[UInt8.toNat_ofNat'];omega
  grind [dvl,only,BE]
theorem zPx{a b:Int}(h:Al a=Al b):a=b:=by
 have key:∀z:Int,z<0->∀u:Nat,Al z≠BM u:=λz hz u e=>by
  unfold Al at e;rw[if_pos hz]at e
  have:=(zXh u).2 45 (by rw[<-e];simp)
  grind
 by_cases ha:a<0<;>by_cases hb:b<0
 ·unfold Al at h;grind [dvl,List.cons.inj,zXh]
 ·have e:Al b=BM b.toNat:=by unfold Al;rw[if_neg hb]
  grind
 ·have e:Al a=BM a.toNat:=by unfold Al;rw[if_neg ha]
  grind
 unfold Al at h;grind [dvl,zXh]
theorem zJj(z:Int):∀b∈Al z,b≠44:=by
 intro b hb e;subst e;have e2:(44:UInt8).toNat=44:=rfl;unfold Al at hb;grind [zXh]
theorem zXi:∀{a b s t:List UInt8},(∀x∈a,x≠44)->(∀x∈b,x≠44)->a++44::s=b++44::t->a=b/\s=t
 |[],[],s,t,_,_,h=>by simpa using h
 |[],y::b,s,t,_,hb,h=>by
  grind
 |x::a,[],s,t,ha,_,h=>by
  grind
 |x::a,y::b,s,t,ha,hb,h=>by
  simp only[Cn,List.cons.injEq]at h;obtain⟨h1,h2⟩:=zXi (λz hz=>ha z (Bo _ hz)) (λz hz=>hb z (Bo _ hz)) h.2;exact⟨by rw[h.1,h1],h2⟩
theorem idV_inj{v w:Va}{s t:List UInt8}(h:idV v++s=idV w++t):v=w/\s=t:=by
 simp only[idV,List.append_assoc,List.singleton_append,Cn,List.nil_append]at h;obtain⟨h1,h⟩:=zXi (zJj _) (zJj _) h;obtain⟨h2,h⟩:=zXi (zJj _) (zJj _) h;obtain⟨h3,h⟩:=zXi (zJj _) (zJj _) h;have g1:=zPx h1;have g2:=zPx h2;clear h1 h2;have h3:v.str.length=w.str.length:=by have:=zPx h3;omega
 obtain⟨h4,h5⟩:=List.append_inj h h3;obtain⟨vk,vi,vs⟩:=v;simp_all
theorem idV_ne(v:Va)(s:List UInt8):idV v++s≠[]:=by
 simp_all [Aa,idV]
theorem idR_inj:∀{r s:List Va},idR r=idR s->r=s
 |[],[],_=>rfl
 |[],w::s,h=>absurd h.symm (idV_ne w (idR s))
 |v::r,[],h=>absurd h (idV_ne v (idR r))
 |v::r,w::s,h=>by
  have h:idV v++idR r=idV w++idR s:=h;obtain⟨h1,h2⟩:=idV_inj h;rw[h1,idR_inj h2]
abbrev kyv(r:List Va):Value:= .string (bs (idR r))
theorem zVm(r s:List Va):vEq (kyv r) (kyv s)=decide (r=s):=by
 simp only[vEq,kyv,bs];rw[Bool.eq_iff_iff];grind [only,idR_inj]
theorem zWr(K:List (List Va))(r:List Va):zEm (K.map kyv) (kyv r)=K.findIdx? λs=>decide (r=s):=by
 unfold zEm;rw[List.findIdx?_map];congr 1;funext s;exact zVm r s
theorem zTp(K:List (List Va)):(K.map kyv).all (zW .string)=true:=by simp[zW]
def addK(K:List (List Va))(r:List Va):List (List Va):=if r∈K then K else K++[r]
def allK(L:List (List Va)):List (List Va):=L.foldl addK []
abbrev zHe(K:List (List Va)):D:= .mfz (K.map kyv) (K.map λ_=>bD Ab)
abbrev zGn(K:List (List Va×Nat)):D:= .mfz (K.map λp=>kyv p.1) (K.map λp=>natD p.2)
def tlk(K:List (List Va×Nat))(r:List Va):Option Nat:=(K.find? λp=>decide (r=p.1)).map (·.2)
theorem look_v(K:List (List Va))(r:List Va):zRi Ad (bD Ad) (K.map kyv) (K.map λ_=>bD Ab) (kyv r)=bD (decide (r∈K)):=by
 grind [zRi,zWr,List.findIdx?_eq_none_iff,ctD,Cb,A2]
theorem look_t(z:D)(K:List (List Va×Nat))(r:List Va):zRi Ad z (K.map λp=>kyv p.1) (K.map λp=>natD p.2) (kyv r)=match tlk K r with
  |some w=>natD w
  |none=>z:=by
 induction K with
 |nil=>rfl
 |cons p K ih=>
  unfold zRi zEm tlk at*;rw[Bi,Bi,List.findIdx?_cons,zVm,List.find?_cons];by_cases h:r=p.1
  ·rw[decide_eq_true h];rfl
  grind
theorem zG2(K:List (List Va×Nat)):(K.map λp=>kyv p.1).all (zW .string)=true:=by simp[zW]
section
attribute [local irreducible] seqW awp zAf zAn zAd Weak updS zAv retL Pure Acts rP setP setQ cP nP fr
set_option maxRecDepth 4096
theorem zPg(x:List Va)(cols:List Nat)(h:∀v∈x,Vs v):∀v∈zX x cols,Vs v:=by
 intro v hv;obtain⟨c,_,rfl⟩:=A1.1 hv;rw[AZ];cases e:x[c]? with
 |none=>exact⟨by decide,by decide,by decide⟩
 |some u=>exact h u (List.mem_of_getElem? e)
theorem zLq:LeD (.val (.slice AL 0 0)) (natD 0):=by
 have e:natD 0= .row [] 0:=by simp[natD,dg]
 rw[e];exact LeD.nil_row
def wbad(f:Nat)(VT:Nat->List Rw)(x:Rw)(c:Nat×List Nat):Bool:=decide (f<=c.1)&&decide (zX x c.2∉VT c.1)
def wone(f:Nat)(VT:Nat->List Rw)(TT:Nat->List (Rw×Nat))(x:Rw)(c:Nat×List Nat):Nat:=if c.1<f then(tlk (TT c.1) (zX x c.2)).getD 0 else if zX x c.2∈VT c.1 then 1 else 0
def wtL(f:Nat)(VT:Nat->List Rw)(TT:Nat->List (Rw×Nat))(x:Rw)(ch:List (Nat×List Nat)):Nat:=(ch.map (wone f VT TT x)).foldl (· *·) 1
theorem wtL_succ(f:Nat)(VT:Nat->List Rw)(TT:Nat->List (Rw×Nat))(x:Rw)(ch:List (Nat×List Nat))(i:Nat)(h:i<ch.length):wtL f VT TT x (ch.take (i+1))=wtL f VT TT x (ch.take i)*wone f VT TT x (ch.getD i Af):=by
 grind [wtL,Bn,AS]
theorem mul0:∀(l:List Nat),l.foldl (· *·) 0=0
 |[]=>rfl
 |a::l=>by rw[BN,Nat.zero_mul];exact mul0 l
theorem wtL_bad{f:Nat}{VT:Nat->List Rw}{TT:Nat->List (Rw×Nat)}{x:Rw}{ch:List (Nat×List Nat)}{p:Nat}(h:p<ch.length)(hb:wbad f VT x (ch.getD p Af)=Ab):wtL f VT TT x ch=0:=by
 have h0:wone f VT TT x (ch.getD p Af)=0:=by
  unfold wbad at hb;simp only[BO,decide_eq_true_eq]at hb;grind [wone]
 have e:ch=ch.take p++ch.getD p Af::ch.drop (p+1):=by
  simp_all
 rw[e];unfold wtL;rw[B7,List.foldl_append,Bi,BN,h0,Nat.mul_zero,mul0]
theorem zD1{p:Nat->Bool}{n:Nat}(h:∃i,i<n/\p i=Ab):∃i,i<n/\p i=Ab/\∀j,j<i->p j=false:=by
 induction n with
 |zero=>obtain⟨i,h1,_⟩:=h;omega
 |succ n ih=>
  by_cases h2:∃i,i<n/\p i=Ab;all_goals grind
def Twe:Par:=⟨λ_=>Ad,λ_ _=>AL,λk=>decide (k<11),λ_=>Ad,λ_=>Ad⟩
theorem Twe_ok:zA9 AF Twe:=by intro t n f h;cases h
theorem keep11{st:List Bk}(h:st.length=11):∀k,k<st.length->Twe.keep k=true:=λk hk=>by
 show decide (k<11)=Ab;rw[decide_eq_true_eq];omega
theorem zG1:∀k,11<=k->Twe.keep k=false:=λk hk=>by
 show decide (k<11)=Ad;rw[decide_eq_false_iff_not];omega
abbrev chfB(l:List D):Bk:=⟨l,200,2,Ab,Ab, .plain⟩
abbrev chK(c:Nat×List Nat):Bk:=⟨chC c,200,0,Ad,Ad, .plain⟩
section
variable (b : Bd) (x : Rw) (ch : List (Nat × List Nat)) (gv gt : Nat → D) (VT : Nat → List Rw) (TT : Nat → List (Rw × Nat))
 (hx : x.length ≤ 1000) (hxs : ∀ v ∈ x, Vs v) (hch : ch.length ≤ 1000) (hc : ∀ c ∈ ch, c.1 < b.n ∧ c.2.length ≤ 1000 ∧ ∀ j ∈ c.2, j < x.length)
 (hv : ∀ c ∈ ch, b.f ≤ c.1 → gv c.1 = zHe (VT c.1)) (ht : ∀ c ∈ ch, c.1 < b.f → gt c.1 = zGn (TT c.1))
 (hS : ∀ i, i ≤ ch.length → Sm (wtL b.f VT TT x (ch.take i))) (hS1 : ∀ c ∈ ch, ∀ p ∈ TT c.1, Sm p.2)
 (c7 c8 c9 c10 : List D) (t8 t10 : TypeId) (s10 : Nat) (ks : List Value) (h5 : blw 11 (fA b.n gv)) (h6 : blw 11 (fA b.n gt))
include hx hxs hch hc hv ht hS hS1 h5 h6
abbrev q20_(x0:List (Nat×List Nat)):=Aj (Ah chC x0) (Aa x0)
theorem zVh:Acts AF 97 [.own 4 0, .row (ch.flatMap chC) ch.length,rowV x] [blI b,blX,blG b,blE b,blB b,blV (fA b.n gv),blT (fA b.n gt),blU c7,blM t8 ks c8,chfB c9,⟨c10,t10,s10,Ab,Ad, .plain⟩] [] (natD (wtL b.f VT TT x ch))
  [blI b,blX,blG b,blE b,blB b,blV (fA b.n gv),blT (fA b.n gt),blU c7,blM t8 ks c8,chfB c9,⟨c10,t10,s10,Ab,Ad, .plain⟩]:=by
 have hnm:∀e∈[blI b,blX,blG b,blE b,blB b,blV (fA b.n gv),blT (fA b.n gt),blU c7,blM t8 ks c8,chfB c9,(⟨c10,t10,s10,Ab,Ad, .plain⟩:Bk)],namB 11 e:=zG5 (by omega) h5 h6 λe he=>by
  simp only[BF,Co,or_false]at he;rcases he with rfl|rfl|rfl<;>exact .inl rfl
 have hcc:∀c:Nat×List Nat,(chC c).length=2:=λ_=>rfl;have step:∀i,i<ch.length->ch.getD i Af∈ch:=λi h=>by rw[AZ,AS h];exact A2 h
 obtain⟨m,res,bs,hres,hm,hgood,hend⟩:∃(m:Nat)(res:D)(bs:List Bk),LeD res (natD (wtL b.f VT TT x ch))/\m<=ch.length/\(∀j,j<m->wbad b.f VT x (ch.getD j Af)=Ad)/\((m=ch.length/\res=natD (wtL b.f VT TT x ch)/\bs=[])\/(m<ch.length/\wbad b.f VT x (ch.getD m Af)=Ab/\res= .val (.slice AL 0 0)/\bs=[chK (ch.getD m Af)])):=by
  by_cases hbad:∃p,p<ch.length/\wbad b.f VT x (ch.getD p Af)=Ab
  ·obtain⟨p,hp,hpb,hmin⟩:=zD1 (p:=λi=>wbad b.f VT x (ch.getD i Af)) hbad;exact⟨p,_,_,by rw[wtL_bad (TT:=TT) hp hpb];exact zLq,by omega,hmin, .inr ⟨hp,hpb,rfl,rfl⟩⟩
  exact⟨ch.length,_,_,BB _,AY _,λi hi=>by
   cases e:wbad b.f VT x (ch.getD i Af)with
   |false=>rfl
   |true=>exact absurd ⟨i,hi,e⟩ hbad, .inl ⟨rfl,rfl,rfl⟩⟩
 refine Acts.res (x:=res) ?_ hres;refine Acts.cutN (bs:=bs) ?_ (AY _) hnm (λj hj=>by rcases hend with⟨_,rfl,_⟩|⟨_,_,rfl,_⟩<;>rfl);obtain⟨one,e1⟩:∃o:Nat,o=1:=⟨1,rfl⟩;have hof:Pure AF 36 [.val (.int .u64 1)] [] (natD one):=by subst e1;exact of_c 1 (by decide)
 have hw0:wtL b.f VT TT x (ch.take 0)=one:=e1.symm;refine zP Twe_ok mixed Tryz.func97 rfl (keep11 rfl) ?_;focus
  refine vAu<|vA<|vc hof<|veT<|zA<|vAe<|zH ?_;rotate_left
 refine zK (λ(i:Nat)=>fr 56 [(0,Ae 4 0),(2,rowV x),(7,natD<|wtL (Ai b) VT TT x<|As i ch),(12,(q20_ ch)),(13,iD<|Aa ch),(14,iD i)]) (λ(i:Nat)=>[blI b,blX,blG b,blE b,blB b,blV<|fA b.n gv,blT<|fA b.n gt,blU c7,blM t8 ks c8,chfB c9,⟨c10,t10,s10,Ab,Ad,.plain⟩]) (λ(i:Nat)=>m-i) (λ(i:Nat)=>i<=m) 0 ?_ ?_ ?_
 ·omega
 ·rw[hw0];refine vk 11 ?_;all_goals exact zG1
 intro i h1;rcases AW i m with h3'|h3'
 ·have h3:i<ch.length:=by omega
  have hg2:=zCv hcc ch i h3;have hle:=zEr hcc ch i h3;have hne:=zDd hcc (by decide) ch (by omega);have hmem:=step i h3;have hgd:=hgood i h3';have hsu:=wtL_succ b.f VT TT x ch i h3;obtain⟨n1,n2,n3⟩:=hc _ hmem;have hv1:=hv _ hmem;have ht1:=ht _ hmem;have hs1:=hS1 _ hmem;have hsi:=hS i (by omega);generalize ch.getD i Af=c at*;have hpk:=pick_c x c.2 _ _ rfl rfl (by omega) (by omega) n3;have hpl:(zX x c.2).length=c.2.length:=by simp[zX]
  have hid:=zC1 (zX x c.2) c.2.length hpl (by omega) (zPg x c.2 hxs);by_cases hf:c.1<b.f
  ·have hgt:((fA b.n gt).drop c.1).headD .unk=zGn (TT c.1):=by rw[zEd n1];exact ht1 hf
   have hps:=zCa (g:=gt) n1;unfold wone at hsu;rw[if_pos hf]at hsu;have hlk:=look_t (.val (.slice AL 0 0)) (TT c.1) (zX x c.2);cases e:tlk (TT c.1) (zX x c.2)with
   | none=>
    rw[e]at hlk hsu;dsimp only[Option.getD_none]at hlk hsu;have hmu:Pure AF 86 [natD (wtL b.f VT TT x (ch.take i)), .val (.slice AL 0 0)] [] (natD (wtL b.f VT TT x (ch.take i)*0)):=(zWg _ 0 hsi Sm.zero).le (.cons (.refl _) (.cons zLq .nil));focus
     refine vAu (zA (vT ((i:Int)<↑(Aa ch)) (vKB (vA (vr 2 (ix ↑i ↑(Aa ch) (Ah chC ch≠[])/\2<=Aa (Ak (i*2) (Ah chC ch))) ?_)))));refine vs 17 (AI (As 2 (Ak (i*2) (Ah chC ch)))) (AI (chC c)) (by simp(disch:=omega) only[hg2]) (ve (Ad=Ad/\Ab=Ab/\2=2/\2<=2) (vA (vr 3 (True/\0<1) (vc hpk (vc hid (veT (zA (vd [0,2,3,4,5,1,6,7] (ve (True/\True/\True/\0<2/\0<9) (vT ((↑(Aw c):Int)<↑(Ai b)) (vd [0,1,2,3,5,9,4,6,7,8,10,11,12] (vr 9 (True/\True/\0<2/\0<2/\(0:Int)<=(↑(Aw c):Int)/\(↑(Aw c):Int)<(↑(Ag b):Int)) ?_))))))))))));refine vo 38 6 (Aw c) (vr 1 (0<Aa (Ak (Aw c) (AO (blT (fA (Ag b) gt))))) (vsh 39 hgt (vr 1 (zW (A8 (A9 A_ "string" 1 16 Ab 8 8 (AG (AJ (A4 #[]))) Ab #[])) (AJ (YtjcofbkhoeockaaGreatDoor.bs (idR (zX x (AN c)))))=Ab/\Bq (Ao (λ(p:List Va×Nat)=>kyv (Aw p)) (TT (Aw c))) (zW (A8 (A9 A_ "string" 1 16 Ab 8 8 (AG (AJ (A4 #[]))) Ab #[])))=Ab) (vsh 41 hlk (vc hmu (vrT 1 (vnil (zD (vN (zB rfl (vr 2 (i6 (↑i+1)) (vnil ?_))))))))) ⟨(by kernel_rfl),(by exact zG2 _)⟩)));refine zC ?_;rotate_left
    refine⟨i+1,by omega,by omega,?_⟩;rw[hsu];refine wkn (fr 56 [(0,Ae 4 0),(2,rowV x),(7,Aj [] (Aa (dg (wtL (Ai b) VT TT x (As i ch)*0)))),(9,Ae 11 0),(10,Am (AJ (YtjcofbkhoeockaaGreatDoor.bs (idR (zX x (AN c)))))),(12,(q20_ ch)),(13,iD (Aa ch)),(14,iD ↑(i+1)),(30,bD (decide ((↑(Aw c):Int)<(↑(Ai b):Int)))),(31,natD (wtL (Ai b) VT TT x (As i ch))),(32,Ae 4 0),(33,Ae 4 0),(34,Ae 4 8),(35,Au 6 0 (Ag b) (Ag b) Ab),(36,Ae 11 0),(37,iD ↑(Aw c)),(38,Ae 6 (Aw c)),(39,zGn (TT (Aw c))),(40,Am (AJ (YtjcofbkhoeockaaGreatDoor.bs (idR (zX x (AN c)))))),(41,nl),(42,Aj [] (Aa (dg (wtL (Ai b) VT TT x (As i ch)*0)))),(54,iD ↑(i+1))]) [blI b,blX,blG b,blE b,blB b,blV (fA (Ag b) gv),blT (fA (Ag b) gt),blU c7,blM t8 ks c8,chfB c9,An c10 t10 s10 Ab Ad Az,An [iD ↑(Aw c),Aj (nsD (AN c)) (Aa (AN c))] 200 0 Ad Ad Az] ?_;refine zA3 (N:=11) (4<11/\True) rfl hnm (λk hk=>zG1 k (by omega)) ?_ ⟨by omega,trivial⟩;refine vk 12 ?_;grind [zG1]
   | some w=>
    rw[e]at hlk hsu;dsimp only[BS]at hlk hsu;have hw:Sm w:=by
     unfold tlk at e;obtain⟨q,q1,q2⟩:=Cp.1 e;grind
    have hmu:=zWg (wtL b.f VT TT x (ch.take i)) w hsi hw;focus
     refine vAu (zA (vT ((i:Int)<↑(Aa ch)) (vKB (vA (vr 2 (ix ↑i ↑(Aa ch) (Ah chC ch≠[])/\2<=Aa (Ak (i*2) (Ah chC ch))) ?_)))));refine vs 17 (AI (As 2 (Ak (i*2) (Ah chC ch)))) (AI (chC c)) (by simp(disch:=omega) only[hg2]) (ve (Ad=Ad/\Ab=Ab/\2=2/\2<=2) (vA (vr 3 (True/\0<1) (vc hpk (vc hid (veT (zA (vd [0,2,3,4,5,1,6,7] (ve (True/\True/\True/\0<2/\0<9) (vT ((↑(Aw c):Int)<↑(Ai b)) (vd [0,1,2,3,5,9,4,6,7,8,10,11,12] (vr 9 (True/\True/\0<2/\0<2/\(0:Int)<=(↑(Aw c):Int)/\(↑(Aw c):Int)<(↑(Ag b):Int)) ?_))))))))))));refine vo 38 6 (Aw c) (vr 1 (0<Aa (Ak (Aw c) (AO (blT (fA (Ag b) gt))))) (vsh 39 hgt (vr 1 (zW (A8 (A9 A_ "string" 1 16 Ab 8 8 (AG (AJ (A4 #[]))) Ab #[])) (AJ (YtjcofbkhoeockaaGreatDoor.bs (idR (zX x (AN c)))))=Ab/\Bq (Ao (λ(p:List Va×Nat)=>kyv (Aw p)) (TT (Aw c))) (zW (A8 (A9 A_ "string" 1 16 Ab 8 8 (AG (AJ (A4 #[]))) Ab #[])))=Ab) (vsh 41 hlk (vc hmu (vrT 1 (vnil (zD (vN (zB rfl (vr 2 (i6 (↑i+1)) (vnil ?_))))))))) ⟨(by kernel_rfl),(by exact zG2 _)⟩)));refine zC ?_;rotate_left
    refine⟨i+1,by omega,by omega,?_⟩;rw[hsu];refine wkn (fr 56 [(0,Ae 4 0),(2,rowV x),(7,natD (wtL (Ai b) VT TT x (As i ch)*w)),(9,Ae 11 0),(10,Am (AJ (YtjcofbkhoeockaaGreatDoor.bs (idR (zX x (AN c)))))),(12,(q20_ ch)),(13,iD (Aa ch)),(14,iD ↑(i+1)),(30,bD (decide ((↑(Aw c):Int)<(↑(Ai b):Int)))),(31,natD (wtL (Ai b) VT TT x (As i ch))),(32,Ae 4 0),(33,Ae 4 0),(34,Ae 4 8),(35,Au 6 0 (Ag b) (Ag b) Ab),(36,Ae 11 0),(37,iD ↑(Aw c)),(38,Ae 6 (Aw c)),(39,zGn (TT (Aw c))),(40,Am (AJ (YtjcofbkhoeockaaGreatDoor.bs (idR (zX x (AN c)))))),(41,natD w),(42,natD (wtL (Ai b) VT TT x (As i ch)*w)),(54,iD ↑(i+1))]) [blI b,blX,blG b,blE b,blB b,blV (fA (Ag b) gv),blT (fA (Ag b) gt),blU c7,blM t8 ks c8,chfB c9,An c10 t10 s10 Ab Ad Az,An [iD ↑(Aw c),Aj (nsD (AN c)) (Aa (AN c))] 200 0 Ad Ad Az] ?_;refine zA3 (N:=11) (4<11/\True) rfl hnm (λk hk=>zG1 k (by omega)) ?_ ⟨by omega,trivial⟩;refine vk 12 ?_;grind [zG1]
  have hgt:((fA b.n gv).drop c.1).headD .unk=zHe (VT c.1):=by rw[zEd n1];exact hv1 (by omega)
  have hps:=zCa (g:=gv) n1;have hin:zX x c.2∈VT c.1:=by
   simp_all [wbad,Bool.true_and]
  unfold wone at hsu;rw[if_neg hf,if_pos hin,A7]at hsu;have hlk:=look_v (VT c.1) (zX x c.2);rw[decide_eq_true hin]at hlk;focus
   refine vAu (zA (vT ((i:Int)<↑(Aa ch)) (vKB (vA (vr 2 (ix ↑i ↑(Aa ch) (Ah chC ch≠[])/\2<=Aa (Ak (i*2) (Ah chC ch))) ?_)))));refine vs 17 (AI (As 2 (Ak (i*2) (Ah chC ch)))) (AI (chC c)) (by simp(disch:=omega) only[hg2]) (ve (Ad=Ad/\Ab=Ab/\2=2/\2<=2) (vA (vr 3 (True/\0<1) (vc hpk (vc hid (veT (zA (vd [0,2,3,4,5,1,6,7] (ve (True/\True/\True/\0<2/\0<9) (vF ((↑(Aw c):Int)<↑(Ai b)) (zA (vd [0,1,2,4,8,3,5,6,7,9,10] ?_))))))))))));refine vr 8 (True/\True/\0<3/\0<2/\(0:Int)<=(↑(Aw c):Int)/\(↑(Aw c):Int)<(↑(Ag b):Int)) (vo 49 5 (Aw c) (vr 1 (0<Aa (Ak (Aw c) (AO (blV (fA (Ag b) gv))))) (vsh 50 hgt (vr 1 (zW (A8 (A9 A_ "string" 1 16 Ab 8 8 (AG (AJ (A4 #[]))) Ab #[])) (AJ (YtjcofbkhoeockaaGreatDoor.bs (idR (zX x (AN c)))))=Ab/\Bq (Ao kyv (VT (Aw c))) (zW (A8 (A9 A_ "string" 1 16 Ab 8 8 (AG (AJ (A4 #[]))) Ab #[])))=Ab) (vsh 52 hlk (veT (vf (zQ (zD (vN (zB rfl (vr 2 (i6 (↑i+1)) ?_)))))))) ⟨(by kernel_rfl),(by exact zTp _)⟩))));refine vnil (zC ?_);rotate_left
  refine⟨i+1,by omega,by omega,?_⟩;rw[hsu];refine wkn (fr 56 [(0,Ae 4 0),(2,rowV x),(7,natD (wtL (Ai b) VT TT x (As i ch))),(12,(q20_ ch)),(13,iD (Aa ch)),(14,iD ↑(i+1)),(53,bD Ad),(54,iD ↑(i+1))]) [blI b,blX,blG b,blE b,blB b,blV (fA (Ag b) gv),blT (fA (Ag b) gt),blU c7,blM t8 ks c8,chfB c9,An c10 t10 s10 Ab Ad Az,An [iD ↑(Aw c),Aj (nsD (AN c)) (Aa (AN c))] 200 0 Ad Ad Az] ?_;refine zA3 (N:=11) (4<11/\True) rfl hnm (λk hk=>zG1 k (by omega)) ?_ ⟨by omega,trivial⟩;refine vk 12 ?_;grind [zG1]
 obtain rfl:i=m:=by omega
 rcases hend with⟨rfl,rfl,rfl⟩|⟨h3,hgd,rfl,rfl⟩
 ·rw[Bc];focus
   refine vAu<|zA<|vF ((Aa ch:Int)<↑(Aa ch))<|vZ2<|vA ?_;refine veT<|zE ?_;refine zM (True) [natD<|wtL (Ai b) VT TT x ch] (.inr rfl) ?_;rotate_left
  exact⟨by kernel_rfl,by kernel_rfl⟩
 have hg2:=zCv hcc ch i h3;have hle:=zEr hcc ch i h3;have hne:=zDd hcc (by decide) ch (by omega);have hmem:=step i h3;obtain⟨n1,n2,n3⟩:=hc _ hmem;have hv1:=hv _ hmem;generalize ch.getD i Af=c at*;unfold wbad at hgd;simp only[BO,decide_eq_true_eq]at hgd;have hpk:=pick_c x c.2 _ _ rfl rfl (by omega) (by omega) n3;have hpl:(zX x c.2).length=c.2.length:=by simp[zX]
 have hid:=zC1 (zX x c.2) c.2.length hpl (by omega) (zPg x c.2 hxs);have hgt:((fA b.n gv).drop c.1).headD .unk=zHe (VT c.1):=by rw[zEd n1];exact hv1 hgd.1
 have hps:=zCa (g:=gv) n1;have hlk:=look_v (VT c.1) (zX x c.2);rw[decide_eq_false hgd.2]at hlk;have hf:¬c.1<b.f:=by omega
 focus
  refine vAu (zA (vT ((i:Int)<↑(Aa ch)) (vKB (vA (vr 2 (ix ↑i ↑(Aa ch) (Ah chC ch≠[])/\2<=Aa (Ak (i*2) (Ah chC ch))) ?_)))));refine vs 17 (AI (As 2 (Ak (i*2) (Ah chC ch)))) (AI (chC c)) (by simp(disch:=omega) only[hg2]) (ve (Ad=Ad/\Ab=Ab/\2=2/\2<=2) (vA (vr 3 (True/\0<1) (vc hpk (vc hid (veT (zA (vd [0,2,3,4,5,1,6,7] (ve (True/\True/\True/\0<2/\0<9) (vF ((↑(Aw c):Int)<↑(Ai b)) (zA (vd [0,1,2,4,8,3,5,6,7,9,10] ?_))))))))))));refine vr 8 (True/\True/\0<3/\0<2/\(0:Int)<=(↑(Aw c):Int)/\(↑(Aw c):Int)<(↑(Ag b):Int)) (vo 49 5 (Aw c) (vr 1 (0<Aa (Ak (Aw c) (AO (blV (fA (Ag b) gv))))) (vsh 50 hgt (vr 1 (zW (A8 (A9 A_ "string" 1 16 Ab 8 8 (AG (AJ (A4 #[]))) Ab #[])) (AJ (bs (idR (zX x (AN c)))))=Ab/\Bq (Ao kyv (VT (Aw c))) (zW (A8 (A9 A_ "string" 1 16 Ab 8 8 (AG (AJ (A4 #[]))) Ab #[])))=Ab) (vsh 52 hlk (veT (vt (vAe (zE (zL (zG ?_))))))) ⟨(by kernel_rfl),(by exact zTp _)⟩))));refine zG (zL (zG ?_));refine zM (True) [nl] (.inr rfl) ?_;rotate_left
 exact⟨by kernel_rfl,by kernel_rfl⟩
end
abbrev zK4(desc:Bool)(t:WT):D:= .agg [bD desc,t.x]
theorem nilx_le:LeD (.val (.pointer AL)) WT.nil.x:=λI w β v h=>by
 simp only[Rel]at h;subst h;simp only[Rel,WT.d];exact⟨rfl,trivial⟩
theorem agg2_le{a b b':D}(h:LeD b b'):LeD (.agg [a,b]) (.agg [a,b']):=λI w β v hr=>by
 simp only[Rel,RelL]at hr⊢;obtain⟨vs,rfl,v1,us,rfl,h1,h2,v2,us',rfl,h3,h4,h5⟩:=hr;exact⟨_,rfl,v1,_,rfl,h1,h2,v2,us',rfl,h3,h _ _ _ _ h4,h5⟩
theorem wnew_c(desc:Bool):Pure AF 41 [bD desc] [] (zK4 desc .nil):=by
 refine Pure.res (x:= .agg [bD desc, .val (.pointer AL)]) ?_ (agg2_le nilx_le);refine zF zBj mixed Tryz.func41 rfl ?_;refine vAu<|vA<|ve (((1=1/\1<=2/\True)/\Ab=Ab)/\Ad=Ad/\Ab=Ab/\2=2/\2<=2)<|zE<|vret (2<=2)<|.inr rfl
theorem wlen_c(desc:Bool)(t:WT):Pure AF 28 [zK4 desc t] [] (iD (t.sz:Nat)):=by
 refine zF zBj mixed Tryz.func28 rfl ?_;refine vAu<|vA<|vr 2 (True/\0<1)<|vca [AD<|WT.d t] (by exact wsz_c _)<|veT<|zE<|vret (True)<|.inr rfl
theorem wtotal_c(desc:Bool)(t:WT)(h:Sm t.tot):Pure AF 87 [zK4 desc t] [] (natD t.tot):=by
 refine zF zBj mixed Tryz.func87 rfl ?_;refine vAu<|vA<|vr 2 (True/\0<1)<|vca [AD<|WT.d t] (by exact zY5 _)<|vc (zLp _ h)<|veT<|zE<|vret (True)<|.inr rfl
theorem zXg{w:Nat}(h:0<w):0<(dg w).length:=by
 grind [dg]
theorem wPut_c(desc:Bool)(t:WT)(v:Va)(w:Nat)(hv:vok v=Ab)(hw:0<w)(h1:t.sz+1<=1000000000)(h2:Sm (t.tot+w)):Pure AF 42 [zK4 desc t,vaD v,natD w] [] (.tup [zK4 desc (t.put desc v w),iD 0]):=by
 have h3:=zXg hw;have h4:=(h2.le (Nat.le_add_left w t.tot)).len;refine zF zBj mixed Tryz.func42 rfl ?_;focus
  refine vAu<|zA<|vA<|vr 1 (3<=3)<|vca [AI [iD<|AB v,iD<|AE v,Am<|AJ<|bs<|AH v]] (by exact zVj _)<|vrT 1<|vs 10 (bD !vok v) (bD Ad) (by simp(disch:=omega) only[Cq,hv])<|veT<|vf<|zQ ?_;refine vN<|vA<|vrT 1<|vca [natD w] (by exact zLp _ (h2.le (by omega)))<|veT<|zA<|vAe<|vEf ((Aa (dg w):Int)) ((0:Int))<|zQ<|zC ?_;refine zA4<|zA<|vd [0,3,6,1,2,4,5,7,8,9,10,11]<|vr 8 (True/\True/\0<2/\2<=2/\0<1/\3<=3/\(3=3/\3<=4/\1=1/\4<=4/\True)/\Ab=Ab)<|vc (zY6 desc t v w t h1 h2)<|ve (((1=1/\1<=2/\1=1/\2<=2/\True)/\Ab=Ab)/\Ad=Ad/\Ab=Ab/\2=2/\2<=2)<|zE<|vret (2<=2)<|.inr rfl
abbrev vB1(v:Va):Bk:=⟨vaC v,64,0,Ad,Ad, .plain⟩
abbrev nB1(d:D):Bk:=⟨[d],44,0,Ad,Ad, .plain⟩
abbrev tB1(desc:Bool)(t:WT)(fz:Bool):Bk:=⟨[bD desc,t.x],57,0,Ad,fz, .plain⟩
def WT.look(desc:Bool)(u:Va):WT->Option Nat
 | .nil=>AL
 | .node v w l r=>if WT.cmp desc u v<0 then l.look desc u else if WT.cmp desc u v>0 then r.look desc u else AG w
def WT.seen(desc:Bool)(u:Va):WT->Nat
 | .nil=>0
 | .node v w l r=>if WT.cmp desc u v<0 then l.seen desc u+1 else if WT.cmp desc u v>0 then r.seen desc u+1 else 1
theorem WT.seen_le(desc:Bool)(u:Va):∀(t:WT),t.seen desc u<=t.ht
 | .nil=>AY _
 | .node v w l r=>by
  have h1:=WT.seen_le desc u l;have h2:=WT.seen_le desc u r;simp only[WT.seen,WT.ht];grind
abbrev bB1(b:Bool):Bk:=⟨[bD b],4,0,Ad,Ad, .plain⟩
abbrev optD(o:Option Nat):D:=match o with
 |some w=>natD w
 |none=>nl
theorem WT.cmp_vals(desc:Bool)(a b:Va):WT.cmp desc a b=-1\/WT.cmp desc a b=0\/WT.cmp desc a b=1:=by
 unfold WT.cmp;split<;>exact(zBh _ _).1
def Tg:Par:=⟨λf=>f==60||f==61,λ_ _=>AL,λk=>decide (k<5),λ_=>Ad,λ_=>Ad⟩
theorem Tg_ok:zA9 AF Tg:=by intro t n f h;cases h
theorem keep5{st:List Bk}(h:st.length<=5):∀k,k<st.length->Tg.keep k=true:=λk hk=>by
 show decide (k<5)=Ab;rw[decide_eq_true_eq];omega
theorem keep5F:∀k,5<=k->Tg.keep k=false:=λk hk=>by
 show decide (k<5)=Ad;rw[decide_eq_false_iff_not];omega
theorem wget1_c(desc:Bool)(t:WT)(u v:Va)(w:Nat)(l r:WT)(hw:Sm w)(b4:Bk):
  Acts AF 61 [zMw v w l r, .own 0 0, .own 1 0, .own 2 0, .own 3 0] [tB1 desc t Ad,vB1 u,nB1 nl,bB1 Ad,b4] []
   (iD (WT.cmp desc u v)) [tB1 desc t Ad,vB1 u,if WT.cmp desc u v=0 then nB1 (natD w)else nB1 nl,bB1 (decide (WT.cmp desc u v=0)),b4]:=by
 refine zP Tg_ok mixed Tryz.func61 rfl (keep5 (by simp)) ?_;focus
  refine vAu<|zA<|vd [2,3,4,5,0,1,6,7,8]<|vr 7 (True/\True/\2<=2/\3<=3/\3<=9)<|vc (zM0 desc t u v)<|veT<|zA<|vAe ?_;refine zAa (t:=WT.cmp desc u v !=(0:Int)) (by kernel_rfl) (λhc=>?_)<|λhc=>?_;simp only[bne_iff_ne]at hc;refine vAe<|zE<|zG ?_;refine zM (True) [Am<|AA Bm<|WT.cmp desc u v] (.inr rfl) ?_;rotate_left;simp only[bne_eq_false_iff_eq]at hc;refine vK<|vA<|vr 5 (True/\True/\0<6)<|vc (zLp _ hw)<|ve ((Ad=Ad/\Ab=Ab/\1=1/\1<=1)/\Ad=Ad/\Ab=Ab/\1=1/\1<=1)<|vAe<|zE ?_;refine zM (True) [q2_] (.inr rfl) ?_;rotate_left
 ·have h0:¬WT.cmp desc u v=0:=by assumption
  rw[if_neg h0,decide_eq_false h0];exact⟨by kernel_rfl,by kernel_rfl⟩
 have h0:WT.cmp desc u v=0:=by assumption
 rw[if_pos h0,decide_eq_true h0,h0];exact⟨by kernel_rfl,by kernel_rfl⟩
abbrev q21_(x0:Bool)(x1:WT):=An [bD x0,AD (WT.d x1)] 57 0 Ad Ad Az
abbrev q22_:=An [nl] 44 0 Ad Ad Az
abbrev q23_:=An [bD Ad] 4 0 Ad Ad Az
set_option maxHeartbeats 1000000 in
theorem zX2(desc:Bool)(t:WT)(u:Va)(h:t.Ok):
  Acts AF 60 [zK4 desc t, .clo (.func 61) [] [.own 0 0, .own 1 0, .own 2 0, .own 3 0]] [tB1 desc t Ad,vB1 u,nB1 nl,bB1 Ad] []
   (iD (t.seen desc u)) [tB1 desc t Ad,vB1 u,nB1 (optD (t.look desc u)),bB1 (t.look desc u).isSome,tB1 desc t Ad]:=by
 have hg:=WT.seen_le desc u t;have hz:=WT.ht_le_sz t;have hs:=h.1;refine zP Tg_ok mixed Tryz.func60 rfl (keep5 (by simp)) ?_;focus
  refine vAu<|vAe<|zA<|vA<|ve (True/\0<1)<|zH ?_;rotate_left
 refine zF8 (λ(cur:WT)(n:Nat)=>fr 33 [(1,Bh (Fn.func (61:FuncId)) [] [Ae 0 0,Ae 1 0,Ae 2 0,Ae 3 0]),(5,iD n),(6,WT.d cur)]) (λcur (n:Nat)=>[tB1 desc t Ad,vB1 u,nB1 nl,bB1 Ad,tB1 desc t Ad]) (λcur n=>cur.sz) (λ(cur:WT)(n:Nat)=>n+cur.seen desc u=t.seen desc u/\cur.look desc u=t.look desc u/\cur.Ok) t 0 ?_ ?_ ?_
 ·grind
 ·refine wkn (fr 33 [(1,Bh (Fn.func (61:FuncId)) [] [Ae 0 0,Ae 1 0,Ae 2 0,Ae 3 0]),(4,iD 0),(5,iD 0),(6,AD (WT.d t))]) [tB1 desc t Ad,vB1 u,nB1 nl,bB1 Ad,An [bD desc,AD (WT.d t)] 57 0 Ad Ad Az] (zDj [(1,1),(5,1),(6,4)] (Bh (Fn.func (61:FuncId)) [] [Ae 0 0,Ae 1 0,Ae 2 0,Ae 3 0]=Bh (Fn.func (61:FuncId)) [] [Ae 0 0,Ae 1 0,Ae 2 0,Ae 3 0]/\iD 0=iD (↑(0:Nat):Int)/\WT.d t=WT.d t) 5 [] ⟨rfl,(by kernel_rfl),rfl⟩ ?_);exact keep5F
 rintro cur n ⟨k1,k2,k4⟩;cases cur with
 | nil=>
  simp only[WT.seen,WT.look]at k1 k2;rw[<-k2,<-k1];focus
   refine zA<|vAu<|vf<|vZ2<|vA ?_;refine veT<|zE ?_;refine zM (True) [Am<|AA Bm (n:Int)] (.inr rfl) ?_;rotate_left
  exact⟨by kernel_rfl,by kernel_rfl⟩
 | node v w l r=>
  obtain⟨o1,o2,o3⟩:=k4.node;have st:=wget1_c desc t u v w l r o3 (tB1 desc t Ad);have hc:=WT.cmp_vals desc u v;simp only[WT.seen,WT.look]at k1 k2;rw[WT.d_node];by_cases c1:WT.cmp desc u v<0
  ·rw[if_neg (by omega),decide_eq_false (by omega)]at st;rw[if_pos c1]at k1 k2;focus
    refine zA<|vAu<|vt<|vK<|zH<|vA<|ve (i6 (↑n+1))<|zA ?_;refine zB rfl<|vrT 2<|vnt [tB1 desc t Ad,vB1 u,nB1 nl,bB1 Ad,tB1 desc t Ad] ?_;refine zY [] [] [AM [iD<|AB v,iD<|AE v,Am<|AJ<|bs<|AH v,natD w,AD<|WT.d l,AD<|WT.d r,iD (↑(max (WT.ht l) (WT.ht r)+1):Int),iD ↑(WT.sz l+1+WT.sz r),natD (WT.tot l+w+WT.tot r)],Ae 0 0,Ae 1 0,Ae 2 0,Ae 3 0] [AM [iD<|AB v,iD<|AE v,Am<|AJ<|bs<|AH v,natD w,AD<|WT.d l,AD<|WT.d r,iD (↑(max (WT.ht l) (WT.ht r)+1):Int),iD ↑(WT.sz l+1+WT.sz r),natD (WT.tot l+w+WT.tot r)],Ae 0 0,Ae 1 0,Ae 2 0,Ae 3 0] (A3 _) (by exact st) ?_;refine v0s<|veT<|zH<|vAe<|vT (WT.cmp desc u v<0)<|zB rfl<|vr 5 (True/\0<5)<|vnil<|zD<|zD<|zC ?_;rotate_left
   refine⟨l,n+1,⟨by omega,k2,o1⟩,by simp only[WT.sz];omega,?_⟩;refine wkn (fr 33 [(1,Bh (Fn.func (61:FuncId)) [] [Ae 0 0,Ae 1 0,Ae 2 0,Ae 3 0]),(5,iD (↑n+1)),(6,AD (WT.d l)),(7,iD (WT.cmp desc u v)),(18,bD (decide (WT.cmp desc u v<0))),(21,AM [iD (AB v),iD (AE v),Am (AJ (bs (AH v))),natD w,AD (WT.d l),AD (WT.d r),iD (↑(max (WT.ht l) (WT.ht r)+1):Int),iD ↑(WT.sz l+1+WT.sz r),natD (WT.tot l+w+WT.tot r)]),(22,AM [iD (AB v),iD (AE v),Am (AJ (bs (AH v))),natD w,AD (WT.d l),AD (WT.d r),iD (↑(max (WT.ht l) (WT.ht r)+1):Int),iD ↑(WT.sz l+1+WT.sz r),natD (WT.tot l+w+WT.tot r)]),(23,AM [AD (WT.d l),AD (WT.d r),iD (↑(max (WT.ht l) (WT.ht r)+1):Int),iD ↑(WT.sz l+1+WT.sz r),natD (WT.tot l+w+WT.tot r)]),(24,AD (WT.d l))]) [(q21_ desc t),An [iD (AB u),iD (AE u),Am (AJ (bs (AH u)))] 64 0 Ad Ad Az,q22_,q23_,(q21_ desc t)] (zDj [(1,1),(5,1),(6,4)] (Bh (Fn.func (61:FuncId)) [] [Ae 0 0,Ae 1 0,Ae 2 0,Ae 3 0]=Bh (Fn.func (61:FuncId)) [] [Ae 0 0,Ae 1 0,Ae 2 0,Ae 3 0]/\iD (↑n+1)=iD ↑(n+1)/\WT.d l=WT.d l) 5 [] ⟨rfl,(by kernel_rfl),rfl⟩ ?_);all_goals exact keep5F
  by_cases c2:WT.cmp desc u v>0
  ·rw[if_neg (by omega),decide_eq_false (by omega)]at st;rw[if_neg c1,if_pos c2]at k1 k2;focus
    refine zA<|vAu<|vt<|vK<|zH<|vA<|ve (i6 (↑n+1))<|zA ?_;refine zB rfl<|vrT 2<|vnt [tB1 desc t Ad,vB1 u,nB1 nl,bB1 Ad,tB1 desc t Ad] ?_;refine zY [] [] [AM [iD<|AB v,iD<|AE v,Am<|AJ<|bs<|AH v,natD w,AD<|WT.d l,AD<|WT.d r,iD (↑(max (WT.ht l) (WT.ht r)+1):Int),iD ↑(WT.sz l+1+WT.sz r),natD (WT.tot l+w+WT.tot r)],Ae 0 0,Ae 1 0,Ae 2 0,Ae 3 0] [AM [iD<|AB v,iD<|AE v,Am<|AJ<|bs<|AH v,natD w,AD<|WT.d l,AD<|WT.d r,iD (↑(max (WT.ht l) (WT.ht r)+1):Int),iD ↑(WT.sz l+1+WT.sz r),natD (WT.tot l+w+WT.tot r)],Ae 0 0,Ae 1 0,Ae 2 0,Ae 3 0] (A3 _) (by exact st) ?_;refine v0s<|veT<|zH<|vAe<|vF (WT.cmp desc u v<0)<|vAe<|vT (WT.cmp desc u v>(0:Int))<|zB rfl<|vr 5 (True/\0<4)<|vnil ?_;refine zD<|zD<|zC ?_;rotate_left
   refine⟨r,n+1,⟨by omega,k2,o2⟩,by simp only[WT.sz];omega,?_⟩;refine wkn (fr 33 [(1,Bh (Fn.func (61:FuncId)) [] [Ae 0 0,Ae 1 0,Ae 2 0,Ae 3 0]),(5,iD (↑n+1)),(6,AD (WT.d r)),(25,bD (decide (WT.cmp desc u v>(0:Int)))),(28,AM [iD (AB v),iD (AE v),Am (AJ (bs (AH v))),natD w,AD (WT.d l),AD (WT.d r),iD (↑(max (WT.ht l) (WT.ht r)+1):Int),iD ↑(WT.sz l+1+WT.sz r),natD (WT.tot l+w+WT.tot r)]),(29,AM [iD (AB v),iD (AE v),Am (AJ (bs (AH v))),natD w,AD (WT.d l),AD (WT.d r),iD (↑(max (WT.ht l) (WT.ht r)+1):Int),iD ↑(WT.sz l+1+WT.sz r),natD (WT.tot l+w+WT.tot r)]),(30,AM [AD (WT.d r),iD (↑(max (WT.ht l) (WT.ht r)+1):Int),iD ↑(WT.sz l+1+WT.sz r),natD (WT.tot l+w+WT.tot r)]),(31,AD (WT.d r))]) [(q21_ desc t),An [iD (AB u),iD (AE u),Am (AJ (bs (AH u)))] 64 0 Ad Ad Az,q22_,q23_,(q21_ desc t)] (zDj [(1,1),(5,1),(6,4)] (Bh (Fn.func (61:FuncId)) [] [Ae 0 0,Ae 1 0,Ae 2 0,Ae 3 0]=Bh (Fn.func (61:FuncId)) [] [Ae 0 0,Ae 1 0,Ae 2 0,Ae 3 0]/\iD (↑n+1)=iD ↑(n+1)/\WT.d r=WT.d r) 5 [] ⟨rfl,(by kernel_rfl),rfl⟩ ?_);all_goals exact keep5F
  rw[if_pos (by omega),decide_eq_true (by omega)]at st;rw[if_neg c1,if_neg c2]at k1 k2;focus
   refine zA<|vAu<|vt<|vK<|zH<|vA<|ve (i6 (↑n+1))<|zA ?_;refine zB rfl<|vrT 2<|vnt [tB1 desc t Ad,vB1 u,nB1 nl,bB1 Ad,tB1 desc t Ad] ?_;refine zY [] [] [AM [iD<|AB v,iD<|AE v,Am<|AJ<|bs<|AH v,natD w,AD<|WT.d l,AD<|WT.d r,iD (↑(max (WT.ht l) (WT.ht r)+1):Int),iD ↑(WT.sz l+1+WT.sz r),natD (WT.tot l+w+WT.tot r)],Ae 0 0,Ae 1 0,Ae 2 0,Ae 3 0] [AM [iD<|AB v,iD<|AE v,Am<|AJ<|bs<|AH v,natD w,AD<|WT.d l,AD<|WT.d r,iD (↑(max (WT.ht l) (WT.ht r)+1):Int),iD ↑(WT.sz l+1+WT.sz r),natD (WT.tot l+w+WT.tot r)],Ae 0 0,Ae 1 0,Ae 2 0,Ae 3 0] (A3 _) (by exact st) ?_;refine v0s<|veT<|zH<|vAe<|vF (WT.cmp desc u v<0)<|vAe<|vF (WT.cmp desc u v>(0:Int))<|vAe ?_;refine zE<|zL<|zL<|zG<|zL<|zG ?_;refine zM (True) [Am<|AA Bm ((n:Int)+(1:Int))] (.inr rfl) ?_;rotate_left
  rw[<-k2,<-k1];exact⟨by kernel_rfl,by kernel_rfl⟩
abbrev q24_(x0:Bool)(x1:WT):=AI [bD x0,AD (WT.d x1)]
theorem wget_c(desc:Bool)(t:WT)(u:Va)(h:t.Ok):Pure AF 23 [zK4 desc t,vaD u] [] (.tup [natD ((t.look desc u).getD 0),bD (t.look desc u).isSome]):=by
 have hw:=zX2 desc t u h;rcases hl:t.look desc u with _|w
 ·rw[hl]at hw;refine zF Tg_ok mixed Tryz.func23 rfl ?_;focus
   refine vAu<|vAe<|vA<|ve (Ad=Ad/\Ab=Ab/\1=1/\1<=1)<|vA<|vr 2 (2<=2)<|vnt [(q21_ desc t),An [iD<|AB u,iD<|AE u,Am<|AJ<|bs<|AH u] 64 0 Ad Ad Az,q22_,q23_] ?_;refine zY [] [] [(q24_ desc t),Bh (Fn.func 61) [] [Ae 0 0,Ae 1 0,Ae 2 0,Ae 3 0]] [(q24_ desc t),Bh (Fn.func 61) [] [Ae 0 0,Ae 1 0,Ae 2 0,Ae 3 0]] (A3 _) (by exact hw) ?_;refine v0s<|veT<|zA<|vd [0,2,1,3]<|ve (0<1/\0<1)<|zE<|vret (True)<|.inr rfl
 rw[hl]at hw;refine zF Tg_ok mixed Tryz.func23 rfl ?_;focus
  refine vAu<|vAe<|vA<|ve (Ad=Ad/\Ab=Ab/\1=1/\1<=1)<|vA<|vr 2 (2<=2)<|vnt [(q21_ desc t),An [iD<|AB u,iD<|AE u,Am<|AJ<|bs<|AH u] 64 0 Ad Ad Az,q22_,q23_] ?_;refine zY [] [] [(q24_ desc t),Bh (Fn.func 61) [] [Ae 0 0,Ae 1 0,Ae 2 0,Ae 3 0]] [(q24_ desc t),Bh (Fn.func 61) [] [Ae 0 0,Ae 1 0,Ae 2 0,Ae 3 0]] (A3 _) (by exact hw) ?_;refine v0s<|veT<|zA<|vd [0,2,1,3]<|ve (0<1/\0<1)<|zE<|vret (True)<|.inr rfl
 all_goals rfl
theorem zEw{m n:Nat}{g:Nat->D}:blw m (fA n g)↔∀c,c<n->∀j,m<=j->refs j (g c)=false:=by
 have key:∀(l:List Nat)(j:Nat),zV j (l.map g)=Ad↔∀c∈l,refs j (g c)=false:=λl j=>by
  induction l<;>simp_all [zV,only,Bi,Cr,List.forall_mem_cons]
 constructor
 ·intro h c hc j hj;exact(key _ j).1 (h j hj) c (Cc.2 hc)
 intro h j hj;exact(key _ j).2 λc hc=>h c (Cc.1 hc) j hj
def redK(w:Rw->Nat)(cols:List Nat)(rows:List Rw):List Rw:=allK ((rows.filter λx=>decide (0<w x)).map λx=>zX x cols)
theorem redK_succ(w:Rw->Nat)(cols:List Nat)(rows:List Rw)(i:Nat)(h:i<rows.length):redK w cols (rows.take (i+1))=if 0<w (rows.getD i [])then addK (redK w cols (rows.take i)) (zX (rows.getD i []) cols)else redK w cols (rows.take i):=by
 unfold redK;rw[Bn h,List.filter_append,B7,AZ,AS h,BS];grind [only,allK]
abbrev mapB(K:List (List Va)):Bk:=⟨K.map λ_=>bD Ab,170,0,Ab,Ad, .map (K.map kyv)⟩
theorem mput_b(K:List (List Va))(r:List Va):mput (mapB K) (K.map kyv) (kyv r) (bD Ab)=mapB (addK K r):=by
 unfold mput addK;rw[zWr];cases e:K.findIdx? λs=>decide (r=s)with
 |none=>
  grind
 | some i=>
  rw[Cb]at e;obtain⟨h,h1,_⟩:=e;have:r∈K:=by
   grind
  rw[if_pos this];simp only[mapB];congr 1;apply Ct (by simp);grind
def Tre:Par:=⟨λf=>f==94||f==97,λ_ _=>AL,λk=>decide (k<8),λ_=>Ad,λ_=>Ad⟩
theorem Tre_ok:zA9 AF Tre:=by intro t n f h;cases h
theorem keep8{st:List Bk}(h:st.length=8):∀k,k<st.length->Tre.keep k=true:=λk hk=>by
 show decide (k<8)=Ab;rw[decide_eq_true_eq];omega
theorem zDh:∀k,8<=k->Tre.keep k=false:=λk hk=>by
 show decide (k<8)=Ad;rw[decide_eq_false_iff_not];omega
abbrev keyC(b:Bd)(v:Nat):List Nat:=zC3 (λu=>(b.L.getD v Af).k.testBit u) (b.R.getD v Af).1
abbrev chV(b:Bd)(v:Nat):List (Nat×List Nat):=chI b.L (b.R.getD v Af).1 v b.L.length
structure Bok(b:Bd)(v:Nat)(gv gt:Nat->D)(VT:Nat->List Rw)(TT:Nat->List (Rw×Nat)):Prop where
 n:b.n<=1000
 vn:v<b.n
 L:b.L.length=b.n
 R:b.R.length=b.n
 k:∀c∈b.L,c.k<4294967296
 V:(b.R.getD v Af).1.length<=1000
 V2:∀u∈(b.R.getD v Af).1,u<32
 r:∀x∈(b.R.getD v Af).2,x.length=(b.R.getD v Af).1.length/\∀u∈x,Vs u
 rl:(b.R.getD v Af).2.length<=65536
 hv:∀c∈chV b v,b.f<=c.1->gv c.1=zHe (VT c.1)
 ht:∀c∈chV b v,c.1<b.f->gt c.1=zGn (TT c.1)
 ne:∀c∈chV b v,c.1≠v
 S:∀x∈(b.R.getD v Af).2,∀i,i<=(chV b v).length->Sm (wtL b.f VT TT x ((chV b v).take i))
 S1:∀c∈chV b v,∀p∈TT c.1,Sm p.2
 gw:∀c,c<b.n->∀j,8<=j->refs j (gv c)=Ad
 tw:∀c,c<b.n->∀j,8<=j->refs j (gt c)=Ad
theorem zG3{L:List Bg}{V:List Nat}{v i:Nat}{c:Nat×List Nat}(h:c∈chI L V v i):c.1<i/\(L.getD c.1 Af).p=(v:Int)/\c.2=zC3 (λu=>(L.getD c.1 Af).k.testBit u) V:=by
 obtain⟨u,hu,rfl⟩:=A1.1 h;grind
theorem zMh(b:Bd)(v:Nat)(hv:v<b.R.length)(hl:b.L.length<=1000)(hV:(b.R.getD v Af).1.length<=1000)(hV2:∀u∈(b.R.getD v Af).1,u<32)(hk:∀c∈b.L,c.k<4294967296)(c5 c6 c7 c8:List D)(t8:TypeId)(ks:List Value)(h5:blw 9 c5)(h6:blw 9 c6):
  Acts AF 94 [.own 4 0,iD (v:Nat)] [blI b,blX,blG b,blE b,blB b,blV c5,blT c6,blU c7,blM t8 ks c8] [] (.osl 9 0 (chV b v).length ((chV b v).length*2) Ab)
   [blI b,blX,blG b,blE b,blB b,blV c5,blT c6,blU c7,blM t8 ks c8,chB (chV b v)]:=by simp_all [zYx]
abbrev q25_(x0:Bd)(x1:Nat):=Aj (nsD (Aw (Ax (Aq x0) x1 Af))) (Aa (Aw (Ax (Aq x0) x1 Af)))
abbrev q26_(x0:Bd):=An [iD ↑(Ag x0),iD ↑(Ai x0),(q17_ x0),(q18_ x0),(q19_ x0)] 31 0 Ad Ad Az
abbrev q27_:=An [nl,nl,nl,nl,nl] 46 0 Ad Ad Az
abbrev q28_(x0:Bd):=An [iD ↑(Ag x0),Au 3 0 (Aa (AK x0)) (Aa (AK x0)) Ab] 77 0 Ad Ad Az
abbrev q29_(x0:Bd):=An (Ao u32D (Bd.E x0)) 36 1 Ab Ab Az
abbrev q30_(x0:Bd):=An [iD ↑(Ag x0),iD ↑(Ai x0),(q17_ x0),(q18_ x0),(q19_ x0),(q16_ x0),(q15_ x0),Au 5 0 (Ag x0) (Ag x0) Ab,Au 6 0 (Ag x0) (Ag x0) Ab,Au 7 0 (Ai x0) (Ai x0) Ab] 120 0 Ad Ad Az
theorem reduce_c(b:Bd)(v:Nat)(gv gt:Nat->D)(VT:Nat->List Rw)(TT:Nat->List (Rw×Nat))(h:Bok b v gv gt VT TT)(c7:List D):
  Acts AF 51 [.own 4 0,iD (v:Nat)] [blI b,blX,blG b,blE b,blB b,blV (fA b.n gv),blT (fA b.n gt),blU c7] [] (.tup [])
   [blI b,blX,blG b,blE b,blB b,blV (fA b.n λc=>if c=v then zHe (redK (λx=>wtL b.f VT TT x (chV b v)) (keyC b v) (b.R.getD v Af).2)else gv c),blT (fA b.n gt),blU c7]:=by
 have hgv1:∀m,9<=m->blw m (fA b.n λc=>if c=v then .mref 8 else gv c):=λm hm=>zEw.2 λc hc j hj=>by
  split
  ·simp[refs];omega
  exact h.gw c hc j (by omega)
 have hgt1:∀m,9<=m->blw m (fA b.n gt):=λm hm=>zEw.2 λc hc j hj=>h.tw c hc j (by omega);have hch:=zMh b v (by rw[h.R];exact h.vn) (by rw[h.L];exact h.n) h.V h.V2 h.k (fA b.n λc=>if c=v then .mref 8 else gv c) (fA b.n gt) c7 [] 170 [] (hgv1 9 (AY _)) (hgt1 9 (AY _));have hset:(fA b.n gv).set v (.mref 8)=fA b.n λc=>if c=v then .mref 8 else gv c:=zEs
 have hac:∀a:List Nat×List Rw,(atR a).length=3:=λ_=>rfl;have hbc:∀a:Bg,(bgC a).length=3:=λ_=>rfl;have hvL:v<b.L.length:=by rw[h.L];exact h.vn
 have hvR:v<b.R.length:=by rw[h.R];exact h.vn
 have hav:(b.R.flatMap atR).drop (v*3)= .row (nsD (b.R.getD v Af).1) (b.R.getD v Af).1.length::iD ((b.R.getD v Af).1.length:Nat):: .row ((b.R.getD v Af).2.map rowV) (b.R.getD v Af).2.length::(b.R.drop (v+1)).flatMap atR:=zL4 hac b.R v hvR;have hne:=zDd hac (by decide) b.R (by omega);have hbat:=zL4 hbc b.L v hvL;have hbne:=zDd hbc (by decide) b.L (by omega);have hic:Pure AF 95 [.row (nsD (b.R.getD v Af).1) (b.R.getD v Af).1.length,u32D (b.L.getD v Af).k] [] (.row (nsD (keyC b v)) (keyC b v).length):=icols_c (b.R.getD v Af).1 _ rfl h.V h.V2 (b.L.getD v Af).k (h.k _ (by rw[AZ,AS hvL];exact A2 hvL));have hn:=h.n;have hvn:=h.vn;have hfl:(fA b.n gv).length=b.n:=zEt;refine Acts.post (T:=Tre) (x:= .tup []) (s:=[blI b,blX,blG b,blE b,blB b,blV (fA b.n λc=>if c=v then .mref 8 else gv c),blT (fA b.n gt),blU c7,mapB (redK (λx=>wtL b.f VT TT x (chV b v)) (keyC b v) (b.R.getD v Af).2),chfB ((chV b v).flatMap chC),⟨[],0,0,Ab,Ad, .plain⟩]) ?_ ?_ (keep8 rfl)
 ·refine zP Tre_ok mixed Tryz.func51 rfl (keep8 rfl) ?_;focus
   refine vAs<|vr 7 (True/\0<3/\True/\(0:Int)<=(v:Int)/\(v:Int)<↑(Ag b))<|vo 14 5 v<|vr 1 (A5 (blV<|fA (Ag b) gv)=Ad/\zD4 (AT 8)=Ab/\1=1/\v+1<=Aa (AO<|blV<|fA (Ag b) gv))<|vb 5 (An (setAt (AO<|blV<|fA (Ag b) gv) v<|cellsOf<|AT 8) (Br<|blV<|fA (Ag b) gv) (Bs<|blV<|fA (Ag b) gv) Ab Ad<|Bj<|blV<|fA (Ag b) gv) (An (fA (Ag b) λ(c:Nat)=>if c=v then AT 8 else gv c) (170:TypeId) 1 Ab Ad Ba) (by simp(disch:=omega) only[cellsOf,setAt,hset])<|veT<|zA ?_;refine zA6 [0,1,3,4,5,7,11,12,13,15,6,8,9,10,14,16,17,18] [(2,[(6,100000),(8,100000),(9,100000),(10,100000),(14,100000),(16,100000),(17,100000),(18,100000)],[19,20,21])] rfl ?_;refine vr 12 (True/\True/\0<4/\ix ↑v (Aa (Aq b):Int) (Ah atR (Aq b)≠[]))<|vs 23 (AM<|Ak (Ay (v:Int)*3)<|Ah atR<|Aq b) (AM (Aj (nsD<|Aw<|Ax (Aq b) v Af) (Aa<|Aw<|Ax (Aq b) v Af)::iD (↑(Aa<|Aw<|Ax (Aq b) v Af):Int)::Aj (Ao rowV<|AN<|Ax (Aq b) v Af) (Aa<|AN<|Ax (Aq b) v Af)::Ah atR (Ak (v+1)<|Aq b))) (by simp(disch:=omega) only[AU,hav])<|vr 4 (True/\0<Aa (Aj (nsD<|Aw<|Ax (Aq b) v Af) (Aa<|Aw<|Ax (Aq b) v Af)::iD (↑(Aa<|Aw<|Ax (Aq b) v Af):Int)::Aj (Ao rowV<|AN<|Ax (Aq b) v Af) (Aa<|AN<|Ax (Aq b) v Af)::Ah atR (Ak (v+1)<|Aq b))/\0<5/\ix ↑v (Aa (Ap b):Int) (Ah bgC (Ap b)≠[]))<|vs 31 (AM<|Ak (Ay (v:Int)*3)<|Ah bgC<|Ap b) (AM (iD (↑(Bg.v<|Ax (Ap b) v Af):Int)::u32D (Bg.k<|Ax (Ap b) v Af)::iD (Bb<|Ax (Ap b) v Af)::Ah bgC (Ak (v+1)<|Ap b))) (by simp(disch:=omega) only[AU,Cn,List.nil_append,hbat])<|vr 2 (True/\0<Aa (u32D (Bg.k<|Ax (Ap b) v Af)::iD (Bb<|Ax (Ap b) v Af)::Ah bgC (Ak (v+1)<|Ap b)))<|vnil<|zBy rfl rfl (by kernel_rfl)<|vnt [blI b,blX,blG b,blE b,blB b,An (fA (Ag b) λ(c:Nat)=>if c=v then AT 8 else gv c) (170:TypeId) 1 Ab Ad Ba,blT<|fA (Ag b) gt,blU c7,An [] 170 0 Ab Ad<|BG []] ?_;refine zY [] [] [Ae 4 0,iD v] [Ae 4 0,iD v] (A3 _) (by exact hch) ?_;refine vnil ?_;refine zE1 (C:=0<4/\AG ((q15_ b))=AG (Bt [(q15_ b),Au 5 0 (Ag b) (Ag b) Ab,Au 6 0 (Ag b) (Ag b) Ab,Au 7 0 (Ai b) (Ai b) Ab] Uk)/\ix ↑v (Aa (Aq b):Int) (Ah atR (Aq b)≠[])/\AG (AM ((q25_ b v)::iD (↑(Aa (Aw (Ax (Aq b) v Af))):Int)::Aj (Ao rowV (AN (Ax (Aq b) v Af))) (Aa (AN (Ax (Aq b) v Af)))::Ah atR (Ak (v+1) (Aq b))))=AG (AM (Ak (Ay (v:Int)*3) (Ah atR (Aq b))))/\True/\AG (AM ((q25_ b v)::iD (↑(Aa (Aw (Ax (Aq b) v Af))):Int)::Aj (Ao rowV (AN (Ax (Aq b) v Af))) (Aa (AN (Ax (Aq b) v Af)))::Ah atR (Ak (v+1) (Aq b))))=AG (AM (Ak 0 ((q25_ b v)::iD (↑(Aa (Aw (Ax (Aq b) v Af))):Int)::Aj (Ao rowV (AN (Ax (Aq b) v Af))) (Aa (AN (Ax (Aq b) v Af)))::Ah atR (Ak (v+1) (Aq b)))))/\0<Aa ((q25_ b v)::iD (↑(Aa (Aw (Ax (Aq b) v Af))):Int)::Aj (Ao rowV (AN (Ax (Aq b) v Af))) (Aa (AN (Ax (Aq b) v Af)))::Ah atR (Ak (v+1) (Aq b)))/\AG ((q25_ b v))=AG (Bt ((q25_ b v)::iD (↑(Aa (Aw (Ax (Aq b) v Af))):Int)::Aj (Ao rowV (AN (Ax (Aq b) v Af))) (Aa (AN (Ax (Aq b) v Af)))::Ah atR (Ak (v+1) (Aq b))) Uk)/\0<5/\AG ((q16_ b))=AG (Bt [(q16_ b),(q15_ b),Au 5 0 (Ag b) (Ag b) Ab,Au 6 0 (Ag b) (Ag b) Ab,Au 7 0 (Ai b) (Ai b) Ab] Uk)/\ix ↑v (Aa (Ap b):Int) (Ah bgC (Ap b)≠[])/\AG (AM (iD (↑(Bg.v (Ax (Ap b) v Af)):Int)::u32D (Bg.k (Ax (Ap b) v Af))::iD (Bb (Ax (Ap b) v Af))::Ah bgC (Ak (v+1) (Ap b))))=AG (AM (Ak (Ay (v:Int)*3) (Ah bgC (Ap b))))/\True/\AG (AM (u32D (Bg.k (Ax (Ap b) v Af))::iD (Bb (Ax (Ap b) v Af))::Ah bgC (Ak (v+1) (Ap b))))=AG (AM (Ak 1 (iD (↑(Bg.v (Ax (Ap b) v Af)):Int)::u32D (Bg.k (Ax (Ap b) v Af))::iD (Bb (Ax (Ap b) v Af))::Ah bgC (Ak (v+1) (Ap b)))))/\0<Aa (u32D (Bg.k (Ax (Ap b) v Af))::iD (Bb (Ax (Ap b) v Af))::Ah bgC (Ak (v+1) (Ap b)))/\AG (dig (Bg.k (Ax (Ap b) v Af)))=AG (Bt (u32D (Bg.k (Ax (Ap b) v Af))::iD (Bb (Ax (Ap b) v Af))::Ah bgC (Ak (v+1) (Ap b))) Uk)) ⟨(by omega),(by kernel_rfl),⟨(by omega),⟨(by omega),(by assumption)⟩⟩,?_,trivial,(by kernel_rfl),(lb (by kernel_rfl)),(by kernel_rfl),(by omega),(by kernel_rfl),⟨(by omega),⟨(by omega),(by assumption)⟩⟩,?_,trivial,(by kernel_rfl),(lb (by kernel_rfl)),(by kernel_rfl)⟩ ?_;rotate_left;rotate_left;refine v0s<|vc hic<|vrT 2<|vnil<|zBt<|zC<|vnn (fr 67 [(0,Ae 4 0),(1,iD v),(4,Au 9 0 (Aa<|chV b v) (Aa (chV b v)*2) Ab),(5,Aj (nsD<|keyC b v)<|Aa<|keyC b v),(15,Ae 4 0),(16,iD v),(17,Au 9 0 (Aa<|chV b v) (Aa (chV b v)*2) Ab),(18,Ae 4 0),(19,Ae 4 0),(20,Ae 4 6),(21,(q15_ b)),(22,iD v),(23,AM ((q25_ b v)::iD (↑(Aa<|Aw<|Ax (Aq b) v Af):Int)::Aj (Ao rowV<|AN<|Ax (Aq b) v Af) (Aa<|AN<|Ax (Aq b) v Af)::Ah atR (Ak (v+1)<|Aq b))),(24,AM ((q25_ b v)::iD (↑(Aa<|Aw<|Ax (Aq b) v Af):Int)::Aj (Ao rowV<|AN<|Ax (Aq b) v Af) (Aa<|AN<|Ax (Aq b) v Af)::Ah atR (Ak (v+1)<|Aq b))),(25,(q25_ b v)),(26,Ae 4 0),(27,Ae 4 0),(28,Ae 4 5),(29,(q16_ b)),(30,iD v),(31,AM (iD (↑(Bg.v<|Ax (Ap b) v Af):Int)::u32D (Bg.k<|Ax (Ap b) v Af)::iD (Bb<|Ax (Ap b) v Af)::Ah bgC (Ak (v+1)<|Ap b))),(32,AM (u32D (Bg.k<|Ax (Ap b) v Af)::iD (Bb<|Ax (Ap b) v Af)::Ah bgC (Ak (v+1)<|Ap b))),(33,dig<|Bg.k<|Ax (Ap b) v Af),(34,Aj (nsD<|keyC b v)<|Aa<|keyC b v)]) [(q26_ b),q27_,(q28_ b),(q29_ b),(q30_ b),An (fA (Ag b) λ(c:Nat)=>if c=v then AT 8 else gv c) 170 1 Ab Ad Ba,An (fA (Ag b) gt) 177 1 Ab Ad Ba,An c7 88 1 Ab Ad Az,An [] 170 0 Ab Ad<|BG [],An (Ah chC<|chV b v) 200 2 Ab Ad Az] ?_;rotate_left
  ·first|exact Eq.trans (b:=AG (AM (.row (nsD (b.R.getD v Af).1) (b.R.getD v Af).1.length::iD ((b.R.getD v Af).1.length:Nat):: .row ((b.R.getD v Af).2.map rowV) (b.R.getD v Af).2.length::(b.R.drop (v+1)).flatMap atR))) (by kernel_rfl) (congrArg (λl=>AG (AM l)) hav.symm)|exact Eq.trans (b:=AG (AM (bgC (b.L.getD v Af)++(b.L.drop (v+1)).flatMap bgC))) (by kernel_rfl) (congrArg (λl=>AG (AM l)) hbat.symm)
  ·first|exact Eq.trans (b:=AG (AM (.row (nsD (b.R.getD v Af).1) (b.R.getD v Af).1.length::iD ((b.R.getD v Af).1.length:Nat):: .row ((b.R.getD v Af).2.map rowV) (b.R.getD v Af).2.length::(b.R.drop (v+1)).flatMap atR))) (by kernel_rfl) (congrArg (λl=>AG (AM l)) hav.symm)|exact Eq.trans (b:=AG (AM (bgC (b.L.getD v Af)++(b.L.drop (v+1)).flatMap bgC))) (by kernel_rfl) (congrArg (λl=>AG (AM l)) hbat.symm)
  have hf:frz Ab [blI b,blX,blG b,blE b,blB b,blV (fA b.n λc=>if c=v then .mref 8 else gv c),blT (fA b.n gt),blU c7,blM 170 [] [],chB (chV b v)] zAc (.osl 9 0 (chV b v).length ((chV b v).length*2) Ab)=AG (.row ((chV b v).flatMap chC) (chV b v).length,[9]):=by
   rw[show zAc=8+1 from rfl,zJn (e:=chB (chV b v)) rfl rfl rfl];simp_all [D,chV,chC,Bf,zNm]
  refine zB7 ((Weak.frzSlot (s:=4) (by kernel_rfl) hf).trans<|Weak.phant ⟨[],0,0,Ab,Ad,.plain⟩) ?_;have hro:=zS1 ((b.R.getD v Af).1.length:Nat) (b.R.getD v Af).2 h.rl (λr hr=>by rw[(h.r r hr).1];have:=h.V;omega);have hrw:=h.r;have hS:=h.S;have hcl:∀c∈chV b v,c.2.length<=1000/\∀j∈c.2,j<(b.R.getD v Af).1.length:=λc hc=>by
   obtain⟨_,_,e⟩:=zG3 hc;rw[e];refine⟨A0 (BT _ _) ?_,zJs _ _⟩;rw[BU];exact h.V
  have hcl2:(keyC b v).length<=1000:=A0 (BT _ _) (by rw[BU];exact h.V);have hkl:∀c∈keyC b v,c<(b.R.getD v Af).1.length:=zJs (λu=>(b.L.getD v Af).k.testBit u) (b.R.getD v Af).1;have hchl:(chV b v).length<=1000:=A0 (zT3 _ _ _ _) (by rw[h.L];exact h.n);have hV:=h.V;have hchn:∀c∈chV b v,c.1<b.n:=λc hc=>by rw[<-h.L];exact(zG3 hc).1
  have hrl:=h.rl;have hhv:=h.hv;have hht:=h.ht;have hne2:=h.ne;have hS1:=h.S1;focus
   refine vAs<|vr 6 (True/\0<4/\ix ↑v (Aa (Aq b):Int) (Ah atR (Aq b)≠[]))<|vs 40 (AM<|Ak (Ay (v:Int)*3)<|Ah atR<|Aq b) (AM (Aj (nsD<|Aw<|Ax (Aq b) v Af) (Aa<|Aw<|Ax (Aq b) v Af)::iD (↑(Aa<|Aw<|Ax (Aq b) v Af):Int)::Aj (Ao rowV<|AN<|Ax (Aq b) v Af) (Aa<|AN<|Ax (Aq b) v Af)::Ah atR (Ak (v+1)<|Aq b))) (by simp(disch:=omega) only[AU,hav])<|vr 2 (True/\2<=Aa (iD (↑(Aa<|Aw<|Ax (Aq b) v Af):Int)::Aj (Ao rowV<|AN<|Ax (Aq b) v Af) (Aa<|AN<|Ax (Aq b) v Af)::Ah atR (Ak (v+1)<|Aq b)))<|vc hro<|veT<|zH ?_;rotate_left
  generalize hRv:(b.R.getD v Af).2=rows at*;generalize hCv:chV b v=ch at*;generalize hKv:keyC b v=cols at*;refine zK (λ(i:Nat)=>fr 67 [(0,Ae 4 0),(1,iD v),(4,(q20_ ch)),(5,(q5_ cols)),(43,Aj (Ao rowV rows)<|Aa rows),(44,iD<|Aa rows),(45,iD i)]) (λ(i:Nat)=>[blI b,blX,blG b,blE b,blB b,blV (fA b.n λc=>if c=v then .mref 8 else gv c),blT<|fA b.n gt,blU c7,mapB<|redK (λx=>wtL b.f VT TT x ch) cols<|rows.take i,chfB<|ch.flatMap chC,(⟨[],0,0,Ab,Ad,.plain⟩:Bk)]) (λ(i:Nat)=>rows.length-i) (λ(i:Nat)=>i<=rows.length) 0 ?_ ?_ ?_
  ·omega
  ·refine vk 11 ?_;grind [zDh]
  intro i h1;rcases AW i rows.length with h3|h3
  ·have hhd:=zBc rowV rows [] i h3;have hmne:rows.map rowV≠[]:=zAm (by omega);have hmem:rows.getD i []∈rows:=by rw[AZ,AS h3];exact A2 h3
   obtain⟨r1,r2⟩:=hrw _ hmem;have hsx:=hS _ hmem;have hsu:=redK_succ (λx=>wtL b.f VT TT x ch) cols rows i h3;generalize rows.getD i []=x at*;generalize hKg:redK (λx=>wtL b.f VT TT x ch) cols (rows.take i)=K at*;have hwt:=zVh b x ch (λc=>if c=v then .mref 8 else gv c) gt VT TT (by omega) r2 hchl (λc hc=>⟨hchn c hc,by rw[r1];exact hcl c hc⟩) (λc hc hf=>by rw[if_neg (hne2 c hc)];exact hhv c hc hf) hht hsx hS1 c7 (K.map λ_=>bD Ab) (ch.flatMap chC) [] 170 0 0 (K.map kyv) (hgv1 11 (by omega)) (hgt1 11 (by omega));have hpk:=pick_c x cols _ _ rfl rfl (by omega) (by omega) (λc hc=>by rw[r1];exact hkl c hc);have hpl:(zX x cols).length=cols.length:=by simp[zX]
   have hid:=zC1 (zX x cols) cols.length hpl (by omega) (zPg x cols r2);generalize wtL b.f VT TT x ch=w at*;have hmp:=mput_b K (zX x cols);have hget:((fA b.n λc=>if c=v then .mref 8 else gv c).drop v).headD .unk= .mref 8:=by rw[zEd hvn];exact if_pos rfl
   have hps:=zCa (g:=λc=>if c=v then .mref 8 else gv c) hvn;rcases Cd w with hw|hw
   ·have hdl:dg w=[]:=by subst hw;simp[dg]
    rw[if_neg (by omega)]at hsu;focus
     refine vAu<|zA<|vT ((i:Int)<↑(Aa rows))<|vKB<|vA<|vr 1 (ix ↑i ↑(Aa rows) (Ao rowV rows≠[])) ?_;refine vp 47 i (Ao rowV rows)<|vr 1 (0<Aa (Ak i<|Ao rowV rows))<|vsh 48 hhd<|veT<|vA<|vrT 3<|vnt [blI b,blX,blG b,blE b,blB b,blV (fA (Ag b) λ(c:Nat)=>if c=v then AT 8 else gv c),blT<|fA (Ag b) gt,blU c7,mapB K,chfB<|Ah chC ch,An [] (0:TypeId) 0 Ab Ad Az] ?_;refine zY [] [] [Ae 4 0,(q20_ ch),(q3_ x)] [Ae 4 0,(q20_ ch),(q3_ x)] (A3 _) (by exact hwt) ?_;refine v0s<|veT<|zEv (t:=decide ((Aa (dg w):Int)>(0:Int))) (by kernel_rfl) (by simpa using by omega)<|zQ<|zD<|vN<|zB rfl<|vr 2 (i6 (↑i+1))<|vnil<|zC ?_;rotate_left
    refine⟨i+1,by omega,by omega,?_⟩;rw[hsu];refine vk 11 ?_;grind [zDh]
   have hdl:=zXg hw;rw[if_pos hw]at hsu;focus
    refine vAu (zA (vT ((i:Int)<↑(Aa rows)) (vKB (vA (vr 1 (ix ↑i ↑(Aa rows) (Ao rowV rows≠[])) ?_)))));refine vp 47 i (Ao rowV rows) (vr 1 (0<Aa (Ak i (Ao rowV rows))) (vsh 48 hhd (veT (vA (vrT 3 (vnt [blI b,blX,blG b,blE b,blB b,blV (fA (Ag b) λ(c:Nat)=>if c=v then AT 8 else gv c),blT (fA (Ag b) gt),blU c7,mapB K,chfB (Ah chC ch),An [] (0:TypeId) 0 Ab Ad Az] ?_))))));refine zY [] [] [Ae 4 0,(q20_ ch),(q3_ x)] [Ae 4 0,(q20_ ch),(q3_ x)] (A3 _) (by exact hwt) ?_;refine v0s (veT (vT ((Aa (dg w):Int)>(0:Int)) (vd [0,1,2,4,7,8,3,5,6,9,10,11] (vr 8 (True/\0<3/\(0:Int)<=(v:Int)/\(v:Int)<↑(Ag b)) (vo 60 5 v (vr 1 (0<Aa (Ak v (fA (Ag b) λ(c:Nat)=>if c=v then AT 8 else gv c))) (vsh 61 hget (vc hpk (vc hid (vr 1 (Ad=Ad/\zW (A8 (A9 A_ "string" 1 16 Ab 8 8 (AG (AJ (A4 #[]))) Ab #[])) (AJ (bs (idR (zX x cols))))=Ab/\Bq (Ao kyv K) (zW (A8 (A9 A_ "string" 1 16 Ab 8 8 (AG (AJ (A4 #[]))) Ab #[])))=Ab/\¬8∈[]) (vb 8 (mput (An (Ao (λ(x:Rw)=>bD Ab) K) 170 0 Ab Ad (BG (Ao kyv K))) (Ao kyv K) (AJ (bs (idR (zX x cols)))) (bD Ab)) (mapB (addK K (zX x cols))) (by simp(disch:=omega) only[hmp]) (vnil (zD ?_))) ⟨(by kernel_rfl),⟨(by kernel_rfl),⟨(by exact zTp _),(by decide)⟩⟩⟩))))))))));refine vN (zB rfl (vr 2 (i6 (↑i+1)) (vnil (zC ?_))));rotate_left
   refine⟨i+1,by omega,by omega,?_⟩;rw[hsu];refine vk 11 ?_;grind [zDh]
  obtain rfl:i=rows.length:=by omega
  rw[Bc];focus
   refine vAu<|zA<|vF ((Aa rows:Int)<↑(Aa rows))<|vY2 ?_;refine zM (True) [] (.inl rfl) ?_;rotate_left
  exact⟨by kernel_rfl,by kernel_rfl⟩
 generalize redK (λx=>wtL b.f VT TT x (chV b v)) (keyC b v) (b.R.getD v Af).2=K;have e2:(fA b.n λc=>if c=v then .mref 8 else gv c).set v (zHe K)=fA b.n λc=>if c=v then zHe K else gv c:=by
  simp_all [zEs,zB1]
 have hw:=BV (T:=Tre) (sl:=[D.tup []]) (st:=[blI b,blX,blG b,blE b,blB b,blV (fA b.n λc=>if c=v then .mref 8 else gv c),blT (fA b.n gt),blU c7,mapB K,chfB ((chV b v).flatMap chC),⟨[],0,0,Ab,Ad, .plain⟩]) (j:=5) (i:=v) (d:= .mref 8) (x:=zHe K) (ks:=[8]) rfl rfl rfl (by rw[zXf hvn];exact congrArg AG (if_pos rfl)) rfl (by decide);refine hw.trans ?_;show Weak Tre _ ([blI b,blX,blG b,blE b,blB b,blV ((fA b.n λc=>if c=v then .mref 8 else gv c).set v (zHe K)),blT (fA b.n gt),blU c7]++[{mapB K with fz:=Ab},chfB ((chV b v).flatMap chC),⟨[],0,0,Ab,Ad, .plain⟩]) _ _;rw[e2];refine zHc (N:=8) rfl (zG5 (AY _) (zEw.2 λc hc j hj=>?_) (zEw.2 h.tw) (by simp)) (by intro j hj;cases hj) zDh;split
 ·rfl
 exact h.gw c hc j hj
structure Bu where
 key:List Va
 desc:Bool
 t:WT
instance : Inhabited WT := ⟨.nil⟩
instance : Inhabited Bu := ⟨⟨[], Ad, .nil⟩⟩
abbrev buC(b:Bu):List D:=[.row (zJ b.key) b.key.length,bD b.desc,b.t.x]
abbrev busD(l:List Bu):D:= .row (l.flatMap buC) l.length
theorem zCd(b:Bu):(buC b).length=3:=rfl
abbrev buB(l:List Bu):Bk:=⟨l.flatMap buC,91,3,Ab,Ad, .plain⟩
def Bu.Ok(b:Bu):Prop:=b.key.length<=10000/\∀v∈b.key,Vs v
set_option maxHeartbeats 2000000 in
theorem copies_c(l:List Bu)(n:Nat)(hn:l.length=n)(hl:n<=1000000)(hk:∀b∈l,b.key.length<=10000):Pure AF 74 [.row (l.flatMap buC) n] [] (.row (l.flatMap buC) n):=by
 subst hn;refine zF zBj mixed Tryz.func74 rfl ?_;focus
  refine vAu<|vAe<|zA<|vAe<|zH ?_;rotate_left
 refine zK (λ(i:Nat)=>fr 23 [(2,nl),(3,Au 0 0 i (i*3) Ab),(6,Aj (Ah buC l)<|Aa l),(7,iD<|Aa l),(8,iD i)]) (λi=>[buB<|l.take i]) (λi=>l.length-i) (λi=>i<=l.length) 0 ?_ ?_ ?_
 ·omega
 ·refine vk 0
 rintro i h1;rcases AW i l.length with hi|hi
 ·have e1:=zEg l i hi;have hb:(l.getD i Af).key.length<=10000:=by rw[AZ,AS hi];exact hk _ (A2 _)
  have e0:=zCv zCd l i hi;obtain⟨b,eb⟩:∃b,b=l.getD i default:=⟨_,rfl⟩;rw[<-eb]at e1 hb e0;have e2:=zXd (g:=buC) (l.take i) b;have e3:=zDi zCd (l.take i);have e4:(l.take i).length=i:=by simp;omega
  have e5:=zAy b.key;rw[e4]at e3;focus
   refine vAu<|zA<|vT ((i:Int)<↑(Aa l))<|vKB<|vA<|vr 2 (ix ↑i ↑(Aa l) (Ah buC l≠[])/\3<=Aa (Ak (i*3)<|Ah buC l)) ?_ ⟨⟨(by omega),⟨(by omega),(by exact zDd zCd (by decide) _ (by omega))⟩⟩,(by exact zEr zCd _ _ (by omega))⟩;refine vs 11 (AI<|As 3<|Ak (i*3)<|Ah buC l) (AI<|buC b) (by simp(disch:=omega) only[e0])<|ve (Ad=Ad/\Ab=Ab/\3=3/\3<=3)<|vd [0,1,4,2,3,5,6,7,8,9]<|vr 4 (True/\True/\0<3)<|vc (zF7 (zJ b.key) _ e5 (by omega))<|vr 4 (2<=2/\((1=1/\1<=3/\2=2/\3<=3/\True)/\Ab=Ab)/\((3=3/\3<=3/\True)/\0<3/\3=3/\3<=16777216/\1<=9223372036854775807)/\Bk.arr (buB<|As i l)=Ab/\Aa (AO<|buB<|As i l)=i*3/\i*3=i*3/\Br (buB<|As i l)=91/\Bs (buB<|As i l)=3/\3=3/\0<3/\0<40/\91=91/\(i+1)*40<=140737488355328/\3=3/\Bx (Bj<|buB<|As i l)=Ad/\(Ad=Ad\/By (Bj<|buB<|As i l)=Ab))<|vb 0 (An (AO (buB<|As i l)++[Aj (zJ<|Bu.key b)<|Aa<|Bu.key b,bD<|Bu.desc b,AD<|WT.d<|Bu.t b]) (Br<|buB<|As i l) (Bs<|buB<|As i l) Ab Ad<|Bj<|buB<|As i l) (An (Ah buC (As i l++[b])) (91:TypeId) 3 Ab Ad Az) (by simp(disch:=omega) only[zXd])<|vrT 1<|vnil<|zD<|vN<|zB rfl<|vr 2 (i6 (↑i+1)) ?_;refine vnil<|zC ?_;rotate_left
  refine⟨i+1,by omega,by omega,?_⟩;rw[e1];refine vk 1
 have e:i=l.length:=by omega
 subst e;rw[Bc];focus
  refine vAu<|zA<|vF ((Aa l:Int)<↑(Aa l))<|vZ2<|vA ?_;refine veT<|zE ?_;refine zCc (True) (Aj (As (Aa l*3)<|Ak 0<|AO<|buB l)<|Aa l) (Aj (Ah buC l)<|Aa l) (.inr rfl) trivial (by simp(disch:=omega) only[Bf,zNm zCd]) rfl
theorem free_c(desc:List Bool)(n:Nat)(hn:desc.length=n)(b c p:List D)(bn cn pn:Nat)(tot:Nat)(v:Int)(hl:n<=1000000):Pure AF 58 [.agg [.row (desc.map bD) n, .row b bn, .row c cn, .row p pn,natD tot],iD v] [] (bD (decide (0<=v)&&decide (v<(n:Int)))):=by
 subst hn;refine zF zBj mixed Tryz.func58 rfl ?_;by_cases h0:0<=v
 ·rw[decide_eq_true h0];refine vAu<|vA<|vew [] [(2,Ab)] (decide (v>=(0:Int))=Ab/\True/\0<5)<|zE<|vret (True)<|.inr rfl
 rw[decide_eq_false h0];refine vAu<|vA<|vew [] [(2,Ad)] (decide (v>=(0:Int))=Ad)<|zE<|vret (True)<|.inr rfl
end
def gAdd(desc:Bool)(l:List Bu)(k:List Va)(v:Va)(w:Nat):List Bu:=match l.getLast? with
 |some b=>if b.key=k then l.dropLast++[⟨b.key,desc,b.t.put desc v w⟩]else l++[⟨k,desc,WT.nil.put desc v w⟩]
 |none=>[⟨k,desc,WT.nil.put desc v w⟩]
theorem zP0(desc:Bool)(k:List Va)(v:Va)(w:Nat):gAdd desc [] k v w=[⟨k,desc,WT.nil.put desc v w⟩]:=rfl
theorem zTl(desc:Bool)(m:List Bu)(b:Bu)(k:List Va)(v:Va)(w:Nat)(h:b.key=k):gAdd desc (m++[b]) k v w=m++[⟨b.key,desc,b.t.put desc v w⟩]:=by
 grind [gAdd,List.getLast?_concat,only,List.dropLast_concat]
theorem zTk(desc:Bool)(m:List Bu)(b:Bu)(k:List Va)(v:Va)(w:Nat)(h:b.key≠k):gAdd desc (m++[b]) k v w=m++[b]++[⟨k,desc,WT.nil.put desc v w⟩]:=by
 grind [gAdd,List.getLast?_concat,only]
abbrev kyX(x:List Va):List Va:=x.take (x.length-1)
abbrev vaX(x:List Va):Va:=x.getD (x.length-1) Af
def grpL(desc:Bool)(w:List Va->Nat)(rows:List (List Va)):List Bu:=rows.foldl (λl x=>if 0<w x then gAdd desc l (kyX x) (vaX x) (w x)else l) []
theorem zRq(desc:Bool)(w:List Va->Nat)(rows:List (List Va))(x:List Va):grpL desc w (rows++[x])=if 0<w x then gAdd desc (grpL desc w rows) (kyX x) (vaX x) (w x)else grpL desc w rows:=by
 grind [grpL]
theorem grpL_succ(desc:Bool)(w:List Va->Nat)(rows:List (List Va))(i:Nat)(h:i<rows.length):grpL desc w (rows.take (i+1))=if 0<w (rows.getD i [])then gAdd desc (grpL desc w (rows.take i)) (kyX (rows.getD i [])) (vaX (rows.getD i [])) (w (rows.getD i []))else grpL desc w (rows.take i):=by
 grind [Bn,zRq,AS]
structure Gok(desc:Bool)(n s:Nat)(Q:List Va->Prop)(b:Bu):Prop where
 d:b.desc=desc
 q:Q b.key
 n:b.t.sz<=n
 s:b.t.tot<=s
theorem Gok.mono{desc:Bool}{n s n' s':Nat}{Q:List Va->Prop}{b:Bu}(h:Gok desc n s Q b)(h1:n<=n')(h2:s<=s'):Gok desc n' s' Q b:=⟨h.d,h.q,A0 h.n h1,A0 h.s h2⟩
theorem gAdd_ok{desc:Bool}{n s:Nat}{Q:List Va->Prop}{l:List Bu}{k:List Va}{v:Va}{w:Nat}(h:∀b∈l,Gok desc n s Q b)(hq:Q k):∀b∈gAdd desc l k v w,Gok desc (n+1) (s+w) Q b:=by
 have hp:=λt=>WT.put_le desc v w t;have hnew:Gok desc (n+1) (s+w) Q ⟨k,desc,WT.nil.put desc v w⟩:=⟨rfl,hq,by have:=(hp .nil).1;simp only[WT.sz]at this;show(WT.nil.put desc v w).sz<=_;omega,by have:=(hp .nil).2;simp only[WT.tot]at this;show(WT.nil.put desc v w).tot<=_;omega⟩;rcases Cu l with rfl|⟨m,b0,rfl⟩
 ·grind [zP0,BE]
 rw[Cv]at*;by_cases e:b0.key=k
 ·rw[zTl _ _ _ _ _ _ e];intro b hb;rcases Cx.1 hb with hb|hb
  ·exact(h b (List.mem_append_left _ hb)).mono (by omega) (by omega)
  rw[BE]at hb;subst hb;have h0:=h b0 (by simp);have h1:=hp b0.t;exact⟨rfl,h0.q,A0 h1.1 (by have:=h0.n;omega),A0 h1.2 (by have:=h0.s;omega)⟩
 rw[zTk _ _ _ _ _ _ e];intro b hb;rcases Cx.1 hb with hb|hb
 ·exact(h b hb).mono (by omega) (by omega)
 grind
theorem gAdd_len{desc:Bool}{l:List Bu}{k:List Va}{v:Va}{w:Nat}:(gAdd desc l k v w).length<=l.length+1:=by
 rcases Cu l with rfl|⟨m,b0,rfl⟩
 ·simp[zP0]
 rw[Cv];by_cases e:b0.key=k;all_goals grind [zTl,zTk]
def sumW(w:List Va->Nat)(rows:List (List Va)):Nat:=(rows.map w).sum
theorem zZp(w:List Va->Nat)(rows:List (List Va))(x:List Va):sumW w (rows++[x])=sumW w rows+w x:=by simp[sumW]
theorem zTj{desc:Bool}{w:List Va->Nat}{Q:List Va->Prop}(rows:List (List Va))(hq:∀x∈rows,Q (kyX x)):(grpL desc w rows).length<=rows.length/\∀b∈grpL desc w rows,Gok desc rows.length (sumW w rows) Q b:=by
 have key:∀(r l:List (List Va)),(∀x∈l,Q (kyX x))->l.reverse=r->(grpL desc w l).length<=l.length/\∀b∈grpL desc w l,Gok desc l.length (sumW w l) Q b:=by
  intro r;induction r with
  |nil=>
   intro l _ e;obtain rfl:l=[]:=by simpa using e
   exact⟨AY _,λb hb=>by cases hb⟩
  |cons x r ih=>
   intro l hl e;obtain rfl:l=r.reverse++[x]:=by rw[<-List.reverse_reverse l,e,List.reverse_cons]
   obtain⟨i1,i2⟩:=ih r.reverse (λy hy=>hl y (List.mem_append_left _ hy)) (List.reverse_reverse r);rw[zRq,Bw,zZp];split
   ·exact⟨A0 gAdd_len (by simpa using i1),gAdd_ok i2 (hl x (by simp))⟩
   exact⟨A0 i1 (by simp),λb hb=>(i2 b hb).mono (by simp) (by omega)⟩
 exact key _ rows hq rfl
theorem zZo(w:List Va->Nat)(rows:List (List Va))(i:Nat)(h:i<rows.length):sumW w (rows.take i)+w (rows.getD i [])<=sumW w rows:=by
 grind [AS,List.drop_eq_getElem_cons,Cy,only,sumW]
def tput(K:List (List Va×Nat))(r:List Va)(w:Nat):List (List Va×Nat):=match K.findIdx? λp=>decide (r=p.1)with
 |some i=>K.set i (r,w)
 |none=>K++[(r,w)]
def totL(l:List Bu):List (List Va×Nat):=l.foldl (λK b=>tput K b.key b.t.tot) []
theorem zZj(l:List Bu)(i:Nat)(h:i<l.length):totL (l.take (i+1))=tput (totL (l.take i)) (l.getD i Af).key (l.getD i Af).t.tot:=by
 grind [totL,Bn,AS]
theorem zWq(K:List (List Va×Nat))(r:List Va):zEm (K.map λp=>kyv p.1) (kyv r)=K.findIdx? λp=>decide (r=p.1):=by
 unfold zEm;rw[List.findIdx?_map];congr 1;funext s;exact zVm r s.1
section
attribute [local irreducible] seqW awp zAf zAn zAd Weak updS zAv retL Pure Acts rP setP setQ cP nP fr
set_option maxRecDepth 4096
abbrev mapT(K:List (List Va×Nat)):Bk:=⟨K.map λp=>natD p.2,177,0,Ab,Ad, .map (K.map λp=>kyv p.1)⟩
theorem mput_t(K:List (List Va×Nat))(r:List Va)(w:Nat):mput (mapT K) (K.map λp=>kyv p.1) (kyv r) (natD w)=mapT (tput K r w):=by
 unfold mput tput;rw[zWq];cases e:K.findIdx? λs=>decide (r=s.1)with
 |none=>simp
 | some i=>
  rw[Cb]at e;obtain⟨h,h1,_⟩:=e;have hr:r=K[i].1:=by simpa using h1
  have e1:(K.map λp=>natD p.2).set i (natD w)=(K.set i (r,w)).map λp=>natD p.2:=by rw[Ce]
  have e2:(K.set i (r,w)).map (λp=>kyv p.1)=K.map λp=>kyv p.1:=by
   rw[Ce];apply Cf;grind
  simp only[mapT,e1,e2]
theorem cellsX{x:List Va}(h:0<x.length):(zJ x).take ((x.length-1)*3)=zJ (kyX x):=by
 have e:x=kyX x++x.drop (x.length-1):=(Cy _ _).symm;conv=>lhs;rw[e,zJu]
 have hl:(zJ (kyX x)).length=(x.length-1)*3:=by rw[zAy,Cz];omega
 grind
abbrev q31_:=An [] 177 0 Ab Ad (BG [])
abbrev q32_(x0:Bd)(x1:Nat->D):=An (fA (Ag x0) x1) 170 1 Ab Ad Ba
abbrev q33_(x0:Bd)(x1:Nat->D):=An (fA (Ai x0) x1) 88 1 Ab Ad Az
abbrev q34_(x0:List (Nat×List Nat)):=An (Ah chC x0) 200 2 Ab Ab Az
abbrev q35_(x0:List Va):=Aj (zJ (kyX x0)) (Aa x0-1)
abbrev q36_(x0:Bu):=Aj (zJ (Bu.key x0)) (Aa (Bu.key x0))
set_option maxHeartbeats 4000000 in
theorem group_c(b:Bd)(v:Nat)(gv gt gu:Nat->D)(VT:Nat->List Rw)(TT:Nat->List (Rw×Nat))(h:Bok b v gv gt VT TT)(hvf:v<b.f)(hdl:b.desc.length=b.f)(hV1:0<(b.R.getD v Af).1.length)(hok:∀x∈(b.R.getD v Af).2,x.all vok=Ab)(hsum:Sm (sumW (λx=>wtL b.f VT TT x (chV b v)) (b.R.getD v Af).2)):
  Acts AF 52 [.own 4 0,iD (v:Nat)] [blI b,blX,blG b,blE b,blB b,blV (fA b.n gv),blT (fA b.n gt),blU (fA b.f gu)] [] (iD 0)
   [blI b,blX,blG b,blE b,blB b,blV (fA b.n gv),blT (fA b.n λc=>if c=v then zGn (totL (grpL (b.desc.getD v Ad) (λx=>wtL b.f VT TT x (chV b v)) (b.R.getD v Af).2))else gt c),blU (fA b.f λc=>if c=v then busD (grpL (b.desc.getD v Ad) (λx=>wtL b.f VT TT x (chV b v)) (b.R.getD v Af).2)else gu c)]:=by
 have hgt1:∀m,9<=m->blw m (fA b.n λc=>if c=v then .mref 8 else gt c):=λm hm=>zEw.2 λc hc j hj=>by
  split
  ·simp[refs];omega
  exact h.tw c hc j (by omega)
 have hgv1:∀m,9<=m->blw m (fA b.n gv):=λm hm=>zEw.2 λc hc j hj=>h.gw c hc j (by omega);have hch:=zMh b v (by rw[h.R];exact h.vn) (by rw[h.L];exact h.n) h.V h.V2 h.k (fA b.n gv) (fA b.n λc=>if c=v then .mref 8 else gt c) (fA b.f gu) [] 177 [] (hgv1 9 (AY _)) (hgt1 9 (AY _));have hset:(fA b.n gt).set v (.mref 8)=fA b.n λc=>if c=v then .mref 8 else gt c:=zEs
 have hac:∀a:List Nat×List Rw,(atR a).length=3:=λ_=>rfl;have hvR:v<b.R.length:=by rw[h.R];exact h.vn
 have hav:(b.R.flatMap atR).drop (v*3)= .row (nsD (b.R.getD v Af).1) (b.R.getD v Af).1.length::iD ((b.R.getD v Af).1.length:Nat):: .row ((b.R.getD v Af).2.map rowV) (b.R.getD v Af).2.length::(b.R.drop (v+1)).flatMap atR:=zL4 hac b.R v hvR;have hne:=zDd hac (by decide) b.R (by omega);have hdes:=zBc (λx:Bool=>bD x) b.desc Ad v (by omega);have hdne:b.desc.map (λx:Bool=>bD x)≠[]:=zAm (by omega);have hn:=h.n;have hvn:=h.vn;have hfl:(fA b.n gt).length=b.n:=zEt;refine Acts.post (T:=Tre) (x:=iD 0) (s:=[blI b,blX,blG b,blE b,blB b,blV (fA b.n gv),blT (fA b.n λc=>if c=v then .mref 8 else gt c),blU (fA b.f λc=>if c=v then busD (grpL (b.desc.getD v Ad) (λx=>wtL b.f VT TT x (chV b v)) (b.R.getD v Af).2)else gu c),mapT (totL (grpL (b.desc.getD v Ad) (λx=>wtL b.f VT TT x (chV b v)) (b.R.getD v Af).2)),chfB ((chV b v).flatMap chC),{buB (grpL (b.desc.getD v Ad) (λx=>wtL b.f VT TT x (chV b v)) (b.R.getD v Af).2)with fz:=Ab}]) ?_ ?_ (keep8 rfl)
 ·refine zP Tre_ok mixed Tryz.func52 rfl (keep8 rfl) ?_;focus
   refine vAu<|vA<|vr 7 (True/\0<2/\True/\(0:Int)<=(v:Int)/\(v:Int)<↑(Ag b))<|vo 22 6 v<|vr 1 (A5 (blT<|fA (Ag b) gt)=Ad/\zD4 (AT 8)=Ab/\1=1/\v+1<=Aa (AO<|blT<|fA (Ag b) gt))<|vb 6 (An (setAt (AO<|blT<|fA (Ag b) gt) v<|cellsOf<|AT 8) (Br<|blT<|fA (Ag b) gt) (Bs<|blT<|fA (Ag b) gt) Ab Ad<|Bj<|blT<|fA (Ag b) gt) (An (fA (Ag b) λ(c:Nat)=>if c=v then AT 8 else gt c) (177:TypeId) 1 Ab Ad Ba) (by simp(disch:=omega) only[cellsOf,setAt,hset])<|veT<|vA<|vrT 2 ?_;refine vnt [blI b,blX,blG b,blE b,blB b,blV<|fA (Ag b) gv,An (fA (Ag b) λ(c:Nat)=>if c=v then AT 8 else gt c) (177:TypeId) 1 Ab Ad Ba,blU<|fA (Ai b) gu,q31_] ?_;refine zY [] [] [Ae 4 0,iD v] [Ae 4 0,iD v] (A3 _) (by exact hch) ?_;refine v0s<|vrT 1<|vnil<|zC<|vnn (fr 137 [(0,Ae 4 0),(1,iD v),(4,iD 0),(5,Au 9 0 (Aa<|chV b v) (Aa (chV b v)*2) Ab),(23,Ae 4 0),(24,iD v),(25,Au 9 0 (Aa<|chV b v) (Aa (chV b v)*2) Ab)]) [(q26_ b),q27_,(q28_ b),(q29_ b),(q30_ b),(q32_ b gv),An (fA (Ag b) λ(c:Nat)=>if c=v then AT 8 else gt c) 177 1 Ab Ad Ba,(q33_ b gu),q31_,An (Ah chC<|chV b v) 200 2 Ab Ad Az] ?_;rotate_left
  have hf:frz Ab [blI b,blX,blG b,blE b,blB b,blV (fA b.n gv),blT (fA b.n λc=>if c=v then .mref 8 else gt c),blU (fA b.f gu),blM 177 [] [],chB (chV b v)] zAc (.osl 9 0 (chV b v).length ((chV b v).length*2) Ab)=AG (.row ((chV b v).flatMap chC) (chV b v).length,[9]):=by
   rw[show zAc=8+1 from rfl,zJn (e:=chB (chV b v)) rfl rfl rfl];simp_all [D,chV,chC,Bf,zNm]
  refine zB7 (Weak.frzSlot (s:=5) (by kernel_rfl) hf) ?_;have hro:=zS1 ((b.R.getD v Af).1.length:Nat) (b.R.getD v Af).2 h.rl (λr hr=>by rw[(h.r r hr).1];have:=h.V;omega);have hrw:=h.r;have hS:=h.S;have hcl:∀c∈chV b v,c.2.length<=1000/\∀j∈c.2,j<(b.R.getD v Af).1.length:=λc hc=>by
   obtain⟨_,_,e⟩:=zG3 hc;rw[e];refine⟨A0 (BT _ _) ?_,zJs _ _⟩;rw[BU];exact h.V
  have hchl:(chV b v).length<=1000:=A0 (zT3 _ _ _ _) (by rw[h.L];exact h.n);have hV:=h.V;have hchn:∀c∈chV b v,c.1<b.n:=λc hc=>by rw[<-h.L];exact(zG3 hc).1
  have hrl:=h.rl;have hhv:=h.hv;have hht:=h.ht;have hne2:=h.ne;have hS1:=h.S1;focus
   refine vAs<|vrT 1<|vnil<|zC<|vnn (fr 137 [(0,Ae 4 0),(1,iD v),(4,iD 0),(5,Aj (Ah chC<|chV b v)<|Aa<|chV b v),(6,nl),(23,Ae 4 0),(24,iD v),(25,Au 9 0 (Aa<|chV b v) (Aa (chV b v)*2) Ab)]) [(q26_ b),q27_,(q28_ b),(q29_ b),(q30_ b),(q32_ b gv),An (fA (Ag b) λ(c:Nat)=>if c=v then AT 8 else gt c) 177 1 Ab Ad Ba,(q33_ b gu),q31_,(λ(e:Bk)=>An (AO e) (Br e) (Bs e) (Bk.arr e) Ab (Bj e))<|An (Ah chC<|chV b v) 200 2 Ab Ad Az] ?_;rotate_left
  refine zB7 ((Weak.nilS 6 10 Ab (by kernel_rfl)).trans<|Weak.phant<|buB []) ?_;focus
   refine zA<|vAs<|vr 6 (True/\0<4/\ix ↑v (Aa (Aq b):Int) (Ah atR (Aq b)≠[]))<|vs 31 (AM<|Ak (Ay (v:Int)*3)<|Ah atR<|Aq b) (AM (Aj (nsD<|Aw<|Ax (Aq b) v Af) (Aa<|Aw<|Ax (Aq b) v Af)::iD (↑(Aa<|Aw<|Ax (Aq b) v Af):Int)::Aj (Ao rowV<|AN<|Ax (Aq b) v Af) (Aa<|AN<|Ax (Aq b) v Af)::Ah atR (Ak (v+1)<|Aq b))) (by simp(disch:=omega) only[AU,hav])<|vr 2 (True/\2<=Aa (iD (↑(Aa<|Aw<|Ax (Aq b) v Af):Int)::Aj (Ao rowV<|AN<|Ax (Aq b) v Af) (Aa<|AN<|Ax (Aq b) v Af)::Ah atR (Ak (v+1)<|Aq b)))<|vc hro<|veT<|zH ?_;rotate_left
  generalize hRv:(b.R.getD v Af).2=rows at*;generalize hCv:chV b v=ch at*;generalize hDv:b.desc.getD v Ad=desc at*;have hgo:∀i,(grpL desc (λx=>wtL b.f VT TT x ch) (rows.take i)).length<=i/\∀u∈grpL desc (λx=>wtL b.f VT TT x ch) (rows.take i),Gok desc i (sumW (λx=>wtL b.f VT TT x ch) (rows.take i)) (λk=>k.length<=1000/\∀u∈k,Vs u) u:=λi=>by
   obtain⟨q1,q2⟩:=zTj (desc:=desc) (w:=λx=>wtL b.f VT TT x ch) (Q:=λk=>k.length<=1000/\∀u∈k,Vs u) (rows.take i) λx hx=>by
    grind
   exact⟨A0 q1 (by simp;omega),λu hu=>(q2 u hu).mono (by simp;omega) (AY _)⟩
  have hnm:∀l,∀e∈[blI b,blX,blG b,blE b,blB b,blV (fA b.n gv),blT (fA b.n λc=>if c=v then .mref 8 else gt c),blU (fA b.f gu),blM 177 [] [],chfB (ch.flatMap chC),buB l],namB 11 e:=λl=>zG5 (by omega) (hgv1 11 (by omega)) (hgt1 11 (by omega)) λe he=>by
   simp only[BF,Co,or_false]at he;rcases he with rfl|rfl|rfl<;>exact .inl rfl
  have k5:=killL (hgv1 10 (by omega) 10 (by omega));have k6:=killL (hgt1 10 (by omega) 10 (by omega));refine zK (λ(i:Nat)=>fr 137 [(0,Ae 4 0),(1,iD v),(5,(q20_ ch)),(6,Au 10 0 (Aa<|grpL desc (λ(x:List Va)=>wtL (Ai b) VT TT x ch)<|As i rows) (Aa (grpL desc (λ(x:List Va)=>wtL (Ai b) VT TT x ch)<|As i rows)*3) Ab),(34,Aj (Ao rowV rows)<|Aa rows),(35,iD<|Aa rows),(36,iD i)]) (λ(i:Nat)=>[blI b,blX,blG b,blE b,blB b,blV<|fA b.n gv,blT (fA b.n λc=>if c=v then .mref 8 else gt c),blU<|fA b.f gu,blM 177 [] [],chfB<|ch.flatMap chC,buB<|grpL desc (λx=>wtL b.f VT TT x ch)<|rows.take i]) (λ(i:Nat)=>rows.length-i) (λ(i:Nat)=>i<=rows.length) 0 ?_ ?_ ?_
  ·omega
  ·simp only[show grpL desc (λx=>wtL b.f VT TT x ch) (rows.take 0)=[]from rfl,B_,Nat.zero_mul];refine vk 11 ?_;grind [zDh]
  intro i h1;rcases AW i rows.length with h3|h3
  ·have hhd:=zBc rowV rows [] i h3;have hmne:rows.map rowV≠[]:=zAm (by omega);have hmem:rows.getD i []∈rows:=by rw[AZ,AS h3];exact A2 h3
   obtain⟨r1,r2⟩:=hrw _ hmem;have hsx:=hS _ hmem;have hvx:=hok _ hmem;have hsu:=grpL_succ desc (λx=>wtL b.f VT TT x ch) rows i h3;obtain⟨g1,g2⟩:=hgo i;have hsm:=zZo (λx=>wtL b.f VT TT x ch) rows i h3;generalize rows.getD i []=x at*;generalize hGg:grpL desc (λx=>wtL b.f VT TT x ch) (rows.take i)=l at*;have hwt:=zVh b x ch gv (λc=>if c=v then .mref 8 else gt c) VT TT (by omega) r2 hchl (λc hc=>⟨hchn c hc,by rw[r1];exact hcl c hc⟩) hhv (λc hc hf=>by rw[if_neg (hne2 c hc)];exact hht c hc hf) hsx hS1 (fA b.f gu) [] (ch.flatMap chC) (l.flatMap buC) 177 91 3 [] (hgv1 11 (by omega)) (hgt1 11 (by omega));generalize hwg:wtL b.f VT TT x ch=w at*;generalize hsg:sumW (λx=>wtL b.f VT TT x ch) rows=sw at*;generalize hsi:sumW (λx=>wtL b.f VT TT x ch) (rows.take i)=si at*;have hx0:0<x.length:=by omega
   have hvv:vok (vaX x)=true:=BD.1 hvx _ (by rw[vaX,AZ,AS (by omega)];exact A2 _);have hkx:=cellsX hx0;have hkl:(kyX x).length=x.length-1:=by simp
   have hcln:=zF7 (zJ (kyX x)) (x.length-1) (by rw[zAy,hkl]) (by omega);have htv:=zDt x (x.length-1) (by omega);have hxc:=zAy x;have htn:((x.length:Int)-1).toNat=x.length-1:=by omega
   rcases Cd w with hw|hw
   ·have hdl0:dg w=[]:=by subst hw;simp[dg]
    rw[if_neg (by omega)]at hsu;focus
     refine vAu<|zA<|vT ((i:Int)<↑(Aa rows))<|vKB<|vA<|vr 1 (ix ↑i ↑(Aa rows) (Ao rowV rows≠[])) ?_;refine vp 38 i (Ao rowV rows)<|vr 1 (0<Aa (Ak i<|Ao rowV rows))<|vsh 39 hhd<|veT<|vA<|vrT 3<|vnt [blI b,blX,blG b,blE b,blB b,blV<|fA (Ag b) gv,blT (fA (Ag b) λ(c:Nat)=>if c=v then AT 8 else gt c),blU<|fA (Ai b) gu,blM (177:TypeId) [] [],chfB<|Ah chC ch,buB l] ?_;refine zY [] [] [Ae 4 0,(q20_ ch),(q3_ x)] [Ae 4 0,(q20_ ch),(q3_ x)] (A3 _) (by exact hwt) ?_;refine v0s<|veT<|zA<|vAe<|zEu (t:=(Aa (dg w):Int)==(0:Int)) (by kernel_rfl) (by simpa using by omega)<|vZ<|zB rfl<|vr 2 (i6 (↑i+1)) ?_;refine vnil<|zC ?_;rotate_left
    refine⟨i+1,by omega,by omega,?_⟩;rw[hsu];refine vk 11 ?_;grind [zDh]
   have hdp:=zXg hw;rw[if_pos hw]at hsu;have hpc:=λ(t:WT)(q1:t.sz<=i)(q2:t.tot<=si)=>wPut_c desc t (vaX x) w hvv hw (by omega) (hsum.le (by omega));rcases Cu l with rfl|⟨m,u,hl⟩
   ·rw[zP0]at hsu;have hp0:=hpc .nil (Bl _) (Bl _);have hbu:buB [⟨kyX x,desc,WT.nil.put desc (vaX x) w⟩]=⟨[.row (zJ (kyX x)) (x.length-1),bD desc,(WT.nil.put desc (vaX x) w).x],91,3,Ab,Ad, .plain⟩:=by
     grind
    have hnm2:=hnm [⟨kyX x,desc,WT.nil.put desc (vaX x) w⟩];rw[hbu]at hnm2;simp only[B_,Nat.zero_mul];focus
     refine vAu<|zA<|vT ((i:Int)<↑(Aa rows))<|vKB<|vA<|vr 1 (ix ↑i ↑(Aa rows) (Ao rowV rows≠[])) ?_;refine vp 38 i (Ao rowV rows)<|vr 1 (0<Aa (Ak i<|Ao rowV rows))<|vsh 39 hhd<|veT<|vA<|vrT 3<|vnt [blI b,blX,blG b,blE b,blB b,blV<|fA (Ag b) gv,blT (fA (Ag b) λ(c:Nat)=>if c=v then AT 8 else gt c),blU<|fA (Ai b) gu,blM (177:TypeId) [] [],chfB<|Ah chC ch,buB []] ?_;refine zY [] [] [Ae 4 0,(q20_ ch),(q3_ x)] [Ae 4 0,(q20_ ch),(q3_ x)] (A3 _) (by exact hwt) ?_;refine v0s<|veT<|zA<|vAe<|vEf ((Aa (dg w):Int)) ((0:Int))<|vK<|vA<|vr 5 (i6 (↑(Aa x)-1)/\True/\(0:Int)<=(Aa x:Int)-(1:Int)/\True/\0<3/\0<=Ay ((Aa x:Int)-(1:Int))/\Ay ((Aa x:Int)-(1:Int))<=Aa x/\Ay ((Aa x:Int)-(1:Int))=Ay ((Aa x:Int)-(1:Int)))<|vs 51 (Aj (As ((Ay ((Aa x:Int)-(1:Int))-0)*3)<|Ak 0<|zJ x) (Ay ((Aa x:Int)-(1:Int))-0)) (Aj (zJ<|kyX x) (Aa x-1)) (by simp(disch:=omega) only[BW,Bf,htn,hkx]) ?_;refine veT<|zA<|vAe<|vt<|vd [0,1,3,4,5,6,8,2,7,9,10,11,12,13,14,15]<|vr 7 (True/\True)<|vc hcln<|vr 2 (0<8/\ix ↑v (Aa (AX b):Int) (Ao bD (AX b)≠[]))<|vp 76 v (Ao bD<|AX b)<|vr 1 (0<Aa (Ak v<|Ao bD<|AX b))<|vsh 77 hdes<|vc (wnew_c desc) ?_;refine ve (((1=1/\1<=3/\2=2/\3<=3/\True)/\Ab=Ab)/\((3=3/\3<=3/\True)/\0<3/\3=3/\3<=16777216/\1<=9223372036854775807)/\Ab=Ab/\0=0/\0=0/\91=91/\3=3/\3=3/\0<3/\0<40/\91=91/\40<=140737488355328/\3=3/\Ad=Ad/\(Ad=Ad\/Ad=Ab))<|vA<|ve (i6 (↑(1:Nat)-1)/\(0:Int)<=(↑(1:Nat):Int)-(1:Int)/\(↑(1:Nat):Int)-(1:Int)<(↑(1:Nat):Int))<|zA<|vd [0,1,2,4,5,6,7,8,10,3,9,11,12,13,14,15,16,17]<|vr 8 (True/\i6 (↑(Aa x)-1)/\ix ((Aa x:Int)-(1:Int)) (Aa x:Int) (zJ x≠[])) (vs 96 (AM<|Ak (Ay ((Aa x:Int)-(1:Int))*3)<|zJ x) (AM<|Ak ((Aa x-1)*3)<|zJ x) (by simp(disch:=omega) only[htn])<|vr 3 (2<=2/\3<=Aa (Ak ((Aa x-1)*3)<|zJ x))<|vs 97 (AI<|As 3<|Ak ((Aa x-1)*3)<|zJ x) (AI<|vaC<|Ax x (Aa x-1) Af) (by simp(disch:=omega) only[htv])<|vc hp0<|ve (0<2/\1<2/\Ad=Ad/\Ab=Ab/\2=2/\2<=2)<|zA<|zA ?_) ⟨trivial,(by omega),⟨(by omega),⟨(by omega),(by exact zHf _ (by omega))⟩⟩⟩;refine zB rfl<|veT<|vf<|vK<|zB rfl<|vr 5 (2<=2/\True/\Ad=Ad/\Ab=Ab/\2=2/\3<=3/\¬10∈[])<|vnil<|zD<|vN<|zB rfl<|vr 2 (i6 (↑i+1)) ?_;refine vnil<|zC ?_;rotate_left
    refine⟨i+1,by omega,by omega,?_⟩;rw[hsu,hbu];refine wkn (fr 137 [(0,Ae 4 0),(1,iD v),(5,(q20_ ch)),(6,Au 10 0 1 3 Ab),(11,Ae 10 0),(12,Ae 12 0),(13,iD 0),(34,Aj (Ao rowV rows) (Aa rows)),(35,iD (Aa rows)),(36,iD ↑(i+1)),(103,bD Ad),(105,Ae 10 0),(106,AI [bD desc,AD (WT.d (WT.put desc (vaX x) w WT.nil))]),(107,Ae 10 0),(108,Ae 10 1),(109,iD ↑(i+1))]) [(q26_ b),q27_,(q28_ b),(q29_ b),(q30_ b),An (Ao (zAi 10) (fA (Ag b) gv)) 170 1 Ab Ad Ba,An (Ao (zAi 10) (fA (Ag b) λ(c:Nat)=>if c=v then AT 8 else gt c)) 177 1 Ab Ad Ba,(q33_ b gu),q31_,(q34_ ch),An [(q35_ x),bD desc,AD (WT.d (WT.put desc (vaX x) w WT.nil))] 91 3 Ab Ad Az,An [(q35_ x),bD desc,AD (WT.d WT.nil)] 91 3 Ab Ad Az,An [bD desc,AD (WT.d (WT.put desc (vaX x) w WT.nil))] 57 0 Ad Ad Az] ?_;rw[k5,k6];refine zA3 (N:=11) (4<11/\10<11/\True) rfl hnm2 (λk hk=>zDh k (by omega)) ?_ ⟨by omega,by omega,trivial⟩;refine vk 13 ?_;grind [zDh]
   rw [Cv]at hl;obtain⟨uk,ud,ut⟩:=u;have hg:=g2 ⟨uk,ud,ut⟩ (by rw[hl];simp);obtain rfl:ud=desc:=hg.d;have hp0:=hpc ut hg.n hg.s;have huk:=hg.q.1;dsimp only at huk;have hk:l.length=m.length+1:=by rw[hl];simp
   have htk:((l.length:Int)-1).toNat=m.length:=by omega
   have hmC:(m.flatMap buC).length=m.length*3:=zDi zCd m;have hlC:(l.flatMap buC).length=l.length*3:=zDi zCd l;have hat:(l.flatMap buC).drop (m.length*3)=[.row (zJ uk) uk.length,bD ud,ut.x]:=by
    grind
   have hat1:(l.flatMap buC).drop (m.length*3+1)=[bD ud,ut.x]:=by rw[<-List.drop_drop,hat];rfl
   have hs0:0<((l.flatMap buC).drop (m.length*3)).length:=by rw[hat];simp
   have hs1:2<=((l.flatMap buC).drop (m.length*3+1)).length:=by rw[hat1];simp
   by_cases heq:uk=kyX x
   ·have hrq:Pure AF 99 [.row (zJ uk) uk.length, .row (zJ (kyX x)) (x.length-1)] [] (bD Ab):=by
     have:=zE7 uk (kyX x) uk.length (x.length-1) rfl hkl (by omega) (by omega)
     rwa[decide_eq_true heq]at this
    rw[hl,zTl _ _ _ _ _ _ heq]at hsu;have hup:buB (m++[⟨uk,ud,ut.put ud (vaX x) w⟩])=⟨((l.flatMap buC).set (m.length*3+1) (bD ud)).set (m.length*3+1+1) (ut.put ud (vaX x) w).x,91,3,Ab,Ad, .plain⟩:=by
     have e:((l.flatMap buC).set (m.length*3+1) (bD ud)).set (m.length*3+1+1) (ut.put ud (vaX x) w).x=(m++[(⟨uk,ud,ut.put ud (vaX x) w⟩:Bu)]).flatMap buC:=by
      rw[hl,CA,CA,Cg _ _ (by omega),Cg _ _ (by omega),hmC,show m.length*3+1-m.length*3=1 by omega,show m.length*3+1+1-m.length*3=2 by omega];rfl
     rw[e]
    have hnm2:=hnm (m++[⟨uk,ud,ut.put ud (vaX x) w⟩]);rw[hup]at hnm2;have hln2:(m++[(⟨uk,ud,ut.put ud (vaX x) w⟩:Bu)]).length=l.length:=by rw[hk];simp
    focus
     refine vAu<|zA<|vT ((i:Int)<↑(Aa rows))<|vKB<|vA<|vr 1 (ix ↑i ↑(Aa rows) (Ao rowV rows≠[])) ?_;refine vp 38 i (Ao rowV rows)<|vr 1 (0<Aa (Ak i<|Ao rowV rows))<|vsh 39 hhd<|veT<|vA<|vrT 3<|vnt [blI b,blX,blG b,blE b,blB b,blV<|fA (Ag b) gv,blT (fA (Ag b) λ(c:Nat)=>if c=v then AT 8 else gt c),blU<|fA (Ai b) gu,blM (177:TypeId) [] [],chfB<|Ah chC ch,buB l] ?_;refine zY [] [] [Ae 4 0,(q20_ ch),(q3_ x)] [Ae 4 0,(q20_ ch),(q3_ x)] (A3 _) (by exact hwt) ?_;refine v0s<|veT<|zA<|vAe<|vEf ((Aa (dg w):Int)) ((0:Int))<|vK<|vA<|vr 5 (i6 (↑(Aa x)-1)/\True/\(0:Int)<=(Aa x:Int)-(1:Int)/\True/\0<3/\0<=Ay ((Aa x:Int)-(1:Int))/\Ay ((Aa x:Int)-(1:Int))<=Aa x/\Ay ((Aa x:Int)-(1:Int))=Ay ((Aa x:Int)-(1:Int)))<|vs 51 (Aj (As ((Ay ((Aa x:Int)-(1:Int))-0)*3)<|Ak 0<|zJ x) (Ay ((Aa x:Int)-(1:Int))-0)) (Aj (zJ<|kyX x) (Aa x-1)) (by simp(disch:=omega) only[BW,Bf,htn,hkx]) ?_;refine veT<|zA<|vA<|vw 9 [] [(3,Ad)] (True/\((Aa l:Int)==(0:Int))=Ad/\i6 (↑(Aa l)-1)/\(0:Int)<=(Aa l:Int)-(1:Int)/\(Aa l:Int)-(1:Int)<(Aa l:Int)) (vs 60 (Ae 10 (0+Ay ((Aa l:Int)-(1:Int))*3)) (Ae 10 (Aa m*3)) (by simp(disch:=omega) only[Ch,htk])<|vr 2 (True/\0<Aa (Ak (Aa m*3)<|Ah buC l))<|vs 62 (Bt (Ak (Aa m*3)<|Ah buC l) Uk) (Aj (zJ uk)<|Aa uk) (by simp(disch:=omega) only[List.headD_cons,hat])<|vrT 1<|vc hrq<|veT<|vf<|zQ<|zC ?_) ⟨trivial,(by exact decide_eq_false (by omega)),(by omega),(by omega)⟩;refine zA4<|vA<|vr 5 (i6 (↑(Aa l)-1)/\(0:Int)<=(Aa l:Int)-(1:Int)/\(Aa l:Int)-(1:Int)<(Aa l:Int))<|vs 86 (Ae 10 (0+Ay ((Aa l:Int)-(1:Int))*3)) (Ae 10 (Aa m*3)) (by simp(disch:=omega) only[Ch,htk])<|veT<|zA<|vd [0,1,2,4,5,6,7,8,10,3,9,11,12,13,14,15,16,17]<|vr 8 (True/\i6 (↑(Aa x)-1)/\ix ((Aa x:Int)-(1:Int)) (Aa x:Int) (zJ x≠[])) (vs 96 (AM<|Ak (Ay ((Aa x:Int)-(1:Int))*3)<|zJ x) (AM<|Ak ((Aa x-1)*3)<|zJ x) (by simp(disch:=omega) only[htn])<|vr 2 (2<=Aa (Ak (Aa m*3+1)<|Ah buC l))<|vs 91 (AI<|As 2<|Ak (Aa m*3+1)<|Ah buC l) (AI [bD ud,WT.x ut]) (by simp(disch:=omega) only[List.take_succ_cons,List.take_nil,hat1])<|vr 1 (3<=Aa (Ak ((Aa x-1)*3)<|zJ x))<|vs 97 (AI<|As 3<|Ak ((Aa x-1)*3)<|zJ x) (AI<|vaC<|Ax x (Aa x-1) Af) (by simp(disch:=omega) only[htv]) ?_) ⟨trivial,(by omega),⟨(by omega),⟨(by omega),(by exact zHf _ (by omega))⟩⟩⟩;refine vc hp0<|ve (0<2/\1<2/\Ad=Ad/\Ab=Ab/\2=2/\2<=2)<|zA<|vAe<|vf<|vK<|zB rfl<|vr 5 (2<=2/\True/\Ad=Ad/\Ab=Ab/\2=2/\Aa m*3+1+2<=Aa (Ah buC l)/\¬10∈[])<|vnil<|zD ?_;refine vN<|zB rfl<|vr 2 (i6 (↑i+1))<|vnil<|zC ?_;rotate_left
    refine⟨i+1,by omega,by omega,?_⟩;rw[hsu,hln2,hup];refine wkn (fr 137 [(0,Ae 4 0),(1,iD v),(5,(q20_ ch)),(6,Au 10 0 (Aa l) (Aa l*3) Ab),(11,Ae 10 (Aa m*3)),(12,Ae 11 0),(13,iD 0),(34,Aj (Ao rowV rows) (Aa rows)),(35,iD (Aa rows)),(36,iD ↑(i+1)),(103,bD Ad),(105,Ae 10 (Aa m*3)),(106,AI [bD ud,AD (WT.d (WT.put ud (vaX x) w ut))]),(107,Ae 10 (Aa m*3)),(108,Ae 10 (Aa m*3+1)),(109,iD ↑(i+1))]) [(q26_ b),q27_,(q28_ b),(q29_ b),(q30_ b),(q32_ b gv),An (fA (Ag b) λ(c:Nat)=>if c=v then AT 8 else gt c) 177 1 Ab Ad Ba,(q33_ b gu),q31_,(q34_ ch),An (List.set (List.set (Ah buC l) (Aa m*3+1) (bD ud)) (Aa m*3+1+1) (AD (WT.d (WT.put ud (vaX x) w ut)))) 91 3 Ab Ad Az,An [bD ud,AD (WT.d (WT.put ud (vaX x) w ut))] 57 0 Ad Ad Az] ?_;refine zA3 (N:=11) (4<11/\10<11/\True) rfl hnm2 (λk hk=>zDh k (by omega)) ?_ ⟨by omega,by omega,trivial⟩;refine vk 12 ?_;grind [zDh]
   have hrq:Pure AF 99 [.row (zJ uk) uk.length, .row (zJ (kyX x)) (x.length-1)] [] (bD Ad):=by
    have:=zE7 uk (kyX x) uk.length (x.length-1) rfl hkl (by omega) (by omega)
    grind
   rw[hl,zTk _ _ _ _ _ _ heq,<-hl]at hsu;have hp1:=hpc .nil (Bl _) (Bl _);have hdr1:∀A B E:D,(l.flatMap buC++[A,B,E]).drop (l.length*3+1)=[B,E]:=λA B E=>by
    rw[<-List.drop_drop,<-hlC,List.drop_left];rfl
   have hup:buB (l++[⟨kyX x,ud,WT.nil.put ud (vaX x) w⟩])=⟨((l.flatMap buC++[.row (zJ (kyX x)) (x.length-1),bD ud,WT.nil.x]).set (l.length*3+1) (bD ud)).set (l.length*3+1+1) (WT.nil.put ud (vaX x) w).x,91,3,Ab,Ad, .plain⟩:=by
    have e:((l.flatMap buC++[.row (zJ (kyX x)) (x.length-1),bD ud,WT.nil.x]).set (l.length*3+1) (bD ud)).set (l.length*3+1+1) (WT.nil.put ud (vaX x) w).x=(l++[(⟨kyX x,ud,WT.nil.put ud (vaX x) w⟩:Bu)]).flatMap buC:=by
     rw[CA,Cg _ _ (by omega),Cg _ _ (by omega),hlC,show l.length*3+1-l.length*3=1 by omega,show l.length*3+1+1-l.length*3=2 by omega];simp_all
    rw[e]
   have hnm2:=hnm (l++[⟨kyX x,ud,WT.nil.put ud (vaX x) w⟩]);rw[hup]at hnm2;have hln2:(l++[(⟨kyX x,ud,WT.nil.put ud (vaX x) w⟩:Bu)]).length=l.length+1:=by simp
   have hs2:∀A B E:D,2<=((l.flatMap buC++[A,B,E]).drop (l.length*3+1)).length:=λA B E=>by rw[hdr1];simp
   have hs3:∀A B E:D,l.length*3+1+2<=(l.flatMap buC++[A,B,E]).length:=λA B E=>by simp[hlC]
   have htl:(((l.length+1:Nat):Int)-1).toNat=l.length:=by omega
   focus
    refine vAu<|zA<|vT ((i:Int)<↑(Aa rows))<|vKB<|vA<|vr 1 (ix ↑i ↑(Aa rows) (Ao rowV rows≠[])) ?_;refine vp 38 i (Ao rowV rows)<|vr 1 (0<Aa (Ak i<|Ao rowV rows))<|vsh 39 hhd<|veT<|vA<|vrT 3<|vnt [blI b,blX,blG b,blE b,blB b,blV<|fA (Ag b) gv,blT (fA (Ag b) λ(c:Nat)=>if c=v then AT 8 else gt c),blU<|fA (Ai b) gu,blM (177:TypeId) [] [],chfB<|Ah chC ch,buB l] ?_;refine zY [] [] [Ae 4 0,(q20_ ch),(q3_ x)] [Ae 4 0,(q20_ ch),(q3_ x)] (A3 _) (by exact hwt) ?_;refine v0s<|veT<|zA<|vAe<|vEf ((Aa (dg w):Int)) ((0:Int))<|vK<|vA<|vr 5 (i6 (↑(Aa x)-1)/\True/\(0:Int)<=(Aa x:Int)-(1:Int)/\True/\0<3/\0<=Ay ((Aa x:Int)-(1:Int))/\Ay ((Aa x:Int)-(1:Int))<=Aa x/\Ay ((Aa x:Int)-(1:Int))=Ay ((Aa x:Int)-(1:Int)))<|vs 51 (Aj (As ((Ay ((Aa x:Int)-(1:Int))-0)*3)<|Ak 0<|zJ x) (Ay ((Aa x:Int)-(1:Int))-0)) (Aj (zJ<|kyX x) (Aa x-1)) (by simp(disch:=omega) only[BW,Bf,htn,hkx]) ?_;refine veT<|zA<|vA<|vw 9 [] [(3,Ad)] (True/\((Aa l:Int)==(0:Int))=Ad/\i6 (↑(Aa l)-1)/\(0:Int)<=(Aa l:Int)-(1:Int)/\(Aa l:Int)-(1:Int)<(Aa l:Int)) (vs 60 (Ae 10 (0+Ay ((Aa l:Int)-(1:Int))*3)) (Ae 10 (Aa m*3)) (by simp(disch:=omega) only[Ch,htk])<|vr 2 (True/\0<Aa (Ak (Aa m*3)<|Ah buC l))<|vs 62 (Bt (Ak (Aa m*3)<|Ah buC l) Uk) (Aj (zJ uk)<|Aa uk) (by simp(disch:=omega) only[List.headD_cons,hat])<|vrT 1<|vc hrq<|veT<|vt<|vd [0,1,3,4,5,6,8,2,7,9,10,11,12,13,14,15]<|vr 7 (True/\True) ?_) ⟨trivial,(by exact decide_eq_false (by omega)),(by omega),(by omega)⟩;refine vc hcln<|vr 2 (0<8/\ix ↑v (Aa (AX b):Int) (Ao bD (AX b)≠[]))<|vp 76 v (Ao bD<|AX b)<|vr 1 (0<Aa (Ak v<|Ao bD<|AX b))<|vsh 77 hdes<|vc (wnew_c ud)<|ve (((1=1/\1<=3/\2=2/\3<=3/\True)/\Ab=Ab)/\((3=3/\3<=3/\True)/\0<3/\3=3/\3<=16777216/\1<=9223372036854775807)/\Ab=Ab/\Aa (Ah buC l)=Aa l*3/\Aa l*3=Aa l*3/\91=91/\3=3/\3=3/\0<3/\0<40/\91=91/\(Aa l+1)*40<=140737488355328/\3=3/\Bx Az=Ad/\(Ad=Ad\/By Az=Ab))<|vA<|vr 5 (i6 (↑(Aa l+1)-1)/\(0:Int)<=(↑(Aa l+1):Int)-(1:Int)/\(↑(Aa l+1):Int)-(1:Int)<(↑(Aa l+1):Int))<|vs 86 (Ae 10 (0+Ay ((↑(Aa l+1):Int)-(1:Int))*3)) (Ae 10 (Aa l*3)) (by simp(disch:=omega) only[Ch,htl])<|veT<|zA<|vd [0,1,2,4,5,6,7,8,10,3,9,11,12,13,14,15,16,17] ?_;refine vr 8 (True/\i6 (↑(Aa x)-1)/\ix ((Aa x:Int)-(1:Int)) (Aa x:Int) (zJ x≠[])) (vs 96 (AM<|Ak (Ay ((Aa x:Int)-(1:Int))*3)<|zJ x) (AM<|Ak ((Aa x-1)*3)<|zJ x) (by simp(disch:=omega) only[htn])<|vr 2 (2<=Aa (Ak (Aa l*3+1) (Ah buC l++[Aj (zJ<|kyX x) (Aa x-1),bD ud,AD<|Am<|BX AL]))) (vs 91 (AI<|As 2<|Ak (Aa l*3+1) (Ah buC l++[Aj (zJ<|kyX x) (Aa x-1),bD ud,AD<|Am<|BX AL])) (AI [bD ud,AD<|Am<|BX AL]) (by simp(disch:=omega) only[List.take_succ_cons,List.take_nil,hdr1])<|vr 1 (3<=Aa (Ak ((Aa x-1)*3)<|zJ x))<|vs 97 (AI<|As 3<|Ak ((Aa x-1)*3)<|zJ x) (AI<|vaC<|Ax x (Aa x-1) Af) (by simp(disch:=omega) only[htv])<|vc hp1<|ve (0<2/\1<2/\Ad=Ad/\Ab=Ab/\2=2/\2<=2)<|zA<|vAe<|vf<|zQ ?_) (by exact hs2 _ _ _)) ⟨trivial,(by omega),⟨(by omega),⟨(by omega),(by exact zHf _ (by omega))⟩⟩⟩;refine vN<|zB rfl<|vr 5 (2<=2/\True/\Ad=Ad/\Ab=Ab/\2=2/\Aa l*3+1+2<=Aa (Ah buC l++[(q35_ x),bD ud,AD<|Am<|BX AL])/\¬10∈[]) (vnil<|zD<|vN<|zB rfl<|vr 2 (i6 (↑i+1))<|vnil<|zC ?_) ⟨(by omega),trivial,⟨(by kernel_rfl),⟨(by kernel_rfl),⟨(by kernel_rfl),⟨(by exact hs3 _ _ _),(by decide)⟩⟩⟩⟩⟩;rotate_left
   refine⟨i+1,by omega,by omega,?_⟩;rw[hsu,hln2,hup];refine wkn (fr 137 [(0,Ae 4 0),(1,iD v),(5,(q20_ ch)),(6,Au 10 0 (Aa l+1) ((Aa l+1)*3) Ab),(11,Ae 10 (Aa l*3)),(12,Ae 12 0),(13,iD 0),(34,Aj (Ao rowV rows) (Aa rows)),(35,iD (Aa rows)),(36,iD ↑(i+1)),(103,bD Ad),(105,Ae 10 (Aa l*3)),(106,AI [bD ud,AD (WT.d (WT.put ud (vaX x) w WT.nil))]),(107,Ae 10 (Aa l*3)),(108,Ae 10 (Aa l*3+1)),(109,iD ↑(i+1))]) [(q26_ b),q27_,(q28_ b),(q29_ b),(q30_ b),An (Ao (zAi 10) (fA (Ag b) gv)) 170 1 Ab Ad Ba,An (Ao (zAi 10) (fA (Ag b) λ(c:Nat)=>if c=v then AT 8 else gt c)) 177 1 Ab Ad Ba,(q33_ b gu),q31_,(q34_ ch),An (List.set (List.set (Ah buC l++[(q35_ x),bD ud,AD (Am (BX AL))]) (Aa l*3+1) (bD ud)) (Aa l*3+1+1) (AD (WT.d (WT.put ud (vaX x) w WT.nil)))) 91 3 Ab Ad Az,An [(q35_ x),bD ud,AD (WT.d WT.nil)] 91 3 Ab Ad Az,An [bD ud,AD (WT.d (WT.put ud (vaX x) w WT.nil))] 57 0 Ad Ad Az] ?_;rw[k5,k6];refine zA3 (N:=11) (4<11/\10<11/\True) rfl hnm2 (λk hk=>zDh k (by omega)) ?_ ⟨by omega,by omega,trivial⟩;refine vk 13 ?_;grind [zDh]
  obtain rfl:i=rows.length:=by omega
  rw[Bc];obtain⟨g1,g2⟩:=hgo rows.length;rw[Bc]at g1 g2;generalize hGg:grpL desc (λx=>wtL b.f VT TT x ch) rows=l at*;generalize hsi:sumW (λx=>wtL b.f VT TT x ch) rows=sw at*;focus
   refine vAu<|zA<|vF ((Aa rows:Int)<↑(Aa rows))<|vZ2<|zA<|zA ?_;refine zB rfl<|veT<|zH ?_;rotate_left
  refine zK (λ(j:Nat)=>fr 137 [(0,Ae 4 0),(1,iD v),(6,Au 10 0 (Aa l) (Aa l*3) Ab),(110,Au 10 0 (Aa l) (Aa l*3) Ab),(111,iD<|Aa l),(112,iD j)]) (λ(j:Nat)=>[blI b,blX,blG b,blE b,blB b,blV<|fA b.n gv,blT (fA b.n λc=>if c=v then .mref 8 else gt c),blU<|fA b.f gu,mapT<|totL<|l.take j,chfB<|ch.flatMap chC,buB l]) (λ(j:Nat)=>l.length-j) (λ(j:Nat)=>j<=l.length) 0 ?_ ?_ ?_
  ·omega
  ·rw[show totL (l.take 0)=[]from rfl];refine vk 11 ?_;grind [zDh]
  intro j h4;rcases AW j l.length with h5|h5
  ·have hgt2:=zCv zCd l j h5;have hgle:=zEr zCd l j h5;have hmem:l.getD j Af∈l:=by rw[AZ,AS h5];exact A2 h5
   have hg:=g2 _ hmem;have hsu:=zZj l j h5;generalize hKj:totL (l.take j)=K at*;generalize l.getD j Af=u at*;have hq1:=hg.q.1;have hid:=zC1 u.key u.key.length rfl (by omega) hg.q.2;have htot:=wtotal_c u.desc u.t (hsum.le hg.s);have hmp:=mput_t K u.key u.t.tot;have hget:((fA b.n λc=>if c=v then .mref 8 else gt c).drop v).headD .unk= .mref 8:=by rw[zEd hvn];exact if_pos rfl
   have hps:=zCa (g:=λc=>if c=v then .mref 8 else gt c) hvn;have hnm2:∀e∈[blI b,blX,blG b,blE b,blB b,blV (fA b.n gv),blT (fA b.n λc=>if c=v then .mref 8 else gt c),blU (fA b.f gu),mapT (tput K u.key u.t.tot),chfB (ch.flatMap chC),buB l],namB 11 e:=zG5 (by omega) (hgv1 11 (by omega)) (hgt1 11 (by omega)) λe he=>by
    simp only[BF,Co,or_false]at he;rcases he with rfl|rfl|rfl<;>exact .inl rfl
   focus
    refine vAu (zA (vT ((j:Int)<↑(Aa l)) (vKB (vA (vr 1 ((0:Int)<=(j:Int)/\(j:Int)<↑(Aa l)) ?_)))));refine vo0 114 10 (j*3) (vr 1 (3<=Aa (Ak (j*3) (AO (buB l)))) (vs 115 (AI (As 3 (Ak (j*3) (AO (buB l))))) (AI (buC u)) (by simp(disch:=omega) only[hgt2]) (ve (Ad=Ad/\Ab=Ab/\3=3/\3<=3) (vd [0,1,2,4,7,10,3,5,6,8,9,11,12,13] (vr 8 (True/\True/\True/\0<2/\(0:Int)<=(v:Int)/\(v:Int)<↑(Ag b)) (vo 121 6 v (vr 1 (0<Aa (Ak v (AO (blT (fA (Ag b) λ(c:Nat)=>if c=v then AT 8 else gt c))))) (vsh 122 hget (vr 1 (0<3) (vc hid (vr 1 (2<=2) (vc htot (vr 1 (A5 (mapT K)=Ad/\zW (A8 (A9 A_ "string" 1 16 Ab 8 8 (AG (AJ (A4 #[]))) Ab #[])) (AJ (bs (idR (Bu.key u))))=Ab/\Bq (Ao (λ(p:List Va×Nat)=>kyv (Aw p)) K) (zW (A8 (A9 A_ "string" 1 16 Ab 8 8 (AG (AJ (A4 #[]))) Ab #[])))=Ab/\¬8∈[]) ?_ ⟨(by kernel_rfl),⟨(by kernel_rfl),⟨(by exact zG2 _),(by decide)⟩⟩⟩)))))))))))));refine vb 8 (mput (mapT K) (Ao (λ(p:List Va×Nat)=>kyv (Aw p)) K) (AJ (bs (idR (Bu.key u)))) (natD (WT.tot (Bu.t u)))) (mapT (tput K (Bu.key u) (WT.tot (Bu.t u)))) (by simp(disch:=omega) only[hmp]) (vnil (zD (vN (zB rfl (vr 2 (i6 (↑j+1)) (vnil (zC ?_)))))));rotate_left
   refine⟨j+1,by omega,by omega,?_⟩;rw[hsu];refine wkn (fr 137 [(0,Ae 4 0),(1,iD v),(6,Au 10 0 (Aa l) (Aa l*3) Ab),(15,Ae 11 0),(110,Au 10 0 (Aa l) (Aa l*3) Ab),(111,iD (Aa l)),(112,iD ↑(j+1)),(116,Ae 4 0),(117,Ae 4 0),(118,Ae 4 8),(119,Au 6 0 (Ag b) (Ag b) Ab),(120,iD v),(121,Ae 6 v),(122,AT 8),(123,Ae 11 0),(124,(q36_ u)),(125,Am (AJ (bs (idR (Bu.key u))))),(126,Ae 11 1),(127,AI [bD (Bu.desc u),AD (WT.d (Bu.t u))]),(128,natD (WT.tot (Bu.t u))),(129,iD ↑(j+1))]) [blI b,blX,blG b,blE b,blB b,blV (fA (Ag b) gv),blT (fA (Ag b) λ(c:Nat)=>if c=v then AT 8 else gt c),blU (fA (Ai b) gu),mapT (tput K (Bu.key u) (WT.tot (Bu.t u))),chfB (Ah chC ch),buB l,An [(q36_ u),bD (Bu.desc u),AD (WT.d (Bu.t u))] 91 0 Ad Ad Az] ?_;refine zA3 (N:=11) (4<11/\10<11/\10<11/\True) rfl hnm2 (λk hk=>zDh k (by omega)) ?_ ⟨by omega,by omega,by omega,trivial⟩;refine vk 12 ?_;grind [zDh]
  obtain rfl:j=l.length:=by omega
  rw[Bc];have hall:=zNm zCd l l.length rfl;have hsu:(fA b.f gu).set v (busD l)=fA b.f λc=>if c=v then busD l else gu c:=zEs
  have hful:(fA b.f gu).length=b.f:=zEt;focus
   refine vAu<|zA<|vF ((Aa l:Int)<↑(Aa l))<|vZ2<|vA ?_;refine vr 7 (True/\0<1/\(0:Int)<=(v:Int)/\(v:Int)<↑(Ai b))<|vo 136 7 v<|vr 1 (A5 (blU<|fA (Ai b) gu)=Ad/\Ab=Ab/\1=1/\v+1<=Aa (AO<|blU<|fA (Ai b) gu)/\¬7∈[10])<|vb 7 (An (setAt (AO<|blU<|fA (Ai b) gu) v<|cellsOf<|Aj (As (Aa l*3)<|Ak 0<|AO<|buB l)<|Aa l) (Br<|blU<|fA (Ai b) gu) (Bs<|blU<|fA (Ai b) gu) Ab Ad<|Bj<|blU<|fA (Ai b) gu) (An (fA (Ai b) λ(c:Nat)=>if c=v then busD l else gu c) (88:TypeId) 1 Ab Ad Az) (by simp(disch:=omega) only[cellsOf,Bf,setAt,hsu,hall])<|veT<|vAe<|zE ?_;refine zM (True) [q2_] (.inr rfl) ?_;rotate_left
  exact⟨by kernel_rfl,by kernel_rfl⟩
 generalize grpL (b.desc.getD v Ad) (λx=>wtL b.f VT TT x (chV b v)) (b.R.getD v Af).2=l;have e2:(fA b.n λc=>if c=v then .mref 8 else gt c).set v (zGn (totL l))=fA b.n λc=>if c=v then zGn (totL l)else gt c:=by
  simp_all [zEs,zB1]
 have hw:=BV (T:=Tre) (sl:=[iD 0]) (st:=[blI b,blX,blG b,blE b,blB b,blV (fA b.n gv),blT (fA b.n λc=>if c=v then .mref 8 else gt c),blU (fA b.f λc=>if c=v then busD l else gu c),mapT (totL l),chfB ((chV b v).flatMap chC),{buB l with fz:=Ab}]) (j:=6) (i:=v) (d:= .mref 8) (x:=zGn (totL l)) (ks:=[8]) rfl rfl rfl (by rw[zXf hvn];exact congrArg AG (if_pos rfl)) rfl (by decide);refine hw.trans ?_;show Weak Tre _ ([blI b,blX,blG b,blE b,blB b,blV (fA b.n gv),blT ((fA b.n λc=>if c=v then .mref 8 else gt c).set v (zGn (totL l))),blU (fA b.f λc=>if c=v then busD l else gu c)]++[{mapT (totL l)with fz:=Ab},chfB ((chV b v).flatMap chC),{buB l with fz:=Ab}]) _ _;rw[e2];refine zHc (N:=8) rfl (zG5 (AY _) (zEw.2 h.gw) (zEw.2 λc hc j hj=>?_) (by simp)) (by intro j hj;cases hj) zDh;split
 ·rfl
 exact h.tw c hc j hj
def rone(L:List Bg)(f:Nat)(VT:Nat->List Rw)(TT:Nat->List (Rw×Nat))(v:Nat):Nat:=if 0<=(L.getD v Af).p then 1 else if v<f then(tlk (TT v) []).getD 0 else if VT v=[]then 0 else 1
def rtL(L:List Bg)(f:Nat)(VT:Nat->List Rw)(TT:Nat->List (Rw×Nat))(i:Nat):Nat:=((AQ i).map (rone L f VT TT)).foldl (· *·) 1
theorem zV2(L:List Bg)(f:Nat)(VT:Nat->List Rw)(TT:Nat->List (Rw×Nat))(i:Nat):rtL L f VT TT (i+1)=rtL L f VT TT i*rone L f VT TT i:=by
 grind [rtL,CB]
theorem rtL_bad{L:List Bg}{f:Nat}{VT:Nat->List Rw}{TT:Nat->List (Rw×Nat)}{p n:Nat}(h:p<n)(hb:rone L f VT TT p=0):rtL L f VT TT n=0:=by
 induction n with
 |zero=>omega
 |succ n ih=>
  rw[zV2];grind
def rbad(L:List Bg)(f:Nat)(VT:Nat->List Rw)(v:Nat):Bool:=decide ((L.getD v Af).p<0)&&decide (f<=v)&&decide (VT v=[])
def aempty(A:List (List Nat×List Rw)):Bool:=A.any λa=>decide (a.2=[])
def totB(b:Bd)(VT:Nat->List Rw)(TT:Nat->List (Rw×Nat)):Nat:=if aempty b.A then 0 else rtL b.L b.f VT TT b.L.length
def Tto:Par:=⟨λ_=>Ad,λ_ _=>AL,λk=>decide (k<8),λo=>match o with
 | .call {callee:= .builtin .len,argTypes:=t,..}=>t==#[170]
 |_=>Ad,λ_=>Ad⟩
theorem Tto_ok:zA9 AF Tto:=by intro t n f h;cases h
theorem keepO{st:List Bk}(h:st.length=8):∀k,k<st.length->Tto.keep k=true:=λk hk=>by
 show decide (k<8)=Ab;rw[decide_eq_true_eq];omega
theorem zFq:∀k,8<=k->Tto.keep k=false:=λk hk=>by
 show decide (k<8)=Ad;rw[decide_eq_false_iff_not];omega
abbrev atK(a:List Nat×List Rw):Bk:=⟨atR a,87,0,Ad,Ad, .plain⟩
abbrev bgK1(c:Bg):Bk:=⟨bgC c,99,0,Ad,Ad, .plain⟩
abbrev q37_(x0:Bg):=An [iD ↑(Bg.v x0),dig (Bg.k x0),iD (Bb x0)] 99 0 Ad Ad Az
theorem total_c(b:Bd)(gv gt:Nat->D)(VT:Nat->List Rw)(TT:Nat->List (Rw×Nat))(c7:List D)(hn:b.n<=1000)(hL:b.L.length=b.n)(hA:b.A.length<=1000)(hAl:∀a∈b.A,a.2.length<=65536)
  (hv:∀v,v<b.n->b.f<=v->(b.L.getD v Af).p<0->gv v=zHe (VT v))(ht:∀v,v<b.n->v<b.f->(b.L.getD v Af).p<0->gt v=zGn (TT v))
  (hS:∀i,i<=b.n->Sm (rtL b.L b.f VT TT i))(hS1:∀v,v<b.n->∀p∈TT v,Sm p.2)
  (hgw:∀c,c<b.n->∀j,8<=j->refs j (gv c)=Ad)(htw:∀c,c<b.n->∀j,8<=j->refs j (gt c)=Ad):
  Acts AF 53 [.own 4 0] [blI b,blX,blG b,blE b,blB b,blV (fA b.n gv),blT (fA b.n gt),blU c7] [] (natD (totB b VT TT)) [blI b,blX,blG b,blE b,blB b,blV (fA b.n gv),blT (fA b.n gt),blU c7]:=by
 have hnm:∀e∈[blI b,blX,blG b,blE b,blB b,blV (fA b.n gv),blT (fA b.n gt),blU c7],namB 8 e:=zG5 (AY _) (zEw.2 hgw) (zEw.2 htw) (by simp);have hac:∀a:List Nat×List Rw,(atR a).length=3:=λ_=>rfl;have hbc:∀c:Bg,(bgC c).length=3:=λ_=>rfl;obtain⟨m1,m2,res,bs,hres,hm1,hgood1,hm2,hgood2,hend⟩:∃(m1 m2:Nat)(res:D)(bs:List Bk),LeD res (natD (totB b VT TT))/\m1<=b.A.length/\(∀j,j<m1->0<(b.A.getD j Af).2.length)/\m2<=b.L.length/\(∀j,j<m2->rbad b.L b.f VT j=Ad)/\
   ((m1<b.A.length/\(b.A.getD m1 Af).2=[]/\res= .val (.slice AL 0 0)/\bs=[atK (b.A.getD m1 Af)])\/(m1=b.A.length/\m2=b.L.length/\res=natD (rtL b.L b.f VT TT b.L.length)/\bs=[])\/(m1=b.A.length/\m2<b.L.length/\rbad b.L b.f VT m2=Ab/\res= .val (.slice AL 0 0)/\bs=[bgK1 (b.L.getD m2 Af)])):=by
  by_cases h1:∃p,p<b.A.length/\decide ((b.A.getD p Af).2=[])=Ab
  ·obtain⟨p,hp,hpb,hmin⟩:=zD1 (p:=λi=>decide ((b.A.getD i Af).2=[])) h1;have hpb2:(b.A.getD p Af).2=[]:=by simpa using hpb
   have e:totB b VT TT=0:=by
    grind [totB,aempty,BY,AS,A2]
   refine⟨p,0,_,_,by rw[e];exact zLq,by omega,λj hj=>?_,Bl _,λj hj=>by omega, .inl ⟨hp,hpb2,rfl,rfl⟩⟩;grind
  have hall:∀j,j<b.A.length->0<(b.A.getD j Af).2.length:=λj hj=>List.length_pos_iff.2 λhh=>h1 ⟨j,hj,by simpa using hh⟩;have e:totB b VT TT=rtL b.L b.f VT TT b.L.length:=by
   grind [totB,aempty,BY,BP,AS]
  by_cases h2:∃p,p<b.L.length/\rbad b.L b.f VT p=Ab
  ·obtain⟨p,hp,hpb,hmin⟩:=zD1 h2;refine⟨b.A.length,p,_,_,?_,AY _,hall,by omega,hmin, .inr (.inr ⟨rfl,hp,hpb,rfl,rfl⟩)⟩;rw[e,rtL_bad (TT:=TT) hp]
   ·exact zLq
   unfold rbad at hpb;simp only[BO,decide_eq_true_eq]at hpb;grind [rone]
  refine⟨b.A.length,b.L.length,_,_,by rw[e];exact BB _,AY _,hall,AY _,λj hj=>?_, .inr (.inl ⟨rfl,rfl,rfl,rfl⟩)⟩;grind
 refine Acts.res (x:=res) ?_ hres;refine Acts.cutN (bs:=bs) ?_ (AY _) hnm (λj hj=>by rcases hend with⟨_,_,rfl,_⟩|⟨_,_,rfl,_⟩|⟨_,_,_,rfl,_⟩<;>rfl);obtain⟨one,e1⟩:∃o:Nat,o=1:=⟨1,rfl⟩;have hof:Pure AF 36 [.val (.int .u64 1)] [] (natD one):=by subst e1;exact of_c 1 (by decide)
 have hw0:rtL b.L b.f VT TT 0=one:=e1.symm;refine zP Tto_ok mixed Tryz.func53 rfl (keepO rfl) ?_;focus
  refine vAu<|zA<|vA<|ve (True/\True/\0<6)<|zH ?_;rotate_left
 refine zK (λ(i:Nat)=>fr 66 [(0,Ae 4 0),(12,(q19_ b)),(13,iD (Aa (AK b):Int)),(14,iD i)]) (λ(i:Nat)=>[blI b,blX,blG b,blE b,blB b,blV<|fA b.n gv,blT<|fA b.n gt,blU c7]) (λ(i:Nat)=>m1-i) (λ(i:Nat)=>i<=m1) 0 ?_ ?_ ?_
 ·omega
 ·refine vk 8 ?_;all_goals exact zFq
 intro i h1;rcases AW i m1 with h3'|h3'
 ·have h3:i<b.A.length:=by omega
  have hg2:=zCv hac b.A i h3;have hle:=zEr hac b.A i h3;have hne:=zDd hac (by decide) b.A (by omega);have hgd:=hgood1 i h3';generalize b.A.getD i Af=a at*;have hlen:=zJ0 (a.1.length:Nat) (a.2.map rowV) a.2.length;focus
   refine vAu<|zA<|vT ((i:Int)<(Aa (AK b):Int))<|vKB<|vA<|vr 2 (ix ↑i (Aa (AK b):Int) (Ah atR (AK b)≠[])/\3<=Aa (Ak (i*3)<|Ah atR<|AK b)) ?_;refine vs 17 (AI<|As 3<|Ak (i*3)<|Ah atR<|AK b) (AI<|atR a) (by simp(disch:=omega) only[hg2])<|ve (Ad=Ad/\Ab=Ab/\3=3/\3<=3)<|vA<|vr 2 (True/\2<=2)<|vc hlen<|veT<|vEf ((Aa (AN a):Int)) ((0:Int))<|zQ<|zD<|vN<|zB rfl<|vr 2 (i6 (↑i+1)) ?_;refine vnil<|zC ?_;rotate_left
  refine⟨i+1,by omega,by omega,?_⟩;refine wkn (fr 66 [(0,Ae 4 0),(12,(q19_ b)),(13,iD (Aa (AK b):Int)),(14,iD ↑(i+1)),(21,bD ((Aa (AN a):Int)==(0:Int))),(22,iD ↑(i+1))]) [blI b,blX,blG b,blE b,blB b,blV (fA (Ag b) gv),blT (fA (Ag b) gt),blU c7,An [Aj (nsD (Aw a)) (Aa (Aw a)),iD (Aa (Aw a):Int),Aj (Ao rowV (AN a)) (Aa (AN a))] 87 0 Ad Ad Az] ?_;refine zA3 (N:=8) (4<8/\True) rfl hnm (λk hk=>zFq k (by omega)) ?_ ⟨by omega,trivial⟩;refine vk 9 ?_;grind [zFq]
 obtain rfl:i=m1:=by omega
 rcases hend with⟨h3,he,rfl,rfl⟩|hend
 ·have hg2:=zCv hac b.A i h3;have hle:=zEr hac b.A i h3;have hne:=zDd hac (by decide) b.A (by omega);generalize b.A.getD i Af=a at*;have hl0:a.2.length=0:=by rw[he];rfl
  have hlen:=zJ0 (a.1.length:Nat) (a.2.map rowV) a.2.length;focus
   refine vAu<|zA<|vT ((i:Int)<(Aa (AK b):Int))<|vKB<|vA<|vr 2 (ix ↑i (Aa (AK b):Int) (Ah atR (AK b)≠[])/\3<=Aa (Ak (i*3)<|Ah atR<|AK b)) ?_;refine vs 17 (AI<|As 3<|Ak (i*3)<|Ah atR<|AK b) (AI<|atR a) (by simp(disch:=omega) only[hg2])<|ve (Ad=Ad/\Ab=Ab/\3=3/\3<=3)<|vA<|vr 2 (True/\2<=2)<|vc hlen<|veT<|vEt ((Aa (AN a):Int)) ((0:Int))<|vAe<|zE<|zL<|zG ?_;refine zG<|zL<|zG ?_;refine zM (True) [nl] (.inr rfl) ?_;rotate_left
  exact⟨by kernel_rfl,by kernel_rfl⟩
 have hi:i=b.A.length:=by rcases hend with⟨h,_⟩|⟨h,_⟩<;>exact h
 subst hi;focus
  refine vAu<|zA<|vF ((Aa (AK b):Int)<(Aa (AK b):Int))<|vZ2<|vA ?_;refine vc hof<|veT<|zA<|vA<|ve (True/\0<5)<|zH ?_;rotate_left
 refine zK (λ(j:Nat)=>fr 66 [(0,Ae 4 0),(5,natD<|rtL (Ap b) (Ai b) VT TT j),(27,(q16_ b)),(28,iD (Aa (Ap b):Int)),(29,iD j)]) (λ(j:Nat)=>[blI b,blX,blG b,blE b,blB b,blV<|fA b.n gv,blT<|fA b.n gt,blU c7]) (λ(j:Nat)=>m2-j) (λ(j:Nat)=>j<=m2) 0 ?_ ?_ ?_
 ·omega
 ·rw[hw0];refine vk 8 ?_;all_goals exact zFq
 have hidn:Pure AF 59 [.val (.slice AL 0 0)] [] (strD (idR [])):=(zC1 [] 0 rfl (by omega) (by intro v hv;cases hv)).le (.cons LeD.nil_row .nil);intro j h2;rcases AW j m2 with h4'|h4'
 ·have h4:j<b.L.length:=by omega
  have hjn:j<b.n:=by omega
  have hg2:=zCv hbc b.L j h4;have hle:=zEr hbc b.L j h4;have hne:=zDd hbc (by decide) b.L (by omega);have hgd:=hgood2 j h4';have hsu:=zV2 b.L b.f VT TT j;have hvj:=hv j hjn;have htj:=ht j hjn;have hsj:=hS j (by omega);unfold rbad at hgd;unfold rone at hsu;generalize b.L.getD j Af=c at*;by_cases hp:0<=c.p
  ·rw[if_pos hp,A7]at hsu;focus
    refine vAu<|zA<|vT ((j:Int)<(Aa (Ap b):Int))<|vKB<|vA<|vr 3 (ix ↑j (Aa (Ap b):Int) (Ah bgC (Ap b)≠[])/\3<=Aa (Ak (j*3)<|Ah bgC<|Ap b)) ?_;refine vs 33 (AI<|As 3<|Ak (j*3)<|Ah bgC<|Ap b) (AI<|bgC c) (by simp(disch:=omega) only[hg2])<|ve (Ad=Ad/\Ab=Ab/\3=3/\3<=3)<|zA<|vA<|ve (True/\0<1)<|vT (Bb c>=(0:Int))<|vZ<|zB rfl<|vr 2 (i6 (↑j+1)) ?_;refine vnil<|zC ?_;rotate_left
   refine⟨j+1,by omega,by omega,?_⟩;rw[hsu];refine wkn (fr 66 [(0,Ae 4 0),(5,natD (rtL (Ap b) (Ai b) VT TT j)),(6,iD j),(27,(q16_ b)),(28,iD (Aa (Ap b):Int)),(29,iD ↑(j+1)),(36,bD (decide (Bb c>=(0:Int)))),(64,iD ↑(j+1))]) [blI b,blX,blG b,blE b,blB b,blV (fA (Ag b) gv),blT (fA (Ag b) gt),blU c7,(q37_ c)] ?_;refine zA3 (N:=8) (4<8/\True) rfl hnm (λk hk=>zFq k (by omega)) ?_ ⟨by omega,trivial⟩;refine vk 9 ?_;grind [zFq]
  rw [if_neg hp]at hsu;by_cases hf:j<b.f
  ·rw[if_pos hf]at hsu;have hgt:((fA b.n gt).drop j).headD .unk=zGn (TT j):=by rw[zEd hjn];exact htj hf (by omega)
   have hps:=zCa (g:=gt) hjn;have hlk:=look_t (.val (.slice AL 0 0)) (TT j) [];cases e:tlk (TT j) []with
   | none=>
    rw[e]at hlk hsu;dsimp only[Option.getD_none]at hlk hsu;have hmu:Pure AF 86 [natD (rtL b.L b.f VT TT j), .val (.slice AL 0 0)] [] (natD (rtL b.L b.f VT TT j*0)):=(zWg _ 0 hsj Sm.zero).le (.cons (.refl _) (.cons zLq .nil));focus
     refine vAu (zA (vT ((j:Int)<(Aa (Ap b):Int)) (vKB (vA (vr 3 (ix ↑j (Aa (Ap b):Int) (Ah bgC (Ap b)≠[])/\3<=Aa (Ak (j*3) (Ah bgC (Ap b)))) ?_)))));refine vs 33 (AI (As 3 (Ak (j*3) (Ah bgC (Ap b))))) (AI (bgC c)) (by simp(disch:=omega) only[hg2]) (ve (Ad=Ad/\Ab=Ab/\3=3/\3<=3) (zA (vA (ve (True/\0<1) (vF (Bb c>=(0:Int)) (vK (vA (ve (True/\True/\0<9) (vT ((j:Int)<↑(Ai b)) ?_)))))))));refine vd [0,1,2,3,5,4,6,7,8,9,10,11] (vr 7 (True/\0<2/\(0:Int)<=(j:Int)/\(j:Int)<↑(Ag b)) (vo 50 6 j (vr 1 (0<Aa (Ak j (AO (blT (fA (Ag b) gt))))) (vsh 51 hgt (vc hidn (vr 1 (Ab=Ab/\Bq (Ao (λ(p:List Va×Nat)=>kyv (Aw p)) (TT j)) (zW (A8 (A9 A_ "string" 1 16 Ab 8 8 (AG (AJ (A4 #[]))) Ab #[])))=Ab) (vsh 53 hlk (vc hmu (vrT 1 (vnil (zD (vN ?_)))))) ⟨(by kernel_rfl),(by exact zG2 _)⟩))))));refine zB rfl (vr 2 (i6 (↑j+1)) (vnil (zC ?_)));rotate_left
    refine⟨j+1,by omega,by omega,?_⟩;rw[hsu];refine wkn (fr 66 [(0,Ae 4 0),(5,Aj [] (Aa (dg (rtL (Ap b) (Ai b) VT TT j*0)))),(6,iD j),(27,(q16_ b)),(28,iD (Aa (Ap b):Int)),(29,iD ↑(j+1)),(43,bD (decide ((j:Int)<↑(Ai b)))),(44,natD (rtL (Ap b) (Ai b) VT TT j)),(45,Ae 4 0),(46,Ae 4 0),(47,Ae 4 8),(48,Au 6 0 (Ag b) (Ag b) Ab),(49,iD j),(50,Ae 6 j),(51,zGn (TT j)),(52,Am (AJ (YtjcofbkhoeockaaGreatDoor.bs (idR [])))),(53,nl),(54,Aj [] (Aa (dg (rtL (Ap b) (Ai b) VT TT j*0)))),(64,iD ↑(j+1))]) [blI b,blX,blG b,blE b,blB b,blV (fA (Ag b) gv),blT (fA (Ag b) gt),blU c7,(q37_ c)] ?_;refine zA3 (N:=8) (4<8/\True) rfl hnm (λk hk=>zFq k (by omega)) ?_ ⟨by omega,trivial⟩;refine vk 9 ?_;grind [zFq]
   | some w=>
    rw[e]at hlk hsu;dsimp only[BS]at hlk hsu;have hw:Sm w:=by
     grind [tlk,Cp,CH]
    have hmu:=zWg (rtL b.L b.f VT TT j) w hsj hw;focus
     refine vAu (zA (vT ((j:Int)<(Aa (Ap b):Int)) (vKB (vA (vr 3 (ix ↑j (Aa (Ap b):Int) (Ah bgC (Ap b)≠[])/\3<=Aa (Ak (j*3) (Ah bgC (Ap b)))) ?_)))));refine vs 33 (AI (As 3 (Ak (j*3) (Ah bgC (Ap b))))) (AI (bgC c)) (by simp(disch:=omega) only[hg2]) (ve (Ad=Ad/\Ab=Ab/\3=3/\3<=3) (zA (vA (ve (True/\0<1) (vF (Bb c>=(0:Int)) (vK (vA (ve (True/\True/\0<9) (vT ((j:Int)<↑(Ai b)) ?_)))))))));refine vd [0,1,2,3,5,4,6,7,8,9,10,11] (vr 7 (True/\0<2/\(0:Int)<=(j:Int)/\(j:Int)<↑(Ag b)) (vo 50 6 j (vr 1 (0<Aa (Ak j (AO (blT (fA (Ag b) gt))))) (vsh 51 hgt (vc hidn (vr 1 (Ab=Ab/\Bq (Ao (λ(p:List Va×Nat)=>kyv (Aw p)) (TT j)) (zW (A8 (A9 A_ "string" 1 16 Ab 8 8 (AG (AJ (A4 #[]))) Ab #[])))=Ab) (vsh 53 hlk (vc hmu (vrT 1 (vnil (zD (vN ?_)))))) ⟨(by kernel_rfl),(by exact zG2 _)⟩))))));refine zB rfl (vr 2 (i6 (↑j+1)) (vnil (zC ?_)));rotate_left
    refine⟨j+1,by omega,by omega,?_⟩;rw[hsu];refine wkn (fr 66 [(0,Ae 4 0),(5,natD (rtL (Ap b) (Ai b) VT TT j*w)),(6,iD j),(27,(q16_ b)),(28,iD (Aa (Ap b):Int)),(29,iD ↑(j+1)),(43,bD (decide ((j:Int)<↑(Ai b)))),(44,natD (rtL (Ap b) (Ai b) VT TT j)),(45,Ae 4 0),(46,Ae 4 0),(47,Ae 4 8),(48,Au 6 0 (Ag b) (Ag b) Ab),(49,iD j),(50,Ae 6 j),(51,zGn (TT j)),(52,Am (AJ (YtjcofbkhoeockaaGreatDoor.bs (idR [])))),(53,natD w),(54,natD (rtL (Ap b) (Ai b) VT TT j*w)),(64,iD ↑(j+1))]) [blI b,blX,blG b,blE b,blB b,blV (fA (Ag b) gv),blT (fA (Ag b) gt),blU c7,(q37_ c)] ?_;refine zA3 (N:=8) (4<8/\True) rfl hnm (λk hk=>zFq k (by omega)) ?_ ⟨by omega,trivial⟩;refine vk 9 ?_;grind [zFq]
  have hVn:VT j≠[]:=λhh=>by
   grind
  rw[if_neg hf,if_neg hVn,A7]at hsu;have hgt:((fA b.n gv).drop j).headD .unk=zHe (VT j):=by rw[zEd hjn];exact hvj (by omega) (by omega)
  have hps:=zCa (g:=gv) hjn;have hvl:0<((VT j).map kyv).length:=by rw[A6];exact List.length_pos_iff.2 hVn
  focus
   refine vAu<|zA<|vT ((j:Int)<(Aa (Ap b):Int))<|vKB<|vA<|vr 3 (ix ↑j (Aa (Ap b):Int) (Ah bgC (Ap b)≠[])/\3<=Aa (Ak (j*3)<|Ah bgC<|Ap b)) ?_;refine vs 33 (AI<|As 3<|Ak (j*3)<|Ah bgC<|Ap b) (AI<|bgC c) (by simp(disch:=omega) only[hg2])<|ve (Ad=Ad/\Ab=Ab/\3=3/\3<=3)<|zA<|vA<|ve (True/\0<1)<|vF (Bb c>=(0:Int))<|vK<|vA<|ve (True/\True/\0<9)<|vF ((j:Int)<↑(Ai b)) ?_;refine vA<|vr 6 (True/\0<3/\(0:Int)<=(j:Int)/\(j:Int)<↑(Ag b))<|vo 60 5 j<|vr 1 (0<Aa (Ak j<|AO<|blV<|fA (Ag b) gv))<|vsh 61 hgt<|veT<|vEf ((Aa (Ao kyv<|VT j):Int)) ((0:Int))<|zQ<|zD<|vN<|zB rfl<|vr 2 (i6 (↑j+1)) ?_;refine vnil<|zC ?_;rotate_left
  refine⟨j+1,by omega,by omega,?_⟩;rw[hsu];refine wkn (fr 66 [(0,Ae 4 0),(5,natD (rtL (Ap b) (Ai b) VT TT j)),(27,(q16_ b)),(28,iD (Aa (Ap b):Int)),(29,iD ↑(j+1)),(63,bD ((Aa (Ao kyv (VT j)):Int)==(0:Int))),(64,iD ↑(j+1))]) [blI b,blX,blG b,blE b,blB b,blV (fA (Ag b) gv),blT (fA (Ag b) gt),blU c7,(q37_ c)] ?_;refine zA3 (N:=8) (4<8/\True) rfl hnm (λk hk=>zFq k (by omega)) ?_ ⟨by omega,trivial⟩;refine vk 9 ?_;grind [zFq]
 obtain rfl:j=m2:=by omega
 rcases hend with⟨_,h4,rfl,rfl⟩|⟨_,h4,hgd,rfl,rfl⟩
 ·rw[<-h4];focus
   refine vAu<|zA<|vF ((j:Int)<↑j)<|vZ2<|vA ?_;refine veT<|zE ?_;refine zM (True) [natD<|rtL (Ap b) (Ai b) VT TT j] (.inr rfl) ?_;rotate_left
  exact⟨by kernel_rfl,by kernel_rfl⟩
 have hjn:j<b.n:=by omega
 have hg2:=zCv hbc b.L j h4;have hle:=zEr hbc b.L j h4;have hne:=zDd hbc (by decide) b.L (by omega);have hvj:=hv j hjn;unfold rbad at hgd;simp only[BO,decide_eq_true_eq]at hgd;generalize b.L.getD j Af=c at*;have hgt:((fA b.n gv).drop j).headD .unk=zHe (VT j):=by rw[zEd hjn];exact hvj (by omega) (by omega)
 have hps:=zCa (g:=gv) hjn;have hvl:((VT j).map kyv).length=0:=by rw[hgd.2];rfl
 have hc1:¬0<=c.p:=by omega
 have hc2:¬j<b.f:=by omega
 focus
  refine vAu<|zA<|vT ((j:Int)<(Aa (Ap b):Int))<|vKB<|vA<|vr 3 (ix ↑j (Aa (Ap b):Int) (Ah bgC (Ap b)≠[])/\3<=Aa (Ak (j*3)<|Ah bgC<|Ap b)) ?_;refine vs 33 (AI<|As 3<|Ak (j*3)<|Ah bgC<|Ap b) (AI<|bgC c) (by simp(disch:=omega) only[hg2])<|ve (Ad=Ad/\Ab=Ab/\3=3/\3<=3)<|zA<|vA<|ve (True/\0<1)<|vF (Bb c>=(0:Int))<|vK<|vA<|ve (True/\True/\0<9)<|vF ((j:Int)<↑(Ai b)) ?_;refine vA<|vr 6 (True/\0<3/\(0:Int)<=(j:Int)/\(j:Int)<↑(Ag b))<|vo 60 5 j<|vr 1 (0<Aa (Ak j<|AO<|blV<|fA (Ag b) gv))<|vsh 61 hgt<|veT<|vEt ((Aa (Ao kyv<|VT j):Int)) ((0:Int))<|vAe<|zE<|zL<|zG ?_;refine zG<|zL<|zG ?_;refine zM (True) [nl] (.inr rfl) ?_;rotate_left
 exact⟨by kernel_rfl,by kernel_rfl⟩
def ptI(l:List Bu):Nat->List (List Va×Nat)
 |0=>[]
 |j+1=>tput (ptI l j) (l.getD j Af).key j
abbrev pcellK(K:List (List Va×Nat)):D:= .mfz (K.map λp=>kyv p.1) (K.map λp=>iD ((p.2:Nat):Int))
abbrev zDb(l:List Bu):D:=pcellK (ptI l l.length)
abbrev mapI(K:List (List Va×Nat)):Bk:=⟨K.map λp=>iD ((p.2:Nat):Int),128,0,Ab,Ad, .map (K.map λp=>kyv p.1)⟩
theorem mput_i(K:List (List Va×Nat))(r:List Va)(w:Nat):mput (mapI K) (K.map λp=>kyv p.1) (kyv r) (iD ((w:Nat):Int))=mapI (tput K r w):=by
 unfold mput tput;rw[zWq];cases e:K.findIdx? λs=>decide (r=s.1)with
 |none=>simp
 | some i=>
  rw[Cb]at e;obtain⟨h,h1,_⟩:=e;have hr:r=K[i].1:=by simpa using h1
  have e1:(K.map λp=>iD ((p.2:Nat):Int)).set i (iD ((w:Nat):Int))=(K.set i (r,w)).map λp=>iD ((p.2:Nat):Int):=by rw[Ce]
  have e2:(K.set i (r,w)).map (λp=>kyv p.1)=K.map λp=>kyv p.1:=by
   rw[Ce];apply Cf;grind
  simp only[mapI,e1,e2]
def Tas:Par:=⟨λ_=>Ad,λ_ _=>AL,λ_=>Ad,λ_=>Ad,λt=>t==128⟩
theorem Tas_ok:zA9 AF Tas:=by intro t n f h;cases h
theorem keepA:∀k,4<=k->Tas.keep k=false:=λ_ _=>rfl
abbrev ixD(desc:List Bool)(L:List Bg)(U:Nat->List Bu)(tot:Nat):D:= .agg [.row (desc.map bD) desc.length, .row (L.flatMap bgC) L.length, .row (fA desc.length λc=>busD (U c)) desc.length, .row (fA desc.length λc=>zDb (U c)) desc.length,natD tot]
abbrev ixK(c:List D):Bk:=⟨c,46,0,Ad,Ad, .plain⟩
abbrev blU0(c:List D)(fz:Bool):Bk:=⟨c,88,1,Ab,fz, .plain⟩
abbrev blP(c:List D):Bk:=⟨c,128,1,Ab,Ad, .sh⟩
theorem asm_nam{m:Nat}{a b c5 c6:List D}(hm:4<=m)(h6:blw m c6)(hb:blw m b)(ha:blw m a){rest:List Bk}(hr:∀e∈rest,namB m e):∀e∈ixK a::ixK b::blU0 c5 Ad::blP c6::rest,namB m e:=λe he=>by
 simp only[BF]at he;rcases he with rfl|rfl|rfl|rfl|he
 ·exact .inr ha
 ·exact .inr hb
 ·exact .inl rfl
 ·exact .inr h6
 exact hr e he
def uI(U:Nat->List Bu)(i c:Nat):D:=if c<i then busD (U c)else .val (.slice AL 0 0)
def qI(U:Nat->List Bu)(i c:Nat):D:=if c<i then zDb (U c)else .val (.map AL)
theorem zS0(d:D)(n:Nat):repL n [d]=fA n λ_=>d:=by
 rw[<-fA_rep];show(BQ n [d]).flatten=_;simp_all
abbrev q38_(x0:List Bg):=Aj (Ah bgC x0) (Aa x0)
theorem zNv(desc:List Bool)(L:List Bg)(U:Nat->List Bu)(tot:Nat)(hd:desc.length<=1000)(hL:L.length<=1000)(hU:∀c,c<desc.length->(U c).length<=1000000/\∀b∈U c,b.Ok):
  Pure AF 54 [.row (desc.map bD) desc.length, .row (L.flatMap bgC) L.length, .row (fA desc.length λc=>busD (U c)) desc.length,natD tot] [] (ixD desc L U tot):=by
 generalize hn:desc.length=f at*;have hcb:=zTx (desc.map bD) f (by simp[hn]) (by omega);have hcg:=zYs (L.flatMap bgC) L.length (zDi (g:=bgC) (λ_=>rfl) L) (by omega);refine zF Tas_ok mixed Tryz.func54 rfl ?_;have hz1:repL f [.val (.slice AL 0 0)]=fA f (uI U 0):=by
  rw[zS0];exact zB1 λi _=>(if_neg (by omega)).symm
 have hz2:repL f [.val (.map AL)]=fA f (qI U 0):=by
  rw[zS0];exact zB1 λi _=>(if_neg (by omega)).symm
 focus
  refine vAu<|vA<|vrT 1<|vc hcb<|vrT 1<|vc hcg<|ve (((1=1/\1<=5/\1=1/\2<=5/\1=1/\5<=5/\True)/\Ab=Ab)/\Ad=Ad/\Ab=Ab/\5=5/\5<=5)<|zA ?_;refine zA6 [0,1,3,4,2,6,5] [(7,[(5,3)],[8,9])] rfl ?_;refine vr 5 ((0:Int)<=(f:Int)/\(f:Int)<=↑f/\(↑(24:Nat):Int)*(f:Int)<=(281474976710656:Int)/\(f:Int)<=(281474976710656:Int)/\0<1/\1=1)<|vb 2 (An (repL (Ay (f:Int)) [nl]) 88 1 Ab Ad<|kdOf Ad) (An (fA f<|uI U 0) 88 1 Ab Ad<|kdOf Ad) (by simp(disch:=omega) only[AU,hz1])<|vr 2 (True/\(0:Int)<=(f:Int)/\(f:Int)<=↑f/\(↑(8:Nat):Int)*(f:Int)<=(281474976710656:Int)/\(f:Int)<=(281474976710656:Int)/\0<1/\1=1)<|vb 3 (An (repL (Ay (f:Int)) [Am<|Ci AL]) 128 1 Ab Ad<|kdOf Ab) (An (fA f<|qI U 0) 128 1 Ab Ad<|kdOf Ab) (by simp(disch:=omega) only[AU,hz2])<|vnil<|zBy rfl rfl (by kernel_rfl)<|vr 1 (Ad=Ad/\Ab=Ab/\1=1/\3<=5)<|vb 1 (An [Aj (Ao bD desc) f,Aj (Ah bgC L)<|Aa L,Au 2 0 (Ay (f:Int)) (Ay (f:Int)*1) Ab,nl,natD tot] 46 0 Ad Ad Az) (An [Aj (Ao bD desc) f,Aj (Ah bgC L)<|Aa L,Au 2 0 f f Ab,nl,natD tot] 46 0 Ad Ad Az) (by simp(disch:=omega) only[AU,A7]) ?_;refine vnil ?_;refine zE1 (C:=((0:Int)<=(f:Int)/\(f:Int)<=↑f/\(↑(8:Nat):Int)*(f:Int)<=(281474976710656:Int)/\(f:Int)<=(281474976710656:Int)/\0<1/\1=1)/\AG (Au 3 0 (Ay (f:Int)) (Ay (f:Int)*1) Ab)=AG (Au 3 0 (Ay (f:Int)) (Ay (f:Int)*1) Ab)/\eqDL (fA f (qI U 0)) (repL (Ay (f:Int)) [Am (Ci AL)])/\128=128/\1=1/\Ab=Ab/\(kdOf Ab)=kdOf Ab) ⟨(by omega),(by kernel_rfl),(by exact hz2.symm),(by kernel_rfl),(by kernel_rfl),(by kernel_rfl),(by kernel_rfl)⟩ ?_;refine vr 2 (True/\Ad=Ad/\Ab=Ab/\1=1/\4<=5)<|vb 1 (An [Aj (Ao bD desc) f,Aj (Ah bgC L)<|Aa L,Au 2 0 f f Ab,Au 3 0 (Ay (f:Int)) (Ay (f:Int)*1) Ab,natD tot] 46 0 Ad Ad Az) (An [Aj (Ao bD desc) f,Aj (Ah bgC L)<|Aa L,Au 2 0 f f Ab,Au 3 0 f f Ab,natD tot] 46 0 Ad Ad Az) (by simp(disch:=omega) only[AU,A7])<|vnil<|zBt<|vN<|zA<|vAe<|zH ?_;rotate_left
 refine zK (λ(i:Nat)=>fr 69 [(2,Aj (fA f λ(c:Nat)=>busD (U c)) f),(8,Ae 0 0),(9,Ae 1 0),(28,iD f),(29,iD i)]) (λ(i:Nat)=>[ixK [nl0,nl0,nl0,nl0,nl0],ixK [.row (desc.map bD) f,.row (L.flatMap bgC) L.length,.osl 2 0 f f Ab,.osl 3 0 f f Ab,natD tot],blU0 (fA f<|uI U i) Ad,blP<|fA f<|qI U i]) (λ(i:Nat)=>f-i) (λ(i:Nat)=>i<=f) 0 ?_ ?_ ?_
 ·omega
 ·refine vk 4
 intro i h1;rcases AW i f with h3|h3
 ·have hhd:=zEd (g:=λc=>busD (U c)) h3;obtain⟨u1,u2⟩:=hU i h3;have hcp:=copies_c (U i) (U i).length rfl u1 (λb hb=>(u2 b hb).1);have hs1:(fA f (uI U i)).set i (busD (U i))=fA f (uI U (i+1)):=by
   rw[zEs];refine zB1 λc _=>?_;grind [uI]
  have hs2:(fA f (qI U i)).set i (.mref 4)=fA f λc=>if c=i then .mref 4 else qI U i c:=zEs
  have hl1:(fA f (uI U i)).length=f:=zEt;have hl2:(fA f (qI U i)).length=f:=zEt;focus
   refine vAu<|zA<|vT ((i:Int)<↑f)<|vKB<|vAe ?_;refine zA ?_;refine zA6 [0,2,3,5,6,7,8,1,4,9,10,12,11] [(13,[(4,100000),(11,4)],[14,15])] rfl ?_;refine vr 7 (True/\True/\ix ↑i ↑f ((fA f λ(c:Nat)=>busD (U c))≠[])) (vp 40 i (fA f λ(c:Nat)=>busD (U c))<|vr 3 (0<3/\0<2/\0<Aa (Ak i (fA f λ(c:Nat)=>busD (U c)))) (vsh 41 hhd<|vc hcp<|vr 1 ((0:Int)<=(i:Int)/\(i:Int)<↑f)<|vo 44 2 i<|vrT 1<|vnil<|zBy rfl rfl (by kernel_rfl)<|vr 1 (A5 (blU0 (fA f<|uI U i) Ad)=Ad/\Ab=Ab/\1=1/\i+1<=Aa (AO<|blU0 (fA f<|uI U i) Ad)/\¬2∈[])<|vb 2 (An (setAt (AO<|blU0 (fA f<|uI U i) Ad) i<|cellsOf<|Aj (Ah buC<|U i)<|Aa<|U i) (Br<|blU0 (fA f<|uI U i) Ad) (Bs<|blU0 (fA f<|uI U i) Ad) Ab Ad<|Bj<|blU0 (fA f<|uI U i) Ad) (An (fA f<|uI U (i+1)) (88:TypeId) 1 Ab Ad Az) (by simp(disch:=omega) only[cellsOf,setAt,hs1])<|vnil ?_) ⟨(by omega),(by omega),(by exact zCa h3)⟩) ⟨trivial,trivial,⟨(by omega),⟨(by omega),(by exact fA_ne h3)⟩⟩⟩;refine zE1 (C:=0<2/\AG (Au 3 0 f f Ab)=AG (Bt [Au 3 0 f f Ab,natD tot] Uk)/\True/\AG (AT 4)=AG (AT 4)/\eqDL [] []/\128=128/\0=0/\Ab=Ab/\(BG [])=BG []) ⟨(by omega),(by kernel_rfl),trivial,(by kernel_rfl),rfl,(by kernel_rfl),(by kernel_rfl),(by kernel_rfl),(by kernel_rfl)⟩ ?_;refine vr 1 ((0:Int)<=(i:Int)/\(i:Int)<↑f)<|vo 45 3 i<|vr 1 (A5 (blP<|fA f<|qI U i)=Ad/\zD4 (AT 4)=Ab/\1=1/\i+1<=Aa (AO<|blP<|fA f<|qI U i))<|vb 3 (An (setAt (AO<|blP<|fA f<|qI U i) i<|cellsOf<|AT 4) (Br<|blP<|fA f<|qI U i) (Bs<|blP<|fA f<|qI U i) Ab Ad<|Bj<|blP<|fA f<|qI U i) (An (fA f λ(c:Nat)=>if c=i then AT 4 else qI U i c) (128:TypeId) 1 Ab Ad Ba) (by simp(disch:=omega) only[cellsOf,setAt,hs2])<|vnil<|zBt<|zC<|vnn (fr 69 [(2,Aj (fA f λ(c:Nat)=>busD (U c)) f),(8,Ae 0 0),(9,Ae 1 0),(10,iD i),(28,iD f),(29,iD i),(32,Ae 1 2),(33,Au 2 0 f f Ab),(34,iD i),(35,Ae 1 3),(36,Au 3 0 f f Ab),(37,iD i),(38,Aj (fA f λ(c:Nat)=>busD (U c)) f),(39,iD i),(40,AM<|Ak i (fA f λ(c:Nat)=>busD (U c))),(41,busD<|U i),(42,Aj (Ah buC<|U i)<|Aa<|U i),(43,AT 4),(44,Ae 2 i),(45,Ae 3 i)]) [ixK [nl0,nl0,nl0,nl0,nl0],ixK [Aj (Ao bD desc) f,Aj (Ah bgC L)<|Aa L,Au 2 0 f f Ab,Au 3 0 f f Ab,natD tot],An (fA f<|uI U (i+1)) (88:TypeId) 1 Ab Ad Az,An (fA f λ(c:Nat)=>if c=i then AT 4 else qI U i c) (128:TypeId) 1 Ab Ad Ba,An [] 128 0 Ab Ad<|BG []] ?_;rotate_left
  have hg1:((fA f (uI U (i+1))).drop i).headD .unk=busD (U i):=by rw[zEd h3];exact if_pos (by omega)
  have hg2:((fA f λc=>if c=i then .mref 4 else qI U i c).drop i).headD .unk= .mref 4:=by rw[zEd h3];exact if_pos rfl
  focus
   refine zA4<|vAs<|vr 4 (True/\0<3/\(0:Int)<=(i:Int)/\(i:Int)<↑f)<|vo 49 2 i<|vr 1 (0<Aa (Ak i<|fA f<|uI U (i+1))) (vsh 50 hg1<|veT<|zH ?_) (by exact zCa h3);rotate_left
  have hq:∀m,5<=m->blw m (fA f λc=>if c=i then .mref 4 else qI U i c):=λm hm=>zEw.2 λc hc j hj=>by
   grind [refs,qI]
  have hnm:∀K,∀e∈[ixK [nl0,nl0,nl0,nl0,nl0],ixK [.row (desc.map bD) f, .row (L.flatMap bgC) L.length, .osl 2 0 f f Ab, .osl 3 0 f f Ab,natD tot],blU0 (fA f (uI U (i+1))) Ad,blP (fA f λc=>if c=i then .mref 4 else qI U i c),mapI K],namB 5 e:=λK=>asm_nam (by omega) (hq 5 (by omega)) (λj hj=>by simp[zV,refs];omega) (λj hj=>by simp[zV,refs]) λe he=>by
   rw[BE]at he;subst he;exact .inl rfl
  refine zK (λ(j:Nat)=>fr 69 [(2,Aj (fA f λ(c:Nat)=>busD (U c)) f),(8,Ae 0 0),(9,Ae 1 0),(10,iD i),(28,iD f),(29,iD i),(50,busD<|U i),(51,iD (Aa (U i):Int)),(52,iD j)]) (λ(j:Nat)=>[ixK [nl0,nl0,nl0,nl0,nl0],ixK [.row (desc.map bD) f,.row (L.flatMap bgC) L.length,.osl 2 0 f f Ab,.osl 3 0 f f Ab,natD tot],blU0 (fA f<|uI U (i+1)) Ad,blP (fA f λc=>if c=i then .mref 4 else qI U i c),mapI<|ptI (U i) j]) (λ(j:Nat)=>(U i).length-j) (λ(j:Nat)=>j<=(U i).length) 0 ?_ ?_ ?_
  ·omega
  ·refine vk 5
  intro j h4;rcases AW j (U i).length with h5|h5
  ·have hgt2:=zCv zCd (U i) j h5;have hgle:=zEr zCd (U i) j h5;have hgne:=zDd zCd (by decide) (U i) (by omega);have hmem:(U i).getD j Af∈U i:=by rw[AZ,AS h5];exact A2 h5
   have hbk:=u2 _ hmem;have hsu:ptI (U i) (j+1)=tput (ptI (U i) j) ((U i).getD j Af).key j:=rfl;generalize ptI (U i) j=K at*;generalize (U i).getD j Af=u at*;have hid:=zC1 u.key u.key.length rfl hbk.1 hbk.2;have hmp:=mput_i K u.key j;have hnm2:=hnm (tput K u.key j);focus
    refine vAu (zA (vT ((j:Int)<(Aa (U i):Int)) (vKB (vA (vr 3 (ix ↑j (Aa (U i):Int) (Ah buC (U i)≠[])/\3<=Aa (Ak (j*3) (Ah buC (U i)))) ?_)))));refine vs 56 (AI (As 3 (Ak (j*3) (Ah buC (U i))))) (AI (buC u)) (by simp(disch:=omega) only[hgt2]) (ve (Ad=Ad/\Ab=Ab/\3=3/\3<=3) (vd [0,2,5,8,1,3,4,6,7,9] (vr 6 (True/\True/\0<2/\(0:Int)<=(i:Int)/\(i:Int)<↑f) (vo 60 3 i (vr 1 (0<Aa (Ak i (AO (blP (fA f λ(c:Nat)=>if c=i then AT 4 else qI U i c))))) (vsh 61 hg2 (vr 1 (0<3) (vc hid (vr 1 (A5 (mapI K)=Ad/\zW (A8 (A9 A_ "string" 1 16 Ab 8 8 (AG (AJ (A4 #[]))) Ab #[])) (AJ (bs (idR (Bu.key u))))=Ab/\Bq (Ao (λ(p:List Va×Nat)=>kyv (Aw p)) K) (zW (A8 (A9 A_ "string" 1 16 Ab 8 8 (AG (AJ (A4 #[]))) Ab #[])))=Ab/\¬4∈[]) (vb 4 (mput (mapI K) (Ao (λ(p:List Va×Nat)=>kyv (Aw p)) K) (AJ (bs (idR (Bu.key u)))) (iD j)) (mapI (tput K (Bu.key u) j)) (by simp(disch:=omega) only[hmp]) (vnil (zD (zC ?_)))) ⟨(by kernel_rfl),⟨(by kernel_rfl),⟨(by exact zG2 _),(by decide)⟩⟩⟩)))) (by exact zCa h3))))));refine zA4 (zB rfl (vr 2 (i6 (↑j+1)) (vnil (zC ?_))));rotate_left
   refine⟨j+1,by omega,by omega,?_⟩;rw[hsu];refine wkn (fr 69 [(2,Aj (fA f λ(c:Nat)=>busD (U c)) f),(8,Ae 0 0),(9,Ae 1 0),(10,iD i),(11,iD j),(12,Ae 5 0),(28,iD f),(29,iD i),(50,busD (U i)),(51,iD (Aa (U i):Int)),(52,iD ↑(j+1)),(57,Ae 1 3),(58,Au 3 0 f f Ab),(59,iD i),(60,Ae 3 i),(61,AT 4),(62,Ae 5 0),(63,(q36_ u)),(64,Am (AJ (bs (idR (Bu.key u))))),(65,iD j),(66,iD ↑(j+1))]) [ixK [nl0,nl0,nl0,nl0,nl0],ixK [Aj (Ao bD desc) f,(q38_ L),Au 2 0 f f Ab,Au 3 0 f f Ab,natD tot],blU0 (fA f (uI U (i+1))) Ad,blP (fA f λ(c:Nat)=>if c=i then AT 4 else qI U i c),mapI (tput K (Bu.key u) j),An [(q36_ u),bD (Bu.desc u),AD (WT.d (Bu.t u))] 91 0 Ad Ad Az] ?_;refine zA3 (N:=5) (0<5/\1<5/\True) rfl hnm2 (λk hk=>rfl) ?_ ⟨by omega,by omega,trivial⟩;refine vk 6
  obtain rfl:j=(U i).length:=by omega
  focus
   refine vAu<|zA<|vF ((Aa (U i):Int)<(Aa (U i):Int))<|vY2<|zD<|vN<|zB rfl ?_;refine vr 2 (i6 (↑i+1))<|vnil<|zC ?_;rotate_left
  refine⟨i+1,by omega,by omega,?_⟩;have e2:(fA f λc=>if c=i then .mref 4 else qI U i c).set i (zDb (U i))=fA f (qI U (i+1)):=by
   rw[zEs];refine zB1 λc _=>?_;grind [qI]
  have hnm4:∀e∈[ixK [nl0,nl0,nl0,nl0,nl0],ixK [.row (desc.map bD) f, .row (L.flatMap bgC) L.length, .osl 2 0 f f Ab, .osl 3 0 f f Ab,natD tot],blU0 (fA f (uI U (i+1))) Ad,blP (fA f (qI U (i+1)))],namB 4 e:=asm_nam (AY _) (zEw.2 λc hc j hj=>by unfold qI;split<;>rfl) (λj hj=>by simp[zV,refs];omega) (λj hj=>by simp[zV,refs]) (by simp);refine wkn (fr 69 [(2,Aj (fA f λ(c:Nat)=>busD (U c)) f),(8,Ae 0 0),(9,Ae 1 0),(10,iD i),(28,iD f),(29,iD ↑(i+1)),(50,busD (U i)),(51,iD (Aa (U i):Int)),(52,iD (Aa (U i):Int)),(53,bD (decide ((Aa (U i):Int)<(Aa (U i):Int)))),(67,iD ↑(i+1))]) [ixK [nl0,nl0,nl0,nl0,nl0],ixK [Aj (Ao bD desc) f,(q38_ L),Au 2 0 f f Ab,Au 3 0 f f Ab,natD tot],blU0 (fA f (uI U (i+1))) Ad,blP (fA f λ(c:Nat)=>if c=i then AT 4 else qI U i c),mapI (ptI (U i) (Aa (U i)))] ?_;refine Weak.trans (BV (j:=3) (i:=i) (ej:=blP (fA f λc=>if c=i then .mref 4 else qI U i c)) (d:= .mref 4) (x:=zDb (U i)) (ks:=[4]) rfl rfl rfl (by rw[zXf h3];exact congrArg AG (if_pos rfl)) rfl (by decide)) ?_;show Weak Tas _ ([ixK [nl0,nl0,nl0,nl0,nl0],ixK [.row (desc.map bD) f, .row (L.flatMap bgC) L.length, .osl 2 0 f f Ab, .osl 3 0 f f Ab,natD tot],blU0 (fA f (uI U (i+1))) Ad,blP ((fA f λc=>if c=i then .mref 4 else qI U i c).set i (zDb (U i)))]++[{mapI (ptI (U i) (U i).length)with fz:=Ab}]) _ _;rw[e2];refine zA3 (N:=4) (0<4/\1<4/\True) rfl hnm4 keepA ?_ ⟨by omega,by omega,trivial⟩;refine vk 5
 obtain rfl:i=f:=by omega
 have hu1:fA i (uI U i)=fA i λc=>busD (U c):=zB1 λc hc=>if_pos hc;have hq1:fA i (qI U i)=fA i λc=>zDb (U c):=zB1 λc hc=>if_pos hc;rw[hu1,hq1];have ht1:(fA i λc=>busD (U c)).take i=fA i λc=>busD (U c):=BC (by rw[zEt];exact AY _);have ht2:(fA i λc=>zDb (U c)).take i=fA i λc=>zDb (U c):=BC (by rw[zEt];exact AY _);have hW:∀sl,Weak Tas sl [ixK [nl0,nl0,nl0,nl0,nl0],ixK [.row (desc.map bD) i, .row (L.flatMap bgC) L.length, .osl 2 0 i i Ab, .osl 3 0 i i Ab,natD tot],blU0 (fA i λc=>busD (U c)) Ad,blP (fA i λc=>zDb (U c))] sl
   [ixK [nl0,nl0,nl0,nl0,nl0],ixK [.row (desc.map bD) i, .row (L.flatMap bgC) L.length, .row (fA i λc=>busD (U c)) i, .row (fA i λc=>zDb (U c)) i,natD tot],blU0 (fA i λc=>busD (U c)) Ab,⟨fA i λc=>zDb (U c),128,1,Ab,Ab, .plain⟩]:=λsl=>by
  refine(Weak.unsh (k:=3) (e:=blP (fA i λc=>zDb (U c))) rfl rfl rfl (λj=>(zEw (m:=0)).2 (λc hc j hj=>rfl) j (Bl _))).trans ?_;refine(BV (T:=Tas) (st:=[ixK [nl0,nl0,nl0,nl0,nl0],ixK [.row (desc.map bD) i, .row (L.flatMap bgC) L.length, .osl 2 0 i i Ab, .osl 3 0 i i Ab,natD tot],blU0 (fA i λc=>busD (U c)) Ad,⟨fA i λc=>zDb (U c),128,1,Ab,Ad, .plain⟩]) (j:=1) (i:=2) (ej:=ixK [.row (desc.map bD) i, .row (L.flatMap bgC) L.length, .osl 2 0 i i Ab, .osl 3 0 i i Ab,natD tot]) (d:= .osl 2 0 i i Ab) (x:= .row (fA i λc=>busD (U c)) i) (ks:=[2]) rfl rfl rfl rfl ?_ (by decide)).trans ?_
  ·rw[show zAc=8+1 from rfl,zJn (e:=blU0 (fA i λc=>busD (U c)) Ad) rfl rfl rfl];grind
  refine BV (T:=Tas) (st:=[ixK [nl0,nl0,nl0,nl0,nl0],ixK [.row (desc.map bD) i, .row (L.flatMap bgC) L.length, .row (fA i λc=>busD (U c)) i, .osl 3 0 i i Ab,natD tot],blU0 (fA i λc=>busD (U c)) Ab,⟨fA i λc=>zDb (U c),128,1,Ab,Ad, .plain⟩]) (j:=1) (i:=3) (ej:=ixK [.row (desc.map bD) i, .row (L.flatMap bgC) L.length, .row (fA i λc=>busD (U c)) i, .osl 3 0 i i Ab,natD tot]) (d:= .osl 3 0 i i Ab) (x:= .row (fA i λc=>zDb (U c)) i) (ks:=[3]) rfl rfl rfl rfl ?_ (by decide);rw[show zAc=8+1 from rfl,zJn (e:=⟨fA i λc=>zDb (U c),128,1,Ab,Ad, .plain⟩) rfl rfl rfl];grind
 focus
  refine vAu<|zA<|vF ((i:Int)<↑i)<|vY2<|zC<|vnn (fr 69 [(2,Aj (fA i λ(c:Nat)=>busD (U c)) i),(8,Ae 0 0),(9,Ae 1 0),(28,iD i),(29,iD i),(30,bD<|decide ((i:Int)<↑i))]) [ixK [nl0,nl0,nl0,nl0,nl0],ixK [Aj (Ao bD desc) i,(q38_ L),Au 2 0 i i Ab,Au 3 0 i i Ab,natD tot],blU0 (fA i λ(c:Nat)=>busD (U c)) Ad,blP (fA i λ(c:Nat)=>zDb (U c))] ?_;rotate_left
 refine zB7 (hW _) ?_;focus
  refine vAs<|ve (5<=5/\Ad=Ad/\Ab=Ab/\5=5/\5<=5)<|zE ?_;refine vre (5<=5) (AI [Aj (Ao bD desc) i,(q38_ L),Aj (fA i λ(c:Nat)=>busD (U c)) i,Aj (fA i λ(c:Nat)=>zDb (U c)) i,natD tot]) (.inr rfl) ?_;rotate_left
 subst hn;rfl
def pbad(f n:Int)(P:List Int)(i:Nat):Bool:=decide (P.getD i 0<f)||decide (n<=P.getD i 0)||decide (P.getD i 0∈P.take i)
def pany(f n:Int)(P:List Int):Bool:=(AQ P.length).any (pbad f n P)
def icE(n f:Int)(dn:Nat)(P:List Int)(ats:List At):Int:=
 if n<0\/32<n\/f<0\/n<f then 3 else if(dn:Int)≠f\/(P.length:Int)≠n-f then 1 else if pany f n P=Ab then 1 else lfE n ats
abbrev inpD(n f:Int)(desc:List Bool)(P:List Int)(ats:List At):D:= .agg [iD n,iD f, .row (desc.map bD) desc.length, .row (P.map λz=>iD z) P.length, .row (ats.flatMap atC) ats.length]
abbrev inpB(n f:Int)(desc:List Bool)(P:List Int)(ats:List At):Bk:=⟨[iD n,iD f, .row (desc.map bD) desc.length, .row (P.map λz=>iD z) P.length, .row (ats.flatMap atC) ats.length],31,0,Ad,Ad, .plain⟩
abbrev booB(l:List D):Bk:=⟨l,4,1,Ab,Ad, .plain⟩
def seeF(P:List Int)(i u:Nat):Bool:=decide ((u:Int)∈P.take i)
theorem icheck_c(n f:Int)(desc:List Bool)(P:List Int)(ats:List At)(hd:desc.length<=2000000)(hP:P.length<=2000000)(ha:ats.length<=2000000)(hl:∀a∈ats,a.V.length<=2000000)(hlf:0<=n->n<=32->Pure AF 14 [iD n, .row (ats.flatMap atC) ats.length] [] (iD (lfE n ats))):
  Pure AF 16 [inpD n f desc P ats] [] (iD (icE n f desc.length P ats)):=by
 by_cases h1:n<0\/32<n\/f<0\/n<f
 ·unfold icE;rw[if_pos h1];refine zF zA5 mixed Tryz.func16 rfl ?_;focus
   refine vAu<|zA<|vA<|vr 4 (True/\0<5) ?_;refine vsp 9 (decide (n<0)) (λhc=>?_)<|λhc=>?_;simp only[decide_eq_true_eq]at hc;refine veT<|vt<|vAe<|zE<|zG<|vret (True)<|.inr rfl;simp only[decide_eq_false_iff_not]at hc;refine vr 5 (True/\0<5) ?_;refine vsp 14 (decide (n>(32:Int))) (λhc=>?_)<|λhc=>?_;simp only[decide_eq_true_eq]at hc;refine veT<|vt<|vAe<|zE<|zG<|vret (True)<|.inr rfl;simp only[decide_eq_false_iff_not]at hc;refine vr 5 (True/\0<4) ?_;refine vsp 19 (decide (f<0)) (λhc=>?_)<|λhc=>?_;simp only[decide_eq_true_eq]at hc;refine veT<|vt<|vAe<|zE<|zG<|vret (True)<|.inr rfl;simp only[decide_eq_false_iff_not]at hc;refine ve (True/\0<4/\True/\0<5)<|vT (f>n)<|vAe<|zE<|zG<|vret (True)<|.inr rfl
 by_cases h2:(desc.length:Int)≠f\/(P.length:Int)≠n-f
 ·unfold icE;rw[if_neg h1,if_pos h2];refine zF zA5 mixed Tryz.func16 rfl ?_;focus
   refine vAu<|zA<|vA<|vew [] [(3,Ad),(8,Ad),(13,Ad)] (True/\0<5/\decide (n<0)=Ad/\True/\0<5/\decide (n>(32:Int))=Ad/\True/\0<4/\decide (f<0)=Ad/\True/\0<4/\True/\0<5)<|vF (f>n)<|vK<|zA<|zA ?_;refine zB rfl<|vr 7 (True/\0<3/\True/\0<4/\True) ?_;refine vsp 32 ((Aa desc:Int)!=f) (λhc=>?_)<|λhc=>?_;simp only[bne_iff_ne]at hc;refine veT<|vt<|vAe<|zE<|zG<|vret (True)<|.inr rfl;simp only[bne_eq_false_iff_eq]at hc;refine ve (True/\0<2/\True/\0<5/\True/\0<4/\i6 (n-f)/\True)<|zEu (t:=(Aa P:Int)!=n-f) (by kernel_rfl) (by simpa using by omega)<|vAe<|zE<|zG<|vret (True)<|.inr rfl
 unfold icE;rw[if_neg h1,if_neg h2];obtain⟨k,rfl⟩:∃k:Nat,n=(k:Int):=⟨n.toNat,by omega⟩;have hk:=hlf (by omega) (by omega);obtain⟨m,hm,hgood,hend⟩:∃m,m<=P.length/\(∀j,j<m->pbad f k P j=Ad)/\((m=P.length/\pany f k P=Ad)\/(m<P.length/\pbad f k P m=Ab/\pany f k P=Ab)):=by
  by_cases h3:∃p,p<P.length/\pbad f k P p=Ab
  ·obtain⟨p,hp,hpb,hmin⟩:=zD1 h3;grind [pany,BY]
  refine⟨P.length,AY _,λj hj=>?_, .inl ⟨rfl,?_⟩⟩;all_goals grind [pbad,pany,BY]
 have hz:repL k [bD Ad]=fA k λu=>bD (seeF P 0 u):=by
  grind [zS0,zB1,seeF]
 refine zF zA5 mixed Tryz.func16 rfl ?_;focus
  refine vAu<|zA<|vA<|vew [] [(3,Ad),(8,Ad),(13,Ad)] (True/\0<5/\decide ((k:Int)<0)=Ad/\True/\0<5/\decide ((k:Int)>(32:Int))=Ad/\True/\0<4/\decide (f<0)=Ad/\True/\0<4/\True/\0<5)<|vF (f>(k:Int))<|vK<|zA<|zA ?_;refine zB rfl<|vew [] [(6,Ad)] (True/\0<3/\True/\0<4/\True/\((Aa desc:Int)!=f)=Ad/\True/\0<2/\True/\0<5/\True/\0<4/\i6 ((k:Int)-f)/\True)<|zEv (t:=(Aa P:Int)!=(k:Int)-f) (by kernel_rfl) (by simpa using by omega)<|vK<|vA<|vr 3 (True/\0<5/\(0:Int)<=(k:Int)/\(k:Int)<=↑k/\(↑(1:Nat):Int)*(k:Int)<=(281474976710656:Int)/\(k:Int)<=(281474976710656:Int)/\0<1/\1=1)<|vb 1 (An (repL (Ay (k:Int)) [bD Ad]) 4 1 Ab Ad<|kdOf Ad) (An (fA k λ(u:Nat)=>bD (seeF P 0 u)) 4 1 Ab Ad<|kdOf Ad) (by simp(disch:=omega) only[AU,hz])<|vrT 1<|vs 3 (Au 1 0 (Ay (k:Int)) (Ay (k:Int)*1) Ab) (Au 1 0 k k Ab) (by simp(disch:=omega) only[AU,A7])<|veT<|zA ?_;refine vA<|ve (True/\0<2)<|zH ?_;rotate_left
 refine zK (λ(i:Nat)=>fr 78 [(1,Ae 0 0),(3,Au 1 0 k k Ab),(47,Aj (Ao (λ(z:Int)=>iD z) P)<|Aa P),(48,iD<|Aa P),(49,iD i)]) (λ(i:Nat)=>[inpB k f desc P ats,booB (fA k λu=>bD (seeF P i u))]) (λ(i:Nat)=>m-i) (λ(i:Nat)=>i<=m) 0 ?_ ?_ ?_
 ·omega
 ·refine vk 2
 intro i h3;have hPd:∀j,j<P.length->((P.map λz=>iD z).drop j).headD .unk=iD (P.getD j 0):=λj hj=>zBc (λz:Int=>iD z) P 0 j hj;have hPn:0<P.length->(P.map λz=>iD z)≠[]:=λh=>zAm h;rcases AW i m with h4|h4
 ·have h5:i<P.length:=by omega
  have hhd:=hPd i h5;have hne:=hPn (by omega);have hgd:=hgood i h4;unfold pbad at hgd;have htk:P.take (i+1)=P.take i++[P.getD i 0]:=by rw[Bn h5,AZ,AS h5];rfl
  generalize P.getD i 0=z at*;simp only[Cr,decide_eq_false_iff_not]at hgd;obtain⟨⟨g1,g2⟩,g3⟩:=hgd;obtain⟨v,rfl⟩:∃v:Nat,z=(v:Int):=⟨z.toNat,by omega⟩;have hvk:v<k:=by omega
  have hse:((fA k λu=>bD (seeF P i u)).drop v).headD .unk=bD false:=by
   grind [zEd,seeF]
  have hset:(fA k λu=>bD (seeF P i u)).set v (bD Ab)=fA k λu=>bD (seeF P (i+1) u):=by
   rw[zEs];refine zB1 λu _=>?_;grind [seeF]
  have hfl:(fA k λu=>bD (seeF P i u)).length=k:=zEt;focus
   refine vAu<|zA<|vT ((i:Int)<↑(Aa P))<|vKB<|vA<|vr 1 (ix ↑i ↑(Aa P) (Ao (λ(z:Int)=>iD z) P≠[])) ?_;refine vp 51 i (Ao (λ(z:Int)=>iD z) P)<|vr 1 (0<Aa (Ak i<|Ao (λ(z:Int)=>iD z) P))<|vsh 52 hhd<|veT<|zA<|vA<|vw 14 [] [(4,Ad),(10,Ad)] (True/\0<4/\decide ((v:Int)<f)=Ad/\True/\0<5/\decide ((v:Int)>=(k:Int))=Ad/\(0:Int)<=(v:Int)/\(v:Int)<↑k)<|vo 66 1 v<|vr 1 (0<Aa (Ak v<|AO<|booB (fA k λ(u:Nat)=>bD (seeF P i u))))<|vsh 67 hse<|veT<|vf<|zQ ?_;refine vN<|zB rfl<|vr 3 ((0:Int)<=(v:Int)/\(v:Int)<↑k)<|vo 71 1 v<|vr 1 (A5 (booB (fA k λ(u:Nat)=>bD (seeF P i u)))=Ad/\Ab=Ab/\1=1/\v+1<=Aa (AO<|booB (fA k λ(u:Nat)=>bD (seeF P i u)))/\¬1∈[])<|vnil<|zD<|vN<|zB rfl<|vr 2 (i6 (↑i+1))<|vnil<|zC ?_;rotate_left
  refine⟨i+1,by omega,by omega,?_⟩;rw[<-hset];refine vk 2
 obtain rfl:i=m:=by omega
 rcases hend with⟨rfl,hpa⟩|⟨h5,hpb,hpa⟩
 ·rw[hpa,if_neg (by decide)];focus
   refine vAu<|zA<|vF ((Aa P:Int)<↑(Aa P))<|vZ2<|vA ?_;refine vr 4 (True/\0<5/\True/\0<1)<|vc hk<|veT<|zE<|vret (True)<|.inr rfl
 rw [hpa,if_pos rfl];have hhd:=hPd i h5;have hne:=hPn (by omega);unfold pbad at hpb;generalize P.getD i 0=z at*;simp only[Cm,decide_eq_true_eq]at hpb;by_cases g1:z<f
 ·focus
   refine vAu<|zA<|vT ((i:Int)<↑(Aa P))<|vKB<|vA<|vr 1 (ix ↑i ↑(Aa P) (Ao (λ(z:Int)=>iD z) P≠[])) ?_;refine vp 51 i (Ao (λ(z:Int)=>iD z) P)<|vr 1 (0<Aa (Ak i<|Ao (λ(z:Int)=>iD z) P))<|vsh 52 hhd<|veT<|zA<|vA<|vew [] [(4,Ab)] (True/\0<4/\decide (z<f)=Ab)<|vt<|vAe<|zE<|zG ?_;refine zL<|zG<|zG<|zL<|zG<|vret (True)<|.inr rfl
 by_cases g2:(k:Int)<=z
 ·focus
   refine vAu<|zA<|vT ((i:Int)<↑(Aa P))<|vKB<|vA<|vr 1 (ix ↑i ↑(Aa P) (Ao (λ(z:Int)=>iD z) P≠[])) ?_;refine vp 51 i (Ao (λ(z:Int)=>iD z) P)<|vr 1 (0<Aa (Ak i<|Ao (λ(z:Int)=>iD z) P))<|vsh 52 hhd<|veT<|zA<|vA<|vew [] [(4,Ad),(10,Ab)] (True/\0<4/\decide (z<f)=Ad/\True/\0<5/\decide (z>=(k:Int))=Ab)<|vt<|vAe<|zE<|zG ?_;refine zL<|zG<|zG<|zL<|zG<|vret (True)<|.inr rfl
 obtain⟨v,rfl⟩:∃v:Nat,z=(v:Int):=⟨z.toNat,by omega⟩;have hvk:v<k:=by omega
 have hse:((fA k λu=>bD (seeF P i u)).drop v).headD .unk=bD true:=by
  grind [zEd,seeF]
 focus
  refine vAu<|zA<|vT ((i:Int)<↑(Aa P))<|vKB<|vA<|vr 1 (ix ↑i ↑(Aa P) (Ao (λ(z:Int)=>iD z) P≠[])) ?_;refine vp 51 i (Ao (λ(z:Int)=>iD z) P)<|vr 1 (0<Aa (Ak i<|Ao (λ(z:Int)=>iD z) P))<|vsh 52 hhd<|veT<|zA<|vA<|vw 14 [] [(4,Ad),(10,Ad)] (True/\0<4/\decide ((v:Int)<f)=Ad/\True/\0<5/\decide ((v:Int)>=(k:Int))=Ad/\(0:Int)<=(v:Int)/\(v:Int)<↑k)<|vo 66 1 v<|vr 1 (0<Aa (Ak v<|AO<|booB (fA k λ(u:Nat)=>bD (seeF P i u)))) (vsh 67 hse<|veT<|vt<|zA ?_) (by exact zCa hvk);refine zB rfl<|veT<|zE<|zG<|zL<|zG<|zG<|zL<|zG<|vret (True)<|.inr rfl
end
abbrev toAt(a:List Nat×List Rw):At:=⟨a.1.map λv:Nat=>(v:Int),(a.1.length:Nat),a.2⟩
theorem toAt_fl(A:List (List Nat×List Rw)):(A.map toAt).flatMap atC=A.flatMap atR:=by
 rw[List.flatMap_map];refine congrArg (λf=>Ah f A) (funext λa=>?_);simp_all
theorem zVk{n:Nat}{A:List (List Nat×List Rw)}(h:Vok n A.length λi=>(A.getD i Af).1):∀a∈A,a.1.Pairwise (· <·)/\∀v∈a.1,v<n:=λa ha=>by
 obtain⟨i,hi,rfl⟩:=BP ha;have h1:=h.asc i hi;have h2:=h.lt i hi;simp only[AZ,AS hi,BS]at h1 h2;exact⟨h1,h2⟩
theorem atE_ok{n:Nat}{a:List Nat×List Rw}(h1:a.1.Pairwise (· <·))(h2:∀v∈a.1,v<n):atE (n:Nat) (toAt a)=0:=by
 have ha:ascB (toAt a).V=true:=by
  unfold ascB;rw[BD];intro i hi;have hi:i<a.1.length:=by
   grind
  unfold zVd;rcases Cd i with h0|h0
  ·grind
  have h3:=List.pairwise_iff_getElem.1 h1 (i-1) i (by omega) hi (by omega);grind
 simp_all [toAt,inB,BD,A1,atE,A6]
theorem zXm(n:Nat)(A:List (List Nat×List Rw))(hn:n<=32)(hA:A.length<=32)(hV:Vok n A.length λi=>(A.getD i Af).1):Pure AF 14 [iD (n:Nat), .row (A.flatMap atR) A.length] [] (iD 0):=by
 have hv:=zVk hV;have h:=zRk n (A.map toAt) hn (by rwa[A6]) (λa ha=>by
  obtain⟨b,hb,rfl⟩:=A1.1 ha;obtain⟨h1,h2⟩:=hv b hb;show(b.1.map λv:Nat=>(v:Int)).length<=_;rw[A6]
  have:=zJv (n:=n) 0 h1 λw hw=>⟨Bl _,h2 w hw⟩
  omega)
 rw[toAt_fl,A6]at h;have h0:atL (n:Nat) (A.map toAt)=0:=atL_0 λj hj=>by
  rw[A6]at hj;have e:(A.map toAt).getD j Af=toAt A[j]:=by
   grind
  grind [A2,atE_ok]
 have hu:(useP n (A.map toAt) []).contains Ad=false:=by
  rw[Bool.eq_false_iff];intro hc;rw[List.contains_iff_mem]at hc;unfold useP at hc;obtain⟨v,hv1,hv2⟩:=A1.1 hc;obtain⟨i,hi,hm⟩:=hV.cov v (Cc.1 hv1);rw[Cr]at hv2;have h3:=List.any_eq_false.1 hv2.1 (toAt A[i]) (A1.2 ⟨A[i],A2 hi,rfl⟩);grind
 grind
theorem rle_tr{a b c:Rw}(h1:rcmp a b<=0)(h2:rcmp b c<=0):rcmp a c<=0:=by
 rcases Int.lt_or_eq_of_le h1 with h1|h1;all_goals grind [Int.lt_or_eq_of_le,Int.le_of_lt,zPb,zB4]
theorem zQ6:∀{L:List Rw},(∀j,0<j->j<L.length->rcmp (L.getD (j-1) []) (L.getD j [])<=0)->L.Pairwise λa b=>rcmp a b<=0
 |[],_=>List.Pairwise.nil
 |[a],_=>List.pairwise_singleton _ _
 | a::b::L,h=>by
  have ih:(b::L).Pairwise λa b=>rcmp a b<=0:=zQ6 λj h0 hj=>by
   have:=h (j+1) (by omega) (by simpa using hj)
   rw[Nat.add_sub_cancel]at this;obtain⟨i,rfl⟩:∃i,j=i+1:=⟨j-1,by omega⟩;simpa using this
  have h0:rcmp a b<=0:=by simpa using h 1 (by omega) (by simp)
  refine BZ.2 ⟨λx hx=>?_,ih⟩;rcases BF.1 hx with rfl|hx
  ·exact h0
  exact rle_tr h0 ((BZ.1 ih).1 x hx)
theorem srtB_pw{L:List Rw}(h:srtB L=Ab):L.Pairwise λa b=>rcmp a b<=0:=zQ6 λj h0 hj=>by
 have h1:=BD.1 h j (Cc.2 hj);unfold zSn at h1;rw[decide_eq_false (by omega),Bool.false_or]at h1;have h2:¬rcmp (L.getD j []) (L.getD (j-1) [])<0:=by simpa using h1
 have h3:=(zB4 (L.getD (j-1) []) (L.getD j [])).2.2;omega
theorem zZd:∀{L:List Rw}{p:Rw},(p::L).Pairwise (λa b=>rcmp a b<=0)->Rsc (p::uqA p L)
 |[],p,_=>List.pairwise_singleton _ _
 | b::L,p,h=>by
  obtain⟨h1,h2⟩:=BZ.1 h;have ih:=zZd h2;rw[uqA];split
  ·grind
  rename_i e;have hb:rcmp p b<0:=by
   grind [rcmp,zB4]
  refine BZ.2 ⟨λx hx=>?_,ih⟩;rcases BF.1 hx with rfl|hx
  ·exact hb
  exact zPb p b x hb ((BZ.1 ih).1 x hx)
theorem uq_rsc{L:List Rw}(h:L.Pairwise λa b=>rcmp a b<=0):Rsc (uq L):=by
 cases L with
 |nil=>exact List.Pairwise.nil
 |cons a L=>exact zZd h
theorem zV3(L:List Rw):Rsc (relR L):=by
 grind [relR,uq_rsc,srtB_pw,zJz]
theorem zTb{x:Rw}:∀{L:List Rw}{p:Rw},x∈p::L->x∈p::uqA p L
 |[],p,h=>h
 | b::L,p,h=>by
  rw[uqA];split
  ·rename_i e;subst e;exact zTb (by simpa using h)
  rcases BF.1 h with rfl|h
  ·simp
  exact Bo _ (zTb h)
theorem zKp{x:Rw}{L:List Rw}:x∈relR L↔x∈L:=by
 have key:∀M:List Rw,x∈uq M↔x∈M:=λM=>⟨zZc,λh=>by
  cases M with
  |nil=>cases h
  |cons a M=>exact zTb h⟩
 grind [relR,zCn]
def rk(p:Nat->Bool)(v:Nat):Nat:=((AQ v).filter p).length
theorem rk_succ(p:Nat->Bool)(v:Nat):rk p (v+1)=rk p v+if p v then 1 else 0:=by
 grind [rk,CB,Bw,only]
theorem rk_mono(p:Nat->Bool){u v:Nat}(h:u<=v):rk p u<=rk p v:=by
 induction h with
 |refl=>exact AY _
 |step _ ih=>rw[rk_succ];exact A0 ih (Nat.le_add_right _ _)
theorem rk_lt{p:Nat->Bool}{u v:Nat}(h:u<v)(hp:p u=Ab):rk p u<rk p v:=by
 have h1:=rk_mono p (u:=u+1) (v:=v) h;grind [rk_succ]
theorem rk_get(p:Nat->Bool):∀(N j:Nat),j<((AQ N).filter p).length->rk p (((AQ N).filter p).getD j 0)=j/\p (((AQ N).filter p).getD j 0)=Ab/\((AQ N).filter p).getD j 0<N
 |0,j,h=>by simp at h
 | N +1,j,h=>by
  rw[CB,List.filter_append]at h⊢;rcases AW j ((AQ N).filter p).length with h1|h1
  ·obtain⟨a,b,c⟩:=rk_get p N j h1;grind
  rw[Bw]at h;simp only[List.filter_cons,List.filter_nil]at h⊢;by_cases hp:p N=Ab
  ·simp only[hp,if_true]at h⊢;have h2:j=((AQ N).filter p).length:=by
    grind
   subst h2;rw[AZ,CI (AY _),Nat.sub_self];exact⟨rfl,hp,by show N<N+1;omega⟩
  grind
theorem zPm(s v:Nat)(hv:v<32)(hb:s.testBit v=Ab):(numL s).getD v 0=rk (λw=>s.testBit w) v:=by
 unfold numL;rw[AZ,List.getElem?_map,CC hv,Option.map_some,if_pos hb];rfl
theorem mem32_len(s:Nat):(zBb s).length=rk (λw=>s.testBit w) 32:=rfl
theorem bit_lt{s n u:Nat}(h:s>>>n=0)(hb:s.testBit u=Ab):u<n:=by
 rcases AW u n with h1|h1
 ·exact h1
 have h2:(s>>>n).testBit (u-n)=s.testBit u:=by rw[Nat.testBit_shiftRight,show n+(u-n)=u by omega]
 rw[h,hb]at h2;simp at h2
theorem zFz(s:Nat)(A:List (List Nat×List Rw)){a:Nat}(h:a<A.length):(A.map (zBl s)).getD a Af=zBl s (A.getD a Af):=by
 grind
theorem zWb{n s:Nat}{A:List (List Nat×List Rw)}(hn:n<=32)(hsn:s>>>n=0)(hV:Vok n A.length λi=>(A.getD i Af).1):Vok (zBb s).length A.length λi=>((A.map (zBl s)).getD i Af).1 where
 asc a h:=by
  rw[zFz s A h]
  refine CD.2 ?_
  refine((hV.asc a h).filter _).imp_of_mem λ{x y} hx hy hxy=>?_
  obtain⟨x1,x2⟩:=BH.1 hx
  obtain⟨y1,y2⟩:=BH.1 hy
  have:=hV.lt a h x x1
  have:=hV.lt a h y y1
  rw[zPm s x (by omega) x2,zPm s y (by omega) y2]
  exact rk_lt hxy x2
 lt a h w hw:=by
  rw[zFz s A h]at hw
  obtain⟨x,hx,rfl⟩:=A1.1 hw
  obtain⟨x1,x2⟩:=BH.1 hx
  have:=hV.lt a h x x1
  rw[zPm s x (by omega) x2,mem32_len]
  exact rk_lt (by omega) x2
 cov v hv:=by
  obtain⟨h1,h2,h3⟩:=rk_get (λw=>s.testBit w) 32 v hv
  obtain⟨a,ha,hm⟩:=hV.cov _ (bit_lt hsn h2)
  refine⟨a,ha,?_⟩
  rw[zFz s A ha]
  refine A1.2 ⟨_,BH.2 ⟨hm,h2⟩,?_⟩
  rw[zPm s _ h3 h2,h1]
theorem part_ok{n s:Nat}{A:List (List Nat×List Rw)}(hn:n<=32)(hsn:s>>>n=0)(hA:A.length<=32)(hV:Vok n A.length λi=>(A.getD i Af).1)(hR:∀a∈A,a.2.length<=65536):AOk (mkP s A) where
 n:=A0 (BT _ _) (by simp)
 na:=by show(A.map (zBl s)).length<=1000;rw[A6];omega
 p:=by show 5<=50000;omega
 v:=by
  show Vok (zBb s).length (A.map (zBl s)).length _
  rw[A6]
  exact zWb hn hsn hV
 r a ha:=by
  obtain⟨b,hb,rfl⟩:=A1.1 ha
  refine⟨A0 (zKm s b) (hR b hb),λr hr=>?_,zV3 _⟩
  obtain⟨q,_,rfl⟩:=A1.1 (zKp.1 hr)
  show(zX q (zC3 (λv=>s.testBit v) b.1)).length=((b.1.filter λv=>s.testBit v).map _).length
  rw[A6,zXj]
  simp[zX]
theorem accL_ok{ar:Nat}:∀{L:List Rw},(∀x∈L,x.length=ar/\x.all vok=Ab)->accL (ar:Nat) L=0
 |[],_=>rfl
 | x::L,h=>by
  obtain⟨h1,h2⟩:=h x (by simp);have h3:accE (ar:Nat) x=0:=by
   grind [accE]
  simp only[accL];rw[if_neg (by rw[h3];exact λk=>k rfl)];exact accL_ok λx hx=>h x (by simp[hx])
theorem jn_vok{n s:Nat}{A:List (List Nat×List Rw)}(hao:AOk (mkP s A))(hR:∀a∈A,∀r∈a.2,r.length=a.1.length/\r.all vok=Ab):∀x∈jn (mkP s A),x.length=(zBb s).length/\x.all vok=true:=λx hx=>by
 obtain⟨h1,h2⟩:=((zPw hao).2 x).1 hx;refine⟨h1,BD.2 λv hv=>?_⟩;obtain⟨w,hw,rfl⟩:=BP hv;have h1':x.length=(mkP s A).n:=h1;obtain⟨a,ha,hm⟩:=hao.v.cov w (by omega);have h3:=h2 a ha;have ha2:a<A.length:=by
  have:(mkP s A).A.length=A.length:=A6 _;omega
 have hpa:(mkP s A).A.getD a Af=zBl s (A.getD a Af):=zFz s A ha2;rw[hpa]at h3;obtain⟨q,hq,e⟩:=A1.1 (zKp.1 h3);have hmem:x[w]∈prj (mkP s A).vs a 0 x:=A1.2 ⟨w,BH.2 ⟨hm,by simp⟩,by rw[AZ,AS hw];rfl⟩;rw[<-e]at hmem;have hA:A.getD a Af∈A:=by rw[AZ,AS ha2];exact A2 ha2
 obtain⟨q1,q2⟩:=hR _ hA q hq;obtain⟨c,hc,e2⟩:=A1.1 hmem;have hc2:=zJs _ _ c hc;rw[<-e2];refine BD.1 q2 _ ?_;rw[AZ,AS (by omega:c<q.length)];exact A2 _
theorem mat_c(n s:Nat)(A:List (List Nat×List Rw))(hn:n<32)(hs:s<4294967296)(hsn:s>>>n=0)(hA:A.length<=32)(hV:Vok n A.length λi=>(A.getD i Af).1)(hr1:∀a∈A,a.2.length<=65536)(hR:∀a∈A,∀r∈a.2,r.length=a.1.length/\r.all vok=Ab)(h0:0<(zBb s).length)(M:Nat)(hM:∀a∈A,a.2.length+(zBb s).length<=M)(hC:(A.length+1)*(cE A.length M (zBb s).length)+1<=big)(hJ:(jn (mkP s A)).length<=65536):∃z:Nat,z<=big/\Pure AF 72 [iD (n:Nat),u32D s, .row (A.flatMap atR) A.length] [] (.tup [.agg (atR (zBb s,jn (mkP s A))),iD ((stpA s A+z+(jn (mkP s A)).length:Nat):Int),iD 0]):=by
 have hao:=part_ok (s:=s) (by omega:n<=32) hsn hA hV hr1;have hv:=zVk hV;have hjv:=jn_vok (n:=n) hao hR;have hpv:=zWb (s:=s) (by omega:n<=32) hsn hV;have hck:=zXm (zBb s).length (A.map (zBl s)) (A0 (BT _ _) (by simp)) (by rwa[A6]) (by rw[A6];exact hpv);rw[List.flatMap_map,A6]at hck;exact zPp n s A hn hs hsn hA (λa ha=>by
  obtain⟨v1,v2⟩:=hv a ha;have h3:=zJv (n:=n) 0 v1 λw hw=>⟨Bl _,v2 w hw⟩;exact⟨v1,λv h=>by have:=v2 v h;omega,by omega,hr1 a ha,λr h=>(hR a ha r h).1⟩) (zXm n A (by omega) hA hV) hao h0 M (λa ha=>by
  obtain⟨b,hb,rfl⟩:=A1.1 ha
  have:=zKm s b
  have:=hM b hb
  omega) hC hck hJ (λr hr=>(hjv r hr).1) (zPw hao).1 (accL_ok hjv)
section
attribute [local irreducible] seqW awp zAf zAn zAd Weak updS zAv retL Pure Acts rP setP setQ cP nP fr
set_option maxRecDepth 4096
theorem eset_c(v k:Nat)(p:Int)(hv:v<32)(hk:k<4294967296):Pure AF 73 [.agg [iD (v:Nat),u32D k,iD p]] [] (u32D (k|||2^v)):=by
 have h4:=zDn hv;have h5:=zRa hk h4;refine zF zA5 mixed Tryz.func73 rfl ?_;focus
  refine vAu<|zA<|vA<|vew [] [(3,Ad)] (True/\0<3/\decide ((v:Int)<0)=Ad/\True/\0<3)<|vF ((v:Int)>=(32:Int))<|vK<|zA<|vd [0,2,1,3,4,5,6] ?_;refine vr 5 (True/\True/\0<2/\0<3/\(0:Int)<=(v:Int))<|vs 17 (Am<|AA Ar<|AV Ar ((1:Int)*(2:Int)^min (Ay (v:Int)) 32)) (dig ((2:Nat)^v)) (by simp(disch:=omega) only[AU,zDu])<|vrT 1<|vs 18 (Am<|AA Ar<|AV Ar (↑(AR (AC 32 (k:Int)|||AC 32 (↑((2:Nat)^v):Int))):Int)) (dig (k|||(2:Nat)^v)) (by simp(disch:=omega) only[zMl,zA1])<|veT<|zE<|vret (True)<|.inr rfl
abbrev matA(A:List (List Nat×List Rw))(b:Bg):List Nat×List Rw:=(zBb (bgS b),jn (mkP (bgS b) A))
def totS(A:List (List Nat×List Rw))(z:Bg->Nat)(L:List Bg):Nat:=(L.map λb=>stpA (bgS b) A+z b+(jn (mkP (bgS b) A)).length).sum
theorem zQj(A:List (List Nat×List Rw))(z:Bg->Nat)(L:List Bg)(b:Bg):totS A z (L++[b])=totS A z L+(stpA (bgS b) A+z b+(jn (mkP (bgS b) A)).length):=by simp[totS]
theorem all_c(n:Nat)(L:List Bg)(A:List (List Nat×List Rw))(z:Bg->Nat)(hl:L.length<=32)(hb:∀b∈L,b.v<32/\b.k<4294967296)(hm:∀b∈L,Pure AF 72 [iD (n:Nat),u32D (bgS b), .row (A.flatMap atR) A.length] [] (.tup [.agg (atR (matA A b)),iD ((stpA (bgS b) A+z b+(jn (mkP (bgS b) A)).length:Nat):Int),iD 0]))(ht:∀i,i<=L.length->totS A z (L.take i)<=9000000000000000000):Pure AF 32 [iD (n:Nat), .row (L.flatMap bgC) L.length, .row (A.flatMap atR) A.length] [] (.tup [.row (L.flatMap λb=>atR (matA A b)) L.length,iD ((totS A z L:Nat):Int),iD 0]):=by
 have hbc:∀b:Bg,(bgC b).length=3:=λ_=>rfl;refine zF zA5 mixed Tryz.func32 rfl ?_;focus
  refine vAu<|vAe<|vAe<|zA<|vAe ?_;refine zH ?_;rotate_left
 refine zK (λ(i:Nat)=>fr 44 [(0,iD n),(2,(q14_ A)),(9,Au 0 0 i (i*3) Ab),(10,iD (↑(totS A z<|As i L):Int)),(16,(q38_ L)),(17,iD<|Aa L),(18,iD i)]) (λ(i:Nat)=>[(⟨(L.take i).flatMap λb=>atR (matA A b),87,3,Ab,Ad,.plain⟩:Bk)]) (λ(i:Nat)=>L.length-i) (λ(i:Nat)=>i<=L.length) 0 ?_ ?_ ?_
 ·omega
 ·refine vk 0
 intro i h1;rcases AW i L.length with h3|h3
 ·have hg2:=zCv hbc L i h3;have hle:=zEr hbc L i h3;have hne:=zDd hbc (by decide) L (by omega);have htk:L.take (i+1)=L.take i++[L.getD i Af]:=by rw[Bn h3,AZ,AS h3];rfl
  have hbm:L.getD i Af∈L:=by rw[AZ,AS h3];exact A2 h3
  obtain⟨b1,b2⟩:=hb _ hbm;have hmt:=hm _ hbm;have hse:=eset_c (L.getD i Af).v (L.getD i Af).k (L.getD i Af).p b1 b2;have ht1:=ht (i+1) (by omega);have hpl:((L.take i).flatMap λb=>atR (matA A b)).length=i*3:=by rw[zDi (c:=3) (λ_=>rfl),Cz,Nat.min_eq_left h1]
  rw[htk,zQj]at ht1;focus
   refine vAu<|zA<|vT ((i:Int)<↑(Aa L))<|vKB<|vA<|vr 2 (ix ↑i ↑(Aa L) (Ah bgC L≠[])/\3<=Aa (Ak (i*3)<|Ah bgC L)) ?_;refine vs 21 (AI<|As 3<|Ak (i*3)<|Ah bgC L) (AI<|bgC<|Ax L i Af) (by simp(disch:=omega) only[hg2])<|ve (Ad=Ad/\Ab=Ab/\3=3/\3<=3)<|vA<|vr 2 (3<=3)<|vc hse<|vrT 1<|vc hmt<|ve (0<3/\1<3/\2<3/\Ad=Ad/\Ab=Ab/\3=3/\3<=3)<|zA<|vAe<|vf ?_;refine vK<|vA<|ve (3<=3/\((3=3/\3<=3/\True)/\0<3/\3=3/\3<=16777216/\1<=9223372036854775807)/\Ab=Ab/\Aa (Ah (λ(b:Bg)=>atR (matA A b))<|As i L)=i*3/\i*3=i*3/\87=87/\3=3/\3=3/\0<3/\0<56/\87=87/\(i+1)*56<=140737488355328/\3=3/\Bx Az=Ad/\(Ad=Ad\/By Az=Ab))<|zB rfl<|vr 4 (i6 ((↑(totS A z<|As i L):Int)+(↑(stpA (bgS<|Ax L i Af) A+z (Ax L i Af)+Aa (jn<|mkP (bgS<|Ax L i Af) A)):Int)))<|vnil<|zD<|vN<|zB rfl<|vr 2 (i6 (↑i+1)) ?_;refine vnil<|zC ?_;rotate_left
  refine⟨i+1,h3,by omega,?_⟩;rw[htk,zQj,<-zXd];refine vk 1
 obtain rfl:i=L.length:=by omega
 rw[Bc];have hfa:((L.flatMap λb=>atR (matA A b)).take (L.length*3))=L.flatMap λb=>atR (matA A b):=zNm (c:=3) (g:=λb=>atR (matA A b)) (λ_=>rfl) L _ rfl;focus
  refine vAu<|zA<|vF ((Aa L:Int)<↑(Aa L))<|vZ2<|vA ?_;refine veT<|zE ?_;refine zCc (True) (D.tup [Aj (As (Aa L*3)<|Ak 0<|Ah (λ(b:Bg)=>atR (matA A b)) L)<|Aa L,iD ↑(totS A z L),iD 0]) (D.tup [Aj (Ah (λ(b:Bg)=>atR (matA A b)) L)<|Aa L,Am<|AA Bm (↑(totS A z L):Int),Am<|AA Bm 0]) (.inr rfl) trivial (by simp(disch:=omega) only[Bf,hfa]) rfl
theorem below_n:∀n:Fin 33,Ar.wrap (Cj.wrap (Cj.wrap (1*2^min n.val 64)-1))=((2^n.val-1:Nat):Int):=by decide
theorem below_c(n:Nat)(hn:n<=32):Pure AF 131 [iD (n:Nat)] [] (u32D (2^n-1)):=by
 have h:=below_n ⟨n,by omega⟩;simp only at h;refine zF zA5 mixed Tryz.func131 rfl ?_;refine vAu<|vA<|vw 4 [5,6] [] ((0:Int)<=(n:Int)/\True/\True)<|vs 6 (Am<|AA Ar<|AV Ar<|AV Cj (AV Cj ((1:Int)*(2:Int)^min n 64)-(1:Int))) (dig ((2:Nat)^n-1)) (by simp(disch:=omega) only[h])<|veT<|zE<|vret (True)<|.inr rfl
abbrev grB(n e:D):Bk:=⟨[n,e],77,0,Ad,Ad, .plain⟩
abbrev uuB(l:List Nat):Bk:=⟨l.map u32D,36,1,Ab,Ad, .plain⟩
abbrev nl1:D:= .val (.slice AL 0 0)
theorem andn_lt{e n:Nat}(he:e<2^n):AC 32 ((e:Nat):Int)&&&~~~AC 32 ((2^n-1:Nat):Int)=0#32:=by
 rw[BitVec.ofInt_natCast,BitVec.ofInt_natCast];apply BitVec.eq_of_getLsbD_eq;intro i hi;rw[BitVec.getLsbD_and,BitVec.getLsbD_not,BitVec.getLsbD_ofNat,BitVec.getLsbD_ofNat,Nat.testBit_two_pow_sub_one];grind [CE,B3,Bv]
theorem hd_u(E:List Nat)(i:Nat)(h:i<E.length):((E.map u32D).drop i).headD .unk=u32D (E.getD i 0):=zBc u32D E 0 i h
abbrev q39_(x0:List Nat):=Aj (Ao u32D x0) (Aa x0)
theorem zW9(n:Nat)(hn:n<=32)(E:List Nat)(hE:E.length<=64)(hl:∀e∈E,e<2^n):Pure AF 108 [.agg [iD (n:Nat), .row (E.map u32D) E.length]] [] (iD 0):=by
 have hbe:=below_c n hn;refine zF zA5 mixed Tryz.func108 rfl ?_;focus
  refine vAu<|zA<|vA<|vew [] [(3,Ad)] (True/\0<2/\decide ((n:Int)<0)=Ad/\True/\0<2)<|vF ((n:Int)>(32:Int))<|vK<|zA<|zA ?_;refine zB rfl<|ve (True/\0<1)<|vF ((Aa E:Int)>(64:Int))<|vK<|zA<|vA<|ve (True/\0<1)<|zH ?_;rotate_left
 refine zK (λ(i:Nat)=>fr 31 [(1,Ae 0 0),(18,(q39_ E)),(19,iD<|Aa E),(20,iD i)]) (λ(i:Nat)=>[grB (iD (n:Nat))<|.row (E.map u32D) E.length]) (λ(i:Nat)=>E.length-i) (λ(i:Nat)=>i<=E.length) 0 ?_ ?_ ?_
 ·omega
 ·refine vk 1
 intro i h1;rcases AW i E.length with h3|h3
 ·have hmem:E.getD i 0∈E:=zB0 E i h3;have hlt:=hl _ hmem;have hhd:=hd_u E i h3;have hz:=andn_lt hlt;have hz2:((((0#32).toNat:Nat):Int)!=0)=false:=by decide
  focus
   refine vAu<|zA<|vT ((i:Int)<↑(Aa E))<|vKB<|vA<|vr 1 (ix ↑i ↑(Aa E) (Ao u32D E≠[])) ?_ ⟨(by omega),⟨(by omega),(by exact zAm (by omega))⟩⟩;refine vp 22 i (Ao u32D E)<|vr 1 (0<Aa (Ak i<|Ao u32D E))<|vsh 23 hhd<|veT<|vA<|vr 3 (True/\0<2)<|vc hbe<|vrT 1<|vs 28 (Am<|AA Ar<|AV Ar (↑(AR (AC 32 (↑(Ax E i 0):Int)&&&~~~AC 32 (↑((2:Nat)^n-1):Int))):Int)) (dig<|AR<|BitVec.ofNat 32 0) (by simp(disch:=omega) only[zA1,hz])<|veT<|vf<|zQ<|zD ?_;refine vN<|zB rfl<|vr 2 (i6 (↑i+1))<|vnil<|zC ?_;rotate_left
  refine⟨i+1,by omega,by omega,?_⟩;refine vk 1
 focus
  refine vAu<|zA<|vF ((i:Int)<↑(Aa E))<|vZ2<|vA ?_;refine veT<|zE<|vret (True)<|.inr rfl
def andn(e v:Nat):Nat:=(AC 32 ((e:Nat):Int)&&&~~~AC 32 ((2^v:Nat):Int)).toNat
theorem zVa(e v:Nat):andn e v<4294967296:=BitVec.isLt _
def adU(e m v:Nat):Nat:=if e.testBit v then m|||andn e v else m
def nbE(E:List Nat)(v:Nat):Nat:=E.foldl (λm e=>adU e m v) 0
theorem nbE_32:∀(E:List Nat)(v:Nat),nbE E v<4294967296:=λE v=>by
 have key:∀(E:List Nat)(m:Nat),m<4294967296->E.foldl (λm e=>adU e m v) m<4294967296:=by
  intro E;induction E with
  |nil=>exact λm h=>h
  |cons e E ih=>
   intro m h;rw[BN];refine ih _ ?_;unfold adU;split
   ·exact zRa h (zVa e v)
   exact h
 exact key E 0 (by omega)
theorem nbE_snoc(E:List Nat)(e v:Nat):nbE (E++[e]) v=adU e (nbE E v) v:=by
 grind [nbE]
def adL(E:List Nat)(e j:Nat):List D:=(AQ 32).map λv=>u32D (if v<j then adU e (nbE E v) v else nbE E v)
def adR(E:List Nat):List D:=(AQ 32).map λv=>u32D (nbE E v)
theorem adL_zero(E:List Nat)(e:Nat):adL E e 0=adR E:=B5 λv _=>by rw[if_neg (by omega)]
theorem adL_hd(E:List Nat)(e j:Nat)(h:j<32):((adL E e j).drop j).headD .unk=u32D (nbE E j):=by
 unfold adL;simp_all
theorem adL_set(E:List Nat)(e j:Nat)(h:j<32):(adL E e j).set j (u32D (adU e (nbE E j) j))=adL E e (j+1):=by
 unfold adL;apply Cf;grind
theorem adL_no(E:List Nat)(e j:Nat)(h:e.testBit j=Ad):adL E e (j+1)=adL E e j:=B5 λu _=>by
 by_cases h1:u<j
 ·rw[if_pos h1,if_pos (by omega)]
 rw[if_neg h1];by_cases h2:u=j
 ·subst h2;rw[if_pos (by omega)];unfold adU;rw[if_neg (by rw[h];decide)]
 rw[if_neg (by omega)]
theorem adL_all{E:List Nat}{e n:Nat}(h:e<2^n):adL E e n=adR (E++[e]):=B5 λv _=>by
 rw[nbE_snoc];by_cases h1:v<n
 ·rw[if_pos h1]
 rw[if_neg h1];unfold adU;rw[if_neg (by rw[CE (B3 h (Bv (by omega) (by omega)))];decide)]
theorem adL_len(E:List Nat)(e j:Nat):(adL E e j).length=32:=by simp[adL]
abbrev gaB(l:List D):Bk:=⟨l,144,0,Ad,Ad, .plain⟩
theorem adj_c(n:Nat)(hn:n<=32)(E:List Nat)(hE:E.length<=64)(hl:∀e∈E,e<2^n):Pure AF 132 [.agg [iD (n:Nat), .row (E.map u32D) E.length]] [] (.agg ((AQ 32).map λv=>u32D (nbE E v))):=by
 have hz:∀v,nbE [] v=0:=λv=>rfl;refine zF zA5 mixed Tryz.func132 rfl ?_;focus
  refine vAu<|vAe<|zA<|vA<|ve (True/\0<1)<|zH ?_;rotate_left
 refine zK (λ(i:Nat)=>fr 36 [(1,Ae 0 0),(2,Ae 1 0),(3,Ae 2 0),(8,(q39_ E)),(9,iD<|Aa E),(10,iD i)]) (λ(i:Nat)=>[grB (iD (n:Nat))<|.row (E.map u32D) E.length,gaB<|adR [],gaB<|adR<|E.take i]) (λ(i:Nat)=>E.length-i) (λ(i:Nat)=>i<=E.length) 0 ?_ ?_ ?_
 ·omega
 ·refine vk 3
 intro i h1;rcases AW i E.length with h3|h3
 ·have hmem:E.getD i 0∈E:=zB0 E i h3;have hhd:=hd_u E i h3;have hlt:=hl _ hmem;have htk:E.take (i+1)=E.take i++[E.getD i 0]:=by rw[Bn h3,AZ,AS h3];rfl
  generalize E.getD i 0=e at*;focus
   refine vAu<|zA<|vT ((i:Int)<↑(Aa E))<|vKB<|vA<|vr 1 (ix ↑i ↑(Aa E) (Ao u32D E≠[])) ?_ ⟨(by omega),⟨(by omega),(by exact zAm (by omega))⟩⟩;refine vp 12 i (Ao u32D E)<|vr 1 (0<Aa (Ak i<|Ao u32D E))<|vsh 13 hhd<|veT<|vA<|ve (True/\0<2)<|zH ?_;rotate_left
  refine zK (λ(j:Nat)=>fr 36 [(1,Ae 0 0),(2,Ae 1 0),(3,Ae 2 0),(5,dig e),(8,(q39_ E)),(9,iD<|Aa E),(10,iD i),(15,iD n),(16,iD j)]) (λ(j:Nat)=>[grB (iD (n:Nat))<|.row (E.map u32D) E.length,gaB<|adR [],gaB<|adL (E.take i) e j]) (λ(j:Nat)=>n-j) (λ(j:Nat)=>j<=n) 0 ?_ ?_ ?_
  ·omega
  ·rw[adL_zero];refine vk 3
  intro j h2;rcases AW j n with h4|h4
  ·have h5:j<32:=by omega
   have h6:=zDn h5;have h7:=nbE_32 (E.take i) j;have h8:=zRa h7 (zVa e j);have he32:e<4294967296:=B3 hlt (Bv (by omega) hn);have hdj:=adL_hd (E.take i) e j h5;have hll:=adL_len (E.take i) e j;have hor:(AC 32 ((nbE (E.take i) j:Nat):Int)|||AC 32 (((AC 32 ((e:Nat):Int)&&&~~~AC 32 ((2^j:Nat):Int)).toNat:Nat):Int)).toNat=nbE (E.take i) j|||andn e j:=zMl h7 (zVa e j);focus
    refine vAu<|zA<|vT ((j:Int)<↑n)<|vKB<|vAe ?_;refine vA<|vr 3 ((0:Int)<=(j:Int))<|vs 21 (Am<|AA Ar<|B6 (e:Int) ((2:Int)^min (Ay (j:Int)) 32)) (dig (e>>>j)) (by simp(disch:=omega) only[AU,zE3])<|vrT 1<|vs 22 (Am<|AA Ar<|AV Ar (↑(AR (AC 32 (↑(e>>>j):Int)&&&AC 32 (1:Int))):Int)) (dig<|AR (AC 32 (↑(e>>>j):Int)&&&AC 32 (1:Int))) (by simp(disch:=omega) only[zA1])<|vrT 1<|vs 23 (bD ((↑(AR (AC 32 (↑(e>>>j):Int)&&&AC 32 (1:Int))):Int)==(1:Int))) (bD<|Nat.testBit e j) (by simp(disch:=omega) only[bit_b])<|veT ?_;refine zAa (t:=Nat.testBit e j) (by kernel_rfl) (λhc=>?_)<|λhc=>?_;refine vd [0,1,3,4,5,6,2,7,8,9]<|vr 2 ((0:Int)<=(j:Int)/\(j:Int)<↑(32:Nat))<|vo 25 2 j<|vr 3 ((0:Int)<=(j:Int))<|vs 29 (Am<|AA Ar<|AV Ar ((1:Int)*(2:Int)^min (Ay (j:Int)) 32)) (dig ((2:Nat)^j)) (by simp(disch:=omega) only[AU,zDu])<|vrT 1<|vs 30 (Am<|AA Ar<|AV Ar (↑(AR (AC 32 (e:Int)&&&~~~AC 32 (↑((2:Nat)^j):Int))):Int)) (dig<|AR (AC 32 (e:Int)&&&~~~AC 32 (↑((2:Nat)^j):Int))) (by simp(disch:=omega) only[zA1])<|vr 1 (0<Aa (Ak j<|AO<|gaB<|adL (As i E) e j))<|vsh 26 hdj<|vrT 1<|vs 31 (Am<|AA Ar<|AV Ar (↑(AR (AC 32 (↑(nbE (As i E) j):Int)|||AC 32 (↑(AR (AC 32 (e:Int)&&&~~~AC 32 (↑((2:Nat)^j):Int))):Int))):Int)) (dig (nbE (As i E) j|||andn e j)) (by simp(disch:=omega) only[zA1,hor])<|vr 1 ((0:Int)<=(j:Int)/\(j:Int)<↑(32:Nat))<|vo 32 2 j<|vr 1 (A5 (gaB<|adL (As i E) e j)=Ad/\Ab=Ab/\1=1/\j+1<=32) ?_;refine vnil<|zD<|vN<|zB rfl<|vr 2 (i6 (↑j+1))<|vnil<|zC ?_;rotate_left;refine zQ<|zD<|vN<|zB rfl<|vr 2 (i6 (↑j+1))<|vnil<|zC ?_;rotate_left
   ·have hc2:e.testBit j=true:=by assumption
    have hset:=adL_set (E.take i) e j h5;unfold adU at hset;rw[if_pos hc2]at hset;refine⟨j+1,by omega,by omega,?_⟩;rw[<-hset];refine vk 3
   have hc2:e.testBit j=false:=by assumption
   refine⟨j+1,by omega,by omega,?_⟩;rw[adL_no _ _ _ hc2];refine vk 3
  obtain rfl:j=n:=by omega
  rw[adL_all hlt,<-htk];focus
   refine vAu<|zA<|vF ((j:Int)<↑j)<|vY2<|zD<|vN<|zB rfl ?_;refine vr 2 (i6 (↑i+1))<|vnil<|zC ?_;rotate_left
  refine⟨i+1,by omega,by omega,?_⟩;refine vk 3
 obtain rfl:i=E.length:=by omega
 rw[Bc];focus
  refine vAu<|zA<|vF ((Aa E:Int)<↑(Aa E))<|vZ2<|vA ?_;refine ve (32<=32/\Ad=Ad/\Ab=Ab/\32=32/\32<=32)<|zE<|vret (32<=32)<|.inr rfl
theorem adR_get(E:List Nat)(j:Nat)(h:j<32):(adR E).getD j .unk=u32D (nbE E j):=by
 grind [adR,CC]
theorem nbrs_c(n v:Nat)(hn:n<=32)(hv:v<n)(E:List Nat)(hE:E.length<=64)(hl:∀e∈E,e<2^n):Pure AF 109 [.agg [iD (n:Nat), .row (E.map u32D) E.length],iD (v:Nat)] [] (u32D (nbE E v)):=by
 have hck:=zW9 n hn E hE hl;have had:=adj_c n hn E hE hl;have hhd:=adR_get E v (by omega);have hal:(adR E).length=32:=by simp[adR]
 change Pure _ _ _ _ (.agg (adR E))at had;generalize adR E=l at had hhd hal;refine zF zA5 mixed Tryz.func109 rfl ?_;focus
  refine vAu<|zA<|vA<|vr 1 (2<=2)<|vc hck<|vew [] [(7,Ad)] (True/\decide ((v:Int)<0)=Ad/\True/\0<2)<|vF ((v:Int)>=(n:Int))<|vK ?_;refine vA<|vr 1 (2<=2)<|vc had<|vr 2 (ix ↑v ↑(32:Nat) (Ay (v:Int)*1<Aa l))<|vs 21 (Ax l (Ay (v:Int)*1) Uk) (u32D<|nbE E v) (by simp(disch:=omega) only[AU,A7,hhd])<|veT<|zE<|vret (True)<|.inr rfl
theorem cfree_c(n f:Nat)(hn:n<=32)(hf:f<=n)(E:List Nat)(hE:E.length<=64)(hl:∀e∈E,e<2^n):Pure AF 70 [.agg [iD (n:Nat), .row (E.map u32D) E.length],iD (f:Nat)] [] (iD 0):=by
 have hck:=zW9 n hn E hE hl;refine zF zA5 mixed Tryz.func70 rfl ?_;focus
  refine vAu<|zA<|vA<|vr 1 (2<=2)<|vc hck<|veT<|vAe<|vf ?_;refine vK<|zA<|vA<|vew [] [(2,Ad)] (decide ((f:Int)<0)=Ad/\True/\0<2)<|vF ((f:Int)>(n:Int))<|vK<|vAe ?_;refine zE<|vret (True)<|.inr rfl
def eaL(E:List Nat)(i:Nat):List D:=(AQ 32).map λv=>u32D (if v<i then nbE E v else 0)
theorem eaL_set(E:List Nat)(i:Nat)(h:i<32):(eaL E i).set i (u32D (nbE E i))=eaL E (i+1):=by
 unfold eaL;apply Cf;grind
theorem eadj_c(n:Nat)(hn:n<=32)(E:List Nat)(hE:E.length<=64)(hl:∀e∈E,e<2^n):Pure AF 71 [.agg [iD (n:Nat), .row (E.map u32D) E.length]] [] (.agg (eaL E n)):=by
 refine zF zA5 mixed Tryz.func71 rfl ?_;focus
  refine vAu<|vAe<|zA<|vA<|ve (True/\0<2)<|zH ?_;rotate_left
 refine zK (λ(i:Nat)=>fr 17 [(1,Ae 0 0),(2,Ae 1 0),(3,Ae 2 0),(6,iD n),(7,iD i)]) (λ(i:Nat)=>[grB (iD (n:Nat))<|.row (E.map u32D) E.length,gaB<|eaL E 0,gaB<|eaL E i]) (λ(i:Nat)=>n-i) (λ(i:Nat)=>i<=n) 0 ?_ ?_ ?_
 ·omega
 ·refine vk 3
 intro i h1;rcases AW i n with h3|h3
 ·have hnb:=nbrs_c n i hn h3 E hE hl;have hset:=eaL_set E i (by omega);have hll:(eaL E i).length=32:=by simp[eaL]
  focus
   refine vAu<|zA<|vT ((i:Int)<↑n)<|vKB<|vAe ?_;refine zB rfl<|vr 3 (2<=2)<|vc hnb<|vr 1 ((0:Int)<=(i:Int)/\(i:Int)<↑(32:Nat))<|vo 14 2 i<|vr 1 (A5 (gaB<|eaL E i)=Ad/\Ab=Ab/\1=1/\i+1<=32)<|vnil<|zD<|vN<|zB rfl<|vr 2 (i6 (↑i+1))<|vnil<|zC ?_;rotate_left
  refine⟨i+1,by omega,by omega,?_⟩;rw[<-hset];refine vk 3
 obtain rfl:i=n:=by omega
 focus
  refine vAu<|zA<|vF ((i:Int)<↑i)<|vZ2<|vA ?_;refine ve (32<=32/\A5 (gaB<|eaL E 0)=Ad/\Ab=Ab/\32=32/\32<=32) ?_;refine zE<|vret (32<=32)<|.inr rfl
abbrev iaB(l:List D):Bk:=⟨l,143,0,Ad,Ad, .plain⟩
abbrev bgE(l:List D):Bk:=⟨l,99,3,Ab,Ad, .plain⟩
abbrev bgK(v k:Nat)(p:Int):Bk:=⟨[iD (v:Nat),u32D k,iD p],99,0,Ad,Ad, .plain⟩
theorem rep32:BQ 32 (iD 0)=fA 32 λ_=>iD 0:=fA_rep _
theorem ebags_c(n f:Nat)(hn:n<=32)(E:List Nat)(hE:E.length<=64)(hl:∀e∈E,e<2^n)(P:List Nat)(hf:P.length+f=n)(hP:∀v∈P,f<=v/\v<n)(hnd:P.Nodup)(nb:Nat->Nat)(hnb:nb=λv=>if v<n then nbE E v else 0):Pure AF 31 [.agg [iD (n:Nat), .row (E.map u32D) E.length],iD (f:Nat), .row (nsD P) P.length] [] (.tup [.row ((AQ n).flatMap λv=>bgC (bagE n (ordL f P) nb v)) n,iD 0]):=by
 have hcf:=cfree_c n f hn (by omega) E hE hl;have had:=eadj_c n hn E hE hl;have hea:eaL E n=fA 32 λv=>u32D (nb v):=by subst hnb;rfl
 rw[hea]at had;have hal:(fA 32 λv=>u32D (nb v)).length=32:=zEt;have hsa:=zZ3 (.val (.int .u32 0)) hal;simp only[BQ]at hsa;generalize hg:(fA 32 λv=>u32D (nb v))=l0 at*;have hb32:∀v,nb v<4294967296:=λv=>by
  grind [only,nbE_32]
 have hms:∀i,msk (P.take i)<4294967296:=λi=>zWo λv hv=>by have:=(hP v (Ck hv)).2;omega
 refine zF zA5 mixed Tryz.func31 rfl ?_;focus
  refine vAu<|zA<|vA<|vr 2 (2<=2)<|vc hcf<|veT<|vAe<|vf ?_;refine vK<|vAe<|zA<|vAe<|zH ?_;rotate_left
 refine zK (λ(i:Nat)=>fr 155 [(1,iD f),(2,(q5_ P)),(3,Ae 0 0),(9,u32D<|msk<|As i P),(28,(q5_ P)),(29,iD<|Aa P),(30,iD i)]) (λ(i:Nat)=>[grB (iD (n:Nat))<|.row (E.map u32D) E.length]) (λ(i:Nat)=>P.length-i) (λ(i:Nat)=>i<=P.length) 0 ?_ ?_ ?_
 ·omega
 ·refine vk 1
 intro i h1;rcases AW i P.length with h3|h3
 ·have h4:=hP _ (zB0 P i h3);have h5:=zDn (by omega:P.getD i 0<32);have h6:=zRa (hms i) h5;have h7:=hms i;have h8:(msk (P.take i)).testBit (P.getD i 0)=false:=by
   grind [zPo,BP,AS,List.getElem_inj]
  have hbt:=zWn P i h3;have hhd:=zCi P i h3;generalize P.getD i 0=v at*;focus
   refine vAu<|zA<|vT ((i:Int)<↑(Aa P))<|vKB<|vA<|vr 1 (ix ↑i ↑(Aa P) (nsD P≠[])) ?_ ⟨(by omega),⟨(by omega),(by exact zAm (by omega))⟩⟩;refine vp 32 i (nsD P)<|vr 1 (0<Aa (Ak i<|nsD P))<|vsh 33 hhd<|veT<|zA<|vA<|vw 13 [] [(3,Ad),(9,Ad)] (decide ((v:Int)<↑f)=Ad/\True/\0<2/\decide ((v:Int)>=(n:Int))=Ad/\(0:Int)<=(v:Int))<|vs 46 (Am<|AA Ar<|B6 (↑(msk<|As i P):Int) ((2:Int)^min (Ay (v:Int)) 32)) (dig (msk (As i P)>>>v)) (by simp(disch:=omega) only[AU,zE3])<|vrT 1<|vs 47 (Am<|AA Ar<|AV Ar (↑(AR (AC 32 (↑(msk (As i P)>>>v):Int)&&&AC 32 (1:Int))):Int)) (dig<|AR (AC 32 (↑(msk (As i P)>>>v):Int)&&&AC 32 (1:Int))) (by simp(disch:=omega) only[zA1])<|vrT 1<|vs 48 (bD ((↑(AR (AC 32 (↑(msk (As i P)>>>v):Int)&&&AC 32 (1:Int))):Int)==(1:Int))) (bD Ad) (by simp(disch:=omega) only[bit_b,h8])<|veT ?_;refine vf<|vK<|zB rfl<|vr 3 ((0:Int)<=(v:Int))<|vs 52 (Am<|AA Ar<|AV Ar ((1:Int)*(2:Int)^min (Ay (v:Int)) 32)) (dig ((2:Nat)^v)) (by simp(disch:=omega) only[AU,zDu])<|vrT 1<|vs 53 (Am<|AA Ar<|AV Ar (↑(AR (AC 32 (↑(msk<|As i P):Int)|||AC 32 (↑((2:Nat)^v):Int))):Int)) (dig (msk (As i P)|||(2:Nat)^v)) (by simp(disch:=omega) only[zMl,zA1])<|vrT 1<|vnil<|zD<|vN ?_;refine zB rfl<|vr 2 (i6 (↑i+1))<|vnil<|zC ?_;rotate_left
  refine⟨i+1,by omega,by omega,?_⟩;rw[hbt];refine vk 1
 obtain rfl:i=P.length:=by omega
 have hcp:setAt (BQ 32 (iD 0)) 0 (As (min P.length 32) (nsD P))=fA 32 λu=>iD ((if u<P.length then P.getD u 0 else 0:Nat):Int):=by
  rw[rep32,zXe,Nat.min_eq_left (by omega),BC (by simp)];grind
 simp only[BQ]at hcp;have hO:=zPi (f:=f) hf;have hol:∀u,u<P.length->(ordL f P).getD u 0=P.getD u 0:=λu hu=>by
  grind [ordL,List.getElem?_append_left]
 have hor:∀j,j<f->(ordL f P).getD (P.length+j) 0=f-1-j:=λj hj=>by
  grind [ordL,CI,Nat.add_sub_cancel_left,BU,CC]
 have hoL:=zS5 hf hP;have hoN:=zS4 hP hnd;have hOm:∀j,j<n->(ordL f P).getD j 0∈ordL f P:=λj hj=>zB0 _ _ (by omega);have hix:∀j,j<n->(ordL f P).idxOf ((ordL f P).getD j 0)=j:=λj hj=>by
  grind
 have hxi:∀v,v<n->(ordL f P).idxOf v<n/\(ordL f P).getD ((ordL f P).idxOf v) 0=v:=λv hv=>by
  have h1:=zJb hoN hO hoL v hv;grind
 have hst:(fA 32 λu=>iD ((if u<P.length then P.getD u 0 else 0:Nat):Int))=fA 32 λu=>iD ((oI P.length (ordL f P) 0 u:Nat):Int):=zB1 λu _=>by
  grind [oI]
 rw[hst]at hcp;clear hst;generalize hOO:ordL f P=O at*;have hz:=rep32;simp only[BQ]at hz;focus
  refine vAu<|zA<|vF ((Aa P:Int)<↑(Aa P))<|vZ2<|zA<|zA ?_;refine zB rfl<|ve (True/\0<2/\i6 ((n:Int)-(f:Int))/\True)<|zEv (t:=(Aa P:Int)!=(n:Int)-(f:Int)) (by kernel_rfl) (by simpa using by omega)<|vK<|vAe<|vA<|vr 3 ((True/\True/\0<1/\32<=32/\32<=maxLen)/\Ad=Ad/\Ad=Ad/\0<1/\3=3/\Aa (nsD P)=Aa P*1/\32<=32)<|vb 1 (An (setAt [iD 0,iD 0,iD 0,iD 0,iD 0,iD 0,iD 0,iD 0,iD 0,iD 0,iD 0,iD 0,iD 0,iD 0,iD 0,iD 0,iD 0,iD 0,iD 0,iD 0,iD 0,iD 0,iD 0,iD 0,iD 0,iD 0,iD 0,iD 0,iD 0,iD 0,iD 0,iD 0] 0<|As (min (Aa P) 32*1)<|nsD P) 143 0 Ad Ad Az) (An (fA 32 λ(u:Nat)=>iD (↑(oI (Aa P) O 0 u):Int)) 143 0 Ad Ad Az) (by simp(disch:=omega) only[A7,hcp])<|veT ?_;refine zA<|vAe<|zH ?_;rotate_left
 refine zK (λ(i:Nat)=>fr 155 [(1,iD f),(2,(q5_ P)),(3,Ae 0 0),(12,Ae 1 0),(13,Ae 2 0),(65,iD f),(66,iD i)]) (λ(i:Nat)=>[grB (iD (n:Nat))<|.row (E.map u32D) E.length,iaB (fA 32 λu=>iD ((oI P.length O i u:Nat):Int)),iaB (fA 32 λ_=>iD 0)]) (λ(i:Nat)=>f-i) (λ(i:Nat)=>i<=f) 0 ?_ ?_ ?_
 ·omega
 ·rw[<-hz];refine vk 3
 intro i h1;rcases AW i f with h3|h3
 ·have hset:(fA 32 λu=>iD ((oI P.length O i u:Nat):Int)).set (P.length+i) (iD ((f:Int)-1-(i:Int)))=fA 32 λu=>iD ((oI P.length O (i+1) u:Nat):Int):=by
   rw[zEs];refine zB1 λu _=>?_;unfold oI;by_cases h:u=P.length+i;all_goals grind
  focus
   refine vAu<|zA<|vT ((i:Int)<↑f)<|vKB<|vAe ?_;refine zB rfl<|vr 9 (i6 ((Aa P:Int)+(i:Int))/\i6 (↑f-1)/\i6 ((f:Int)-(1:Int)-(i:Int))/\(0:Int)<=(Aa P:Int)+(i:Int)/\(Aa P:Int)+(i:Int)<↑(32:Nat))<|vo 77 1 (Ay ((Aa P:Int)+(i:Int)))<|vr 1 (A5 (iaB (fA 32 λ(u:Nat)=>iD (↑(oI (Aa P) O i u):Int)))=Ad/\Ab=Ab/\1=1/\Ay ((Aa P:Int)+(i:Int))+1<=32)<|vnil<|zD<|vN<|zB rfl<|vr 2 (i6 (↑i+1))<|vnil<|zC ?_;rotate_left
  refine⟨i+1,by omega,by omega,?_⟩;rw[<-hset];refine vk 3
 obtain rfl:i=f:=by omega
 have hall:(fA 32 λu=>iD ((oI P.length O i u:Nat):Int))=fA 32 λu=>iD ((O.getD u 0:Nat):Int):=zB1 λu _=>by
  unfold oI;grind
 rw[hall];have hz2:(fA 32 λ_=>iD 0)=fA 32 λu=>iD ((pI O 0 u:Nat):Int):=zB1 λu _=>by unfold pI;rw[if_neg (by omega)];rfl
 rw[hz2];focus
  refine vAu<|zA<|vF ((i:Int)<↑i)<|vZ2<|zA<|zA ?_;refine zB rfl<|ve (True/\0<2)<|zH ?_;rotate_left
 refine zK (λ(j:Nat)=>fr 155 [(3,Ae 0 0),(12,Ae 1 0),(13,Ae 2 0),(80,iD n),(81,iD j)]) (λ(j:Nat)=>[grB (iD (n:Nat))<|.row (E.map u32D) E.length,iaB (fA 32 λu=>iD ((O.getD u 0:Nat):Int)),iaB (fA 32 λu=>iD ((pI O j u:Nat):Int))]) (λ(j:Nat)=>n-j) (λ(j:Nat)=>j<=n) 0 ?_ ?_ ?_
 ·omega
 ·refine vk 3
 intro j h2;rcases AW j n with h4|h4
 ·have hv:=hoL _ (hOm j h4);have hhd:=zEd (g:=λu=>iD ((O.getD u 0:Nat):Int)) (N:=32) (by omega:j<32);have hset:(fA 32 λu=>iD ((pI O j u:Nat):Int)).set (O.getD j 0) (iD (j:Nat))=fA 32 λu=>iD ((pI O (j+1) u:Nat):Int):=by
   rw[zEs];refine zB1 λu _=>?_;unfold pI;by_cases h:u=O.getD j 0
   ·grind
   rw[if_neg h];by_cases h2:O.idxOf u<j;all_goals grind
  generalize O.getD j 0=v at*;focus
   refine vAu<|zA<|vT ((j:Int)<↑n)<|vKB<|vAe ?_;refine zB rfl<|vr 2 ((0:Int)<=(j:Int)/\(j:Int)<↑(32:Nat))<|vo 85 1 j<|vr 1 (0<Aa (Ak j<|AO<|iaB (fA 32 λ(u:Nat)=>iD ↑(Ax O u 0)))) (vsh 86 hhd<|vr 2 ((0:Int)<=(v:Int)/\(v:Int)<↑(32:Nat))<|vo 88 2 v<|vr 1 (A5 (iaB (fA 32 λ(u:Nat)=>iD ↑(pI O j u)))=Ad/\Ab=Ab/\1=1/\v+1<=32)<|vnil<|zD<|vN<|zB rfl<|vr 2 (i6 (↑j+1)) ?_) (by exact zCa (by omega));refine vnil<|zC ?_;rotate_left
  refine⟨j+1,by omega,by omega,?_⟩;rw[<-hset];refine vk 3
 obtain rfl:j=n:=by omega
 focus
  refine vAu<|zA<|vF ((j:Int)<↑j)<|vZ2<|vA ?_;refine vr 1 (2<=2)<|vc had<|vr 2 (Ad=Ad/\Ab=Ab/\Aa (cellsOf<|AI l0)=32/\32<=32)<|vb 3 (An (setAt [Am<|AA Ar 0,Am<|AA Ar 0,Am<|AA Ar 0,Am<|AA Ar 0,Am<|AA Ar 0,Am<|AA Ar 0,Am<|AA Ar 0,Am<|AA Ar 0,Am<|AA Ar 0,Am<|AA Ar 0,Am<|AA Ar 0,Am<|AA Ar 0,Am<|AA Ar 0,Am<|AA Ar 0,Am<|AA Ar 0,Am<|AA Ar 0,Am<|AA Ar 0,Am<|AA Ar 0,Am<|AA Ar 0,Am<|AA Ar 0,Am<|AA Ar 0,Am<|AA Ar 0,Am<|AA Ar 0,Am<|AA Ar 0,Am<|AA Ar 0,Am<|AA Ar 0,Am<|AA Ar 0,Am<|AA Ar 0,Am<|AA Ar 0,Am<|AA Ar 0,Am<|AA Ar 0,Am<|AA Ar 0] 0<|cellsOf<|AI l0) 144 0 Ad Ad Az) (An l0 144 0 Ad Ad Az) (by simp(disch:=omega) only[cellsOf,hsa]) ?_;refine veT<|vA<|vr 3 (True/\0<2/\(0:Int)<=(j:Int)/\(j:Int)<=↑j/\(↑(24:Nat):Int)*(j:Int)<=(281474976710656:Int)/\(j:Int)<=(281474976710656:Int)/\0<3/\3=3)<|vb 4 (An (repL (Ay (j:Int)) [iD 0,Am<|AA Ar 0,iD 0]) 99 3 Ab Ad<|kdOf Ad) (An (Ah (λ(x:Nat)=>[iD 0,Am<|AA Ar 0,iD 0])<|AQ j) 99 3 Ab Ad<|kdOf Ad) (by simp(disch:=omega) only[AU,repL_fl])<|veT<|zA<|vA<|ve (True/\0<2)<|zH ?_;rotate_left
 have hbz:(AQ j).flatMap (λ_=>[iD 0, .val (.int .u32 0),iD 0])=(AQ j).flatMap (bI (bagE j O nb) O 0):=by
  refine congrArg (λg=>(AQ j).flatMap g) (funext λu=>?_);grind [bI]
 rw[hbz,<-hg];have hpl:(fA 32 λu=>iD ((pI O j u:Nat):Int))=fA 32 λu=>iD ((pI O j u:Nat):Int):=rfl;refine zK (λ(i:Nat)=>fr 155 [(3,Ae 0 0),(12,Ae 1 0),(13,Ae 2 0),(16,Ae 3 0),(17,Au 4 0 j (j*3) Ab),(96,iD j),(97,iD i)]) (λ(i:Nat)=>[grB (iD (j:Nat))<|.row (E.map u32D) E.length,iaB (fA 32 λu=>iD ((O.getD u 0:Nat):Int)),iaB (fA 32 λu=>iD ((pI O j u:Nat):Int)),gaB (fA 32 λu=>u32D (nbT j O nb i u)),bgE<|(AQ j).flatMap<|bI (bagE j O nb) O i]) (λ(i:Nat)=>j-i) (λ(i:Nat)=>i<=j) 0 ?_ ?_ ?_
 ·omega
 ·refine vk 5
 clear hsa hal had hea hg l0;intro i h1;rcases AW i j with h3|h3
 ·have hv:=hoL _ (hOm i h3);have hhd:=zEd (g:=λu=>iD ((O.getD u 0:Nat):Int)) (N:=32) (by omega:i<32);have hpi:∀u,u<j->pI O j u=O.idxOf u:=λu hu=>by unfold pI;rw[if_pos (hxi u hu).1]
  have hid:=hix i h3;have hT:=nbT_32 (n:=j) (O:=O) hb32 i;have hT1:nbT j O nb (i+1)=nbJ (nbT j O nb i (O.getD i 0)) (O.getD i 0) j (nbT j O nb i):=rfl;have hbg:bagE j O nb (O.getD i 0)=⟨O.getD i 0,nbT j O nb i (O.getD i 0),pz (parJ (nbT j O nb i (O.getD i 0)) (λu=>O.idxOf u) j)⟩:=by unfold bagE;rw[hid]
  generalize nbT j O nb i=T at*;generalize O.getD i 0=v at*;have hhn:=zEd (g:=λu=>u32D (T u)) (N:=32) (by omega:v<32);focus
   refine vAu<|zA<|vT ((i:Int)<↑j)<|vKB<|vAe ?_;refine vA<|vr 2 ((0:Int)<=(i:Int)/\(i:Int)<↑(32:Nat))<|vo 101 1 i<|vr 1 (0<Aa (Ak i<|AO<|iaB (fA 32 λ(u:Nat)=>iD ↑(Ax O u 0)))) (vsh 102 hhd<|veT<|vA<|vr 3 ((0:Int)<=(v:Int)/\(v:Int)<↑(32:Nat))<|vo 105 3 v<|vr 1 (0<Aa (Ak v<|AO<|gaB (fA 32 λ(u:Nat)=>u32D (T u)))) (vsh 106 hhn<|ve (((1=1/\1<=3/\1=1/\2<=3/\1=1/\3<=3/\True)/\Ab=Ab)/\Ad=Ad/\Ab=Ab/\3=3/\3<=3) ?_) (by exact zCa (by omega))) (by exact zCa (by omega));refine zA<|vA<|ve (True/\0<2)<|zH ?_;rotate_left
  have hkv:=hT v;generalize hk:T v=key at*;refine zK (λ(q:Nat)=>fr 155 [(3,Ae 0 0),(12,Ae 1 0),(13,Ae 2 0),(16,Ae 3 0),(17,Au 4 0 j (j*3) Ab),(19,iD v),(20,Ae 5 0),(96,iD j),(97,iD i),(109,iD j),(110,iD q)]) (λ(q:Nat)=>[grB (iD (j:Nat))<|.row (E.map u32D) E.length,iaB (fA 32 λu=>iD ((O.getD u 0:Nat):Int)),iaB (fA 32 λu=>iD ((pI O j u:Nat):Int)),gaB (fA 32 λu=>u32D (nbJ key v q T u)),bgE<|(AQ j).flatMap<|bI (bagE j O nb) O i,bgK v key<|pz<|parJ key (λu=>O.idxOf u) q]) (λ(q:Nat)=>j-q) (λ(q:Nat)=>q<=j) 0 ?_ ?_ ?_
  ·omega
  ·rw[nbJ_zero];refine vk 6
  intro q h5;rcases AW q j with h6|h6
  ·have hhp:=zEd (g:=λu=>iD ((pI O j u:Nat):Int)) (N:=32) (by omega:q<32);have hhq:=zEd (g:=λu=>u32D (nbJ key v q T u)) (N:=32) (by omega:q<32);have hTq:nbJ key v q T q=T q:=by unfold nbJ;rw[if_neg (by omega)]
   rw[hTq]at hhq;rw[hpi q h6]at hhp;have hq2:=zDn (by omega:q<32);have hv2:=zDn (by omega:v<32);have hqv:=zRa hq2 hv2;have hqk:=zRa (hT q) hkv;have han:=andm_32 (T q|||key) (2^q|||2^v);have hq32:=hT q;by_cases hb:key.testBit q=Ab
   ·have hset:(fA 32 λu=>u32D (nbJ key v q T u)).set q (u32D (andm (T q|||key) (2^q|||2^v)))=fA 32 λu=>u32D (nbJ key v (q+1) T u):=by
     rw[zEs];refine zB1 λu _=>?_;rw[nbJ_succ hb];split<;>rfl
    unfold andm at hset han;cases hp:parJ key (λu=>O.idxOf u) q with
    | none=>
     have hp1:parJ key (λu=>O.idxOf u) (q+1)=AG q:=by rw[parJ,if_pos hb,hp]
     focus
      refine vAu<|zA<|vT ((q:Int)<↑j)<|vKB<|vAe ?_;refine zA<|vA<|vr 4 (True/\0<2/\(0:Int)<=(q:Int))<|vs 116 (Am<|AA Ar<|B6 (key:Int) ((2:Int)^min (Ay (q:Int)) 32)) (dig (key>>>q)) (by simp(disch:=omega) only[AU,zE3])<|vrT 1<|vs 117 (Am<|AA Ar<|AV Ar (↑(AR (AC 32 (↑(key>>>q):Int)&&&AC 32 (1:Int))):Int)) (dig<|AR (AC 32 (↑(key>>>q):Int)&&&AC 32 (1:Int))) (by simp(disch:=omega) only[zA1])<|vrT 1<|vs 118 (bD ((↑(AR (AC 32 (↑(key>>>q):Int)&&&AC 32 (1:Int))):Int)==(0:Int))) (bD Ad) (by simp(disch:=omega) only[bit_b0,Cq,hb])<|veT<|vf<|vK ?_;refine zA<|zA<|vd [0,1,2,3,4,5,7,6,8,9,10,11,12]<|ve (True/\0<1)<|vt<|zB rfl<|ve (True/\A5 (bgK v key<|pz AL)=Ad/\Ab=Ab/\1=1/\3<=3)<|vd [0,1,2,4,7,8,9,10,11,3,5,6,12,13,14]<|vr 3 ((0:Int)<=(q:Int)/\(q:Int)<↑(32:Nat))<|vo 136 3 q<|vr 3 (True/\(0:Int)<=(q:Int))<|vs 142 (Am<|AA Ar<|AV Ar ((1:Int)*(2:Int)^min (Ay (q:Int)) 32)) (dig ((2:Nat)^q)) (by simp(disch:=omega) only[AU,zDu])<|vr 2 ((0:Int)<=(v:Int))<|vs 144 (Am<|AA Ar<|AV Ar ((1:Int)*(2:Int)^min (Ay (v:Int)) 32)) (dig ((2:Nat)^v)) (by simp(disch:=omega) only[AU,zDu]) ?_;refine vrT 1<|vs 145 (Am<|AA Ar<|AV Ar (↑(AR (AC 32 (↑((2:Nat)^q):Int)|||AC 32 (↑((2:Nat)^v):Int))):Int)) (dig ((2:Nat)^q|||(2:Nat)^v)) (by simp(disch:=omega) only[zMl,zA1])<|vr 1 (0<Aa (Ak q<|AO<|gaB (fA 32 λ(u:Nat)=>u32D (nbJ key v q T u)))) (vsh 137 hhq<|vr 2 (0<2/\True)<|vs 140 (Am<|AA Ar<|AV Ar (↑(AR (AC 32 (↑(T q):Int)|||AC 32 (key:Int))):Int)) (dig (T q|||key)) (by simp(disch:=omega) only[zMl,zA1])<|vrT 1<|vs 146 (Am<|AA Ar<|AV Ar (↑(AR (AC 32 (↑(T q|||key):Int)&&&~~~AC 32 (↑((2:Nat)^q|||(2:Nat)^v):Int))):Int)) (dig<|AR (AC 32 (↑(T q|||key):Int)&&&~~~AC 32 (↑((2:Nat)^q|||(2:Nat)^v):Int))) (by simp(disch:=omega) only[zA1])<|vr 1 ((0:Int)<=(q:Int)/\(q:Int)<↑(32:Nat))<|vo 147 3 q<|vr 1 (A5 (gaB (fA 32 λ(u:Nat)=>u32D (nbJ key v q T u)))=Ad/\Ab=Ab/\1=1/\q+1<=32)<|vnil<|zD<|zC ?_) (by exact zCa (by omega));refine zA4<|zB rfl<|vr 2 (i6 (↑q+1))<|vnil<|zC ?_;rotate_left
     refine⟨q+1,by omega,by omega,?_⟩;rw[hp1,<-hset];refine vk 6
    | some p=>
     obtain⟨p1,p2⟩:=zLk hp;have hhr:=zEd (g:=λu=>iD ((pI O j u:Nat):Int)) (N:=32) (by omega:p<32);rw[hpi p (by omega)]at hhr;have hpz:pz (AG p)=((p:Nat):Int):=rfl;rw[hpz];focus
      refine vAu<|zA<|vT ((q:Int)<↑j)<|vKB<|vAe ?_;refine zA<|vA<|vr 4 (True/\0<2/\(0:Int)<=(q:Int))<|vs 116 (Am<|AA Ar<|B6 (key:Int) ((2:Int)^min (Ay (q:Int)) 32)) (dig (key>>>q)) (by simp(disch:=omega) only[AU,zE3])<|vrT 1<|vs 117 (Am<|AA Ar<|AV Ar (↑(AR (AC 32 (↑(key>>>q):Int)&&&AC 32 (1:Int))):Int)) (dig<|AR (AC 32 (↑(key>>>q):Int)&&&AC 32 (1:Int))) (by simp(disch:=omega) only[zA1])<|vrT 1<|vs 118 (bD ((↑(AR (AC 32 (↑(key>>>q):Int)&&&AC 32 (1:Int))):Int)==(0:Int))) (bD Ad) (by simp(disch:=omega) only[bit_b0,Cq,hb])<|veT<|vf<|vK ?_;refine zA<|zA<|vd [0,1,2,3,4,5,7,6,8,9,10,11,12]<|vw 6 [] [(3,Ad)] (True/\0<1/\decide ((p:Int)<0)=Ad/\(0:Int)<=(q:Int)/\(q:Int)<↑(32:Nat))<|vo 124 2 q<|vr 2 (True/\0<Aa (Ak q<|AO<|iaB (fA 32 λ(u:Nat)=>iD ↑(pI O j u)))) (vsh 125 hhp<|vr 2 (0<1/\(0:Int)<=(p:Int)/\(p:Int)<↑(32:Nat))<|vo 128 2 p<|vr 1 (0<Aa (Ak p<|AO<|iaB (fA 32 λ(u:Nat)=>iD ↑(pI O j u)))) (vsh 129 hhr<|veT ?_) (by exact zCa (by omega))) ⟨trivial,(by exact zCa (by omega))⟩;refine zAa (t:=decide ((↑(List.idxOf q O):Int)<(↑(List.idxOf p O):Int))) (by kernel_rfl) (λhc=>?_)<|λhc=>?_;simp only[decide_eq_true_eq]at hc;refine zB rfl<|ve (True/\A5 (bgK v key (p:Int))=Ad/\Ab=Ab/\1=1/\3<=3)<|vd [0,1,2,4,7,8,9,10,11,3,5,6,12,13,14]<|vr 3 ((0:Int)<=(q:Int)/\(q:Int)<↑(32:Nat))<|vo 136 3 q<|vr 3 (True/\(0:Int)<=(q:Int))<|vs 142 (Am<|AA Ar<|AV Ar ((1:Int)*(2:Int)^min (Ay (q:Int)) 32)) (dig ((2:Nat)^q)) (by simp(disch:=omega) only[AU,zDu])<|vr 2 ((0:Int)<=(v:Int))<|vs 144 (Am<|AA Ar<|AV Ar ((1:Int)*(2:Int)^min (Ay (v:Int)) 32)) (dig ((2:Nat)^v)) (by simp(disch:=omega) only[AU,zDu])<|vrT 1<|vs 145 (Am<|AA Ar<|AV Ar (↑(AR (AC 32 (↑((2:Nat)^q):Int)|||AC 32 (↑((2:Nat)^v):Int))):Int)) (dig ((2:Nat)^q|||(2:Nat)^v)) (by simp(disch:=omega) only[zMl,zA1])<|vr 1 (0<Aa (Ak q<|AO<|gaB (fA 32 λ(u:Nat)=>u32D (nbJ key v q T u)))) (vsh 137 hhq<|vr 2 (0<2/\True) ?_) (by exact zCa (by omega));refine vs 140 (Am<|AA Ar<|AV Ar (↑(AR (AC 32 (↑(T q):Int)|||AC 32 (key:Int))):Int)) (dig (T q|||key)) (by simp(disch:=omega) only[zMl,zA1])<|vrT 1<|vs 146 (Am<|AA Ar<|AV Ar (↑(AR (AC 32 (↑(T q|||key):Int)&&&~~~AC 32 (↑((2:Nat)^q|||(2:Nat)^v):Int))):Int)) (dig<|AR (AC 32 (↑(T q|||key):Int)&&&~~~AC 32 (↑((2:Nat)^q|||(2:Nat)^v):Int))) (by simp(disch:=omega) only[zA1])<|vr 1 ((0:Int)<=(q:Int)/\(q:Int)<↑(32:Nat))<|vo 147 3 q<|vr 1 (A5 (gaB (fA 32 λ(u:Nat)=>u32D (nbJ key v q T u)))=Ad/\Ab=Ab/\1=1/\q+1<=32)<|vnil<|zD<|vN<|zB rfl<|vr 2 (i6 (↑q+1))<|vnil<|zC ?_;rotate_left;simp only[decide_eq_false_iff_not]at hc;refine vK<|vd [0,1,2,4,7,8,9,10,11,3,5,6,12,13,14]<|vr 3 ((0:Int)<=(q:Int)/\(q:Int)<↑(32:Nat))<|vo 136 3 q<|vr 3 (True/\(0:Int)<=(q:Int))<|vs 142 (Am<|AA Ar<|AV Ar ((1:Int)*(2:Int)^min (Ay (q:Int)) 32)) (dig ((2:Nat)^q)) (by simp(disch:=omega) only[AU,zDu])<|vr 2 ((0:Int)<=(v:Int))<|vs 144 (Am<|AA Ar<|AV Ar ((1:Int)*(2:Int)^min (Ay (v:Int)) 32)) (dig ((2:Nat)^v)) (by simp(disch:=omega) only[AU,zDu])<|vrT 1<|vs 145 (Am<|AA Ar<|AV Ar (↑(AR (AC 32 (↑((2:Nat)^q):Int)|||AC 32 (↑((2:Nat)^v):Int))):Int)) (dig ((2:Nat)^q|||(2:Nat)^v)) (by simp(disch:=omega) only[zMl,zA1])<|vr 1 (0<Aa (Ak q<|AO<|gaB (fA 32 λ(u:Nat)=>u32D (nbJ key v q T u)))) (vsh 137 hhq ?_) (by exact zCa (by omega));refine vr 2 (0<2/\True)<|vs 140 (Am<|AA Ar<|AV Ar (↑(AR (AC 32 (↑(T q):Int)|||AC 32 (key:Int))):Int)) (dig (T q|||key)) (by simp(disch:=omega) only[zMl,zA1])<|vrT 1<|vs 146 (Am<|AA Ar<|AV Ar (↑(AR (AC 32 (↑(T q|||key):Int)&&&~~~AC 32 (↑((2:Nat)^q|||(2:Nat)^v):Int))):Int)) (dig<|AR (AC 32 (↑(T q|||key):Int)&&&~~~AC 32 (↑((2:Nat)^q|||(2:Nat)^v):Int))) (by simp(disch:=omega) only[zA1])<|vr 1 ((0:Int)<=(q:Int)/\(q:Int)<↑(32:Nat))<|vo 147 3 q<|vr 1 (A5 (gaB (fA 32 λ(u:Nat)=>u32D (nbJ key v q T u)))=Ad/\Ab=Ab/\1=1/\q+1<=32)<|vnil<|zD<|vN<|zB rfl<|vr 2 (i6 (↑q+1))<|vnil ?_;refine zC ?_;rotate_left
     ·have hp1:parJ key (λu=>O.idxOf u) (q+1)=AG q:=by
       grind [parJ]
      refine⟨q+1,by omega,by omega,?_⟩;rw[hp1,<-hset];refine vk 6
     have hp1:parJ key (λu=>O.idxOf u) (q+1)=AG p:=by
      grind [parJ]
     refine⟨q+1,by omega,by omega,?_⟩;rw[hp1,<-hset];refine vk 6
   have hb0:key.testBit q=false:=by simpa using hb
   have hp1:parJ key (λu=>O.idxOf u) (q+1)=parJ key (λu=>O.idxOf u) q:=by rw[parJ,if_neg hb]
   focus
    refine vAu<|zA<|vT ((q:Int)<↑j)<|vKB<|vAe ?_;refine zA<|vA<|vr 4 (True/\0<2/\(0:Int)<=(q:Int))<|vs 116 (Am<|AA Ar<|B6 (key:Int) ((2:Int)^min (Ay (q:Int)) 32)) (dig (key>>>q)) (by simp(disch:=omega) only[AU,zE3])<|vrT 1<|vs 117 (Am<|AA Ar<|AV Ar (↑(AR (AC 32 (↑(key>>>q):Int)&&&AC 32 (1:Int))):Int)) (dig<|AR (AC 32 (↑(key>>>q):Int)&&&AC 32 (1:Int))) (by simp(disch:=omega) only[zA1])<|vrT 1<|vs 118 (bD ((↑(AR (AC 32 (↑(key>>>q):Int)&&&AC 32 (1:Int))):Int)==(0:Int))) (bD Ab) (by simp(disch:=omega) only[bit_b0,Bool.not_false,hb0])<|veT<|vt<|vY ?_;refine vN<|zB rfl<|vr 2 (i6 (↑q+1))<|vnil<|zC ?_;rotate_left
   refine⟨q+1,by omega,by omega,?_⟩;rw[hp1,nbJ_no hb0];refine vk 6
  obtain rfl:q=j:=by omega
  have hbs:setAt ((AQ q).flatMap (bI (bagE q O nb) O i)) (v*3) [iD (v:Nat),u32D key,iD (pz (parJ key (λu=>O.idxOf u) q))]=(AQ q).flatMap (bI (bagE q O nb) O (i+1)):=by
   rw[fl_set (bI_len _ _ _) rfl hv];refine congrArg (λg=>(AQ q).flatMap g) (funext λu=>?_);by_cases hu:u=v
   ·grind [bI]
   rw[if_neg hu];unfold bI;by_cases h7:O.idxOf u<i;all_goals grind
  have hln:v*3+3<=((AQ q).flatMap (bI (bagE q O nb) O i)).length:=by
   rw[zDi (bI_len _ _ _),BU];omega
  simp only[setAt]at hbs;focus
   refine vAu<|zA<|vF ((q:Int)<↑q)<|vZ2<|zB rfl<|vr 4 (3<=3/\(0:Int)<=(v:Int)/\(v:Int)<↑q) ?_;refine vo0 152 4 (v*3)<|vr 1 (A5 (bgE<|Ah (bI (bagE q O nb) O i)<|AQ q)=Ad/\Ab=Ab/\3=3/\v*3+3<=Aa (AO<|bgE<|Ah (bI (bagE q O nb) O i)<|AQ q)/\¬4∈[])<|vnil<|zD<|vN<|zB rfl<|vr 2 (i6 (↑i+1))<|vnil<|zC ?_;rotate_left
  refine⟨i+1,by omega,by omega,?_⟩;rw[<-hbs,hT1];refine vk 5
 obtain rfl:i=j:=by omega
 have hbl:(AQ i).flatMap (bI (bagE i O nb) O i)=(AQ i).flatMap λv=>bgC (bagE i O nb v):=by
  rw[List.flatMap_def,List.flatMap_def];refine congrArg List.flatten (B5 λv hv=>?_);grind [bI]
 have hbt:((AQ i).flatMap λv=>bgC (bagE i O nb v)).take (i*3)=(AQ i).flatMap λv=>bgC (bagE i O nb v):=zNm (c:=3) (λ_=>rfl) _ _ (by simp);rw[hbl];focus
  refine vAu<|zA<|vF ((i:Int)<↑i)<|vZ2<|vA ?_;refine veT<|zE ?_;refine zCc (True) (D.tup [Aj (As (i*3)<|Ak 0<|AO<|bgE<|Ah (λ(v:Nat)=>bgC (bagE i O nb v))<|AQ i) i,iD 0]) (D.tup [Aj (Ah (λ(v:Nat)=>bgC (bagE i O nb v))<|AQ i) i,Am<|AA Bm 0]) (.inr rfl) trivial (by simp(disch:=omega) only[Bf,hbt]) rfl
structure Bal(b:Bd)(VT:Nat->List Rw)(TT:Nat->List (Rw×Nat)):Prop where
 n:b.n<=1000
 f:b.f<=b.n
 d:b.desc.length=b.f
 L:b.L.length=b.n
 R:b.R.length=b.n
 E:b.E=b.A.map λa=>msk a.1
 P:b.P.length+b.f=b.n
 P2:∀v∈b.P,b.f<=v/\v<b.n
 P3:b.P.Nodup
 A:b.A.length<=1000
 Av:∀a∈b.A,a.1.length<=1000/\(∀v∈a.1,v<32)/\a.2.length<=65536
 k:∀c∈b.L,c.k<4294967296
 V:∀v,v<b.n->(b.R.getD v Af).1.length<=1000/\0<(b.R.getD v Af).1.length/\∀u∈(b.R.getD v Af).1,u<32
 r:∀v,v<b.n->∀x∈(b.R.getD v Af).2,x.length=(b.R.getD v Af).1.length/\(∀u∈x,Vs u)/\x.all vok=Ab
 rl:∀v,v<b.n->(b.R.getD v Af).2.length<=65536
 S:∀v,v<b.n->∀x∈(b.R.getD v Af).2,∀i,i<=(chV b v).length->Sm (wtL b.f VT TT x ((chV b v).take i))
 S1:∀v,v<b.n->∀p∈TT v,Sm p.2
 T:∀v,v<b.n->Sm (sumW (λx=>wtL b.f VT TT x (chV b v)) (b.R.getD v Af).2)
 Rt:∀i,i<=b.n->Sm (rtL b.L b.f VT TT i)
 vt:∀v,b.f<=v->v<b.n->VT v=redK (λx=>wtL b.f VT TT x (chV b v)) (keyC b v) (b.R.getD v Af).2
 tt:∀v,v<b.f->TT v=totL (grpL (b.desc.getD v Ad) (λx=>wtL b.f VT TT x (chV b v)) (b.R.getD v Af).2)
 o1:∀i,i<b.P.length->∀c∈chV b (b.P.getD i 0),c.1∈b.P.take i
 o2:∀v,v<b.f->∀c∈chV b v,c.1<b.f->v<c.1
def gvT(P:List Nat)(VT:Nat->List Rw)(i c:Nat):D:=if c∈P.take i then zHe (VT c)else .val (.map AL)
def gtT(f:Nat)(TT:Nat->List (Rw×Nat))(j c:Nat):D:=if f<=c+j/\c<f then zGn (TT c)else .val (.map AL)
def guT(f:Nat)(U:Nat->List Bu)(j c:Nat):D:=if f<=c+j/\c<f then busD (U c)else .val (.slice AL 0 0)
abbrev buk(b:Bd)(VT:Nat->List Rw)(TT:Nat->List (Rw×Nat))(v:Nat):List Bu:=grpL (b.desc.getD v Ad) (λx=>wtL b.f VT TT x (chV b v)) (b.R.getD v Af).2
theorem gvT_ref{P:List Nat}{VT:Nat->List Rw}{i c j:Nat}:refs j (gvT P VT i c)=false:=by unfold gvT;split<;>rfl
theorem gtT_ref{f:Nat}{TT:Nat->List (Rw×Nat)}{i c j:Nat}:refs j (gtT f TT i c)=false:=by unfold gtT;split<;>rfl
section
variable {b : Bd} {VT : Nat → List Rw} {TT : Nat → List (Rw × Nat)} (h : Bal b VT TT)
include h
theorem Bal.mem{v:Nat}(h1:b.f<=v)(h2:v<b.n):v∈b.P:=by
 have hO:=zPi (f:=b.f) h.P;have hm:=zJb (zS4 h.P2 h.P3) hO (zS5 h.P h.P2) v h2;rcases Cx.1 hm with hm|hm
 ·exact hm
 simp at hm;omega
theorem Bal.bok{v i j:Nat}(hv:v<b.n)(hgv:∀c∈chV b v,b.f<=c.1->c.1∈b.P.take i)(hgt:∀c∈chV b v,c.1<b.f->b.f<=c.1+j)(hne:∀c∈chV b v,c.1≠v):Bok b v (gvT b.P VT i) (gtT b.f TT j) VT TT where
 n:=h.n
 vn:=hv
 L:=h.L
 R:=h.R
 k:=h.k
 V:=(h.V v hv).1
 V2:=(h.V v hv).2.2
 r x hx:=⟨(h.r v hv x hx).1,(h.r v hv x hx).2.1⟩
 rl:=h.rl v hv
 hv c hc hf:=if_pos (hgv c hc hf)
 ht c hc hf:=if_pos ⟨hgt c hc hf,hf⟩
 ne:=hne
 S:=h.S v hv
 S1 c hc:=h.S1 c.1 (by rw[<-h.L];exact(zG3 hc).1)
 gw c _ j _:=gvT_ref
 tw c _ j _:=gtT_ref
theorem Bal.bokP{i:Nat}(hi:i<b.P.length):Bok b (b.P.getD i 0) (gvT b.P VT i) (gtT b.f TT 0) VT TT:=by
 have hm:=zB0 b.P i hi;have h1:=h.P2 _ hm;refine h.bok h1.2 (λc hc _=>h.o1 i hi c hc) (λc hc hf=>?_) (λc hc e=>?_)
 ·have:=(h.P2 _ (Ck (h.o1 i hi c hc))).1
  omega
 have h2:=h.o1 i hi c hc;rw[e]at h2;obtain⟨j,hj,e2⟩:=BP h2;have hji:j<i:=by simp at hj;omega
 rw[List.getElem_take,AZ,AS hi]at e2
 have:=(List.getElem_inj h.P3).1 e2
 omega
theorem Bal.bokF{j:Nat}(hj:j<b.f):Bok b (b.f-1-j) (gvT b.P VT b.P.length) (gtT b.f TT j) VT TT:=by
 have hf:=h.f;refine h.bok (by omega) (λc hc hcf=>?_) (λc hc hcf=>?_) (λc hc e=>?_)
 ·rw[Bc];exact h.mem hcf (by rw[<-h.L];exact(zG3 hc).1)
 ·have:=h.o2 _ (by omega) c hc hcf
  omega
 have:=h.o2 _ (by omega) c hc (by omega)
 omega
end
theorem fA_le{n:Nat}{g g':Nat->D}(h:∀i,LeD (g i) (g' i)):LeL (fA n g) (fA n g'):=by
 unfold fA;induction AQ n with
 |nil=>exact .nil
 |cons a l ih=>exact .cons (h a) ih
def Tbd:Par:=⟨λf=>f==51||f==52||f==53,λ_ _=>AL,λ_=>Ad,λ_=>Ad,λt=>t==170||t==177⟩
theorem Tbd_ok:zA9 AF Tbd:=by intro t n f h;cases h
abbrev inpN(b:Bd):D:= .agg [iD (b.n:Nat),iD (b.f:Nat), .row (b.desc.map bD) b.desc.length, .row (nsD b.P) b.P.length, .row (b.A.flatMap atR) b.A.length]
abbrev gB2(n m:Nat):Bk:=⟨[iD (n:Nat), .osl 3 0 m m Ab],77,0,Ad,Ad, .plain⟩
def zDm(R:List (List Nat×List Rw)):Nat:=(R.map λa=>a.2.length).sum
theorem zYa(R:List (List Nat×List Rw))(i:Nat)(h:i<R.length):zDm (R.take (i+1))=zDm (R.take i)+(R.getD i Af).2.length:=by
 grind [zDm,Bn,AS]
set_option maxHeartbeats 4000000 in
theorem build_c(b:Bd)(VT:Nat->List Rw)(TT:Nat->List (Rw×Nat))(S:Nat)(h:Bal b VT TT)
  (hck:Pure AF 16 [inpN b] [] (iD 0))
  (heb:Pure AF 31 [.agg [iD (b.n:Nat), .row (b.E.map u32D) b.E.length],iD (b.f:Nat), .row (nsD b.P) b.P.length] [] (.tup [.row (b.L.flatMap bgC) b.L.length,iD 0]))
  (hall:Pure AF 32 [iD (b.n:Nat), .row (b.L.flatMap bgC) b.L.length, .row (b.A.flatMap atR) b.A.length] [] (.tup [.row (b.R.flatMap atR) b.R.length,iD ((S:Nat):Int),iD 0]))
  (hSb:S+zDm b.R<=9000000000000000000):
  Pure AF 15 [inpN b] [] (.tup [ixD b.desc (b.L.take b.f) (λc=>if totB b VT TT=0 then[]else buk b VT TT c) (totB b VT TT),iD ((S+zDm b.R:Nat):Int),iD 0]):=by
 have hac:∀a:List Nat×List Rw,(atR a).length=3:=λ_=>rfl;have hAl:=h.A;refine zF Tbd_ok mixed Tryz.func15 rfl ?_;focus
  refine vAu<|zA<|vA<|vr 1 (5<=5)<|vc hck<|veT<|vAe<|vf ?_;refine vK<|vA<|vr 5 (True/\0<5/\((1=1/\1<=2/\True)/\Ab=Ab)/\Ad=Ad/\Ab=Ab/\2=2/\2<=2)<|vnil<|zC<|vnn (fr 159 [(1,Ae 0 0),(2,Ae 1 0),(3,iD 0),(4,iD 0),(5,iD 0),(6,Ae 2 0),(27,bD Ad),(30,Ae 0 0),(31,iD ↑(Ag b)),(32,AI [iD ↑(Ag b),nl])]) [(q26_ b),q27_,An [iD ↑(Ag b),nl] 77 0 Ad Ad Az] ?_;rotate_left
 refine zB7 (Weak.nilC (j:=2) (i:=1) (ej:=grB (iD (b.n:Nat)) nl1) (uuB []) rfl rfl rfl rfl) ?_;focus
  refine zA<|vAs<|ve (True/\0<1)<|zH ?_;rotate_left
 refine zK (λ(i:Nat)=>fr 159 [(1,Ae 0 0),(2,Ae 1 0),(3,iD 0),(4,iD 0),(6,Ae 2 0),(34,(q19_ b)),(35,iD (Aa (AK b):Int)),(36,iD i)]) (λ(i:Nat)=>[blI b,blX,gB2 b.n i,uuB ((b.A.take i).map λa=>msk a.1)]) (λ(i:Nat)=>b.A.length-i) (λ(i:Nat)=>i<=b.A.length) 0 ?_ ?_ ?_
 ·omega
 ·refine vk 4
 intro i h1;rcases AW i b.A.length with h3|h3
 ·have hg2:=zCv hac b.A i h3;have hle:=zEr hac b.A i h3;have hne:=zDd hac (by decide) b.A (by omega);have hmem:b.A.getD i Af∈b.A:=by rw[AZ,AS h3];exact A2 h3
  obtain⟨a1,a2,a3⟩:=h.Av _ hmem;have htk:b.A.take (i+1)=b.A.take i++[b.A.getD i Af]:=zEg b.A i h3;have hcl:((b.A.take i).map λa=>msk a.1).length=i:=by simp;omega
  generalize b.A.getD i Af=a at*;have huu:uuB ((b.A.take (i+1)).map λa=>msk a.1)=⟨((b.A.take i).map λa=>msk a.1).map u32D++[u32D (msk a.1)],36,1,Ab,Ad, .plain⟩:=by rw[htk];simp
  focus
   refine vAu<|zA<|vT ((i:Int)<(Aa (AK b):Int))<|vKB<|vA<|vr 2 (ix ↑i (Aa (AK b):Int) (Ah atR (AK b)≠[])/\3<=Aa (Ak (i*3)<|Ah atR<|AK b)) ?_;refine vs 39 (AI<|As 3<|Ak (i*3)<|Ah atR<|AK b) (AI<|atR a) (by simp(disch:=omega) only[hg2])<|ve (Ad=Ad/\Ab=Ab/\3=3/\3<=3)<|vAe<|zA<|vA<|ve (True/\0<3)<|zH ?_;rotate_left
  refine zK (λ(j:Nat)=>fr 159 [(1,Ae 0 0),(2,Ae 1 0),(3,iD 0),(4,iD 0),(6,Ae 2 0),(9,u32D<|msk<|As j<|Aw a),(34,(q19_ b)),(35,iD (Aa (AK b):Int)),(36,iD i),(41,Aj (nsD<|Aw a)<|Aa<|Aw a),(42,iD (Aa (Aw a):Int)),(43,iD j)]) (λ(j:Nat)=>[blI b,blX,gB2 b.n i,uuB ((b.A.take i).map λa=>msk a.1),atK a]) (λ(j:Nat)=>a.1.length-j) (λ(j:Nat)=>j<=a.1.length) 0 ?_ ?_ ?_
  ·omega
  ·refine vk 5
  intro j h2;have hlt:∀j,msk (a.1.take j)<4294967296:=λj=>zWo λv hv=>a2 v (Ck hv);rcases AW j a.1.length with h4|h4
  ·have h5:=a2 _ (zB0 a.1 j h4);have h6:=zDn h5;have h7:=zRa (hlt j) h6;have h8:=hlt j;focus
    refine vAu<|zA<|vT ((j:Int)<(Aa (Aw a):Int))<|vKB<|vA<|vr 1 (ix ↑j (Aa (Aw a):Int) (nsD (Aw a)≠[])) ?_ ⟨(by omega),⟨(by omega),(by exact zAm (by omega))⟩⟩;refine vp 45 j (nsD<|Aw a)<|vr 1 (0<Aa (Ak j<|nsD<|Aw a))<|vs 46 (Bt (Ak j<|nsD<|Aw a) Uk) (iD (↑(Ax (Aw a) j 0):Int)) (by simp(disch:=omega) only[zCi])<|veT<|zB rfl<|vr 3 ((0:Int)<=(↑(Ax (Aw a) j 0):Int))<|vs 49 (Am<|AA Ar<|AV Ar ((1:Int)*(2:Int)^min (Ay (↑(Ax (Aw a) j 0):Int)) 32)) (dig ((2:Nat)^Ax (Aw a) j 0)) (by simp(disch:=omega) only[AU,zDu])<|vrT 1<|vs 50 (Am<|AA Ar<|AV Ar (↑(AR (AC 32 (↑(msk<|As j<|Aw a):Int)|||AC 32 (↑((2:Nat)^Ax (Aw a) j 0):Int))):Int)) (dig (msk (As j<|Aw a)|||(2:Nat)^Ax (Aw a) j 0)) (by simp(disch:=omega) only[zMl,zA1])<|vrT 1<|vnil<|zD<|vN ?_;refine zB rfl<|vr 2 (i6 (↑j+1))<|vnil<|zC ?_;rotate_left
   refine⟨j+1,by omega,by omega,?_⟩;rw[zWn a.1 j h4];refine vk 5
  obtain rfl:j=a.1.length:=by omega
  rw[Bc];focus
   refine vAu<|zA<|vF ((Aa (Aw a):Int)<(Aa (Aw a):Int))<|vZ2<|zB rfl<|vr 7 (True/\0<1/\((1=1/\1<=1/\True)/\0<1/\1=1/\1<=16777216/\1<=9223372036854775807)/\(Bk.arr (uuB<|Ao (λ(a:List Nat×List Rw)=>msk (Aw a))<|As i<|AK b)=Ab/\Aa (AO<|uuB<|Ao (λ(a:List Nat×List Rw)=>msk (Aw a))<|As i<|AK b)=i*1/\i=i*1/\Br (uuB<|Ao (λ(a:List Nat×List Rw)=>msk (Aw a))<|As i<|AK b)=36/\Bs (uuB<|Ao (λ(a:List Nat×List Rw)=>msk (Aw a))<|As i<|AK b)=1/\1=1/\0<1/\0<4/\36=36/\(i+1)*4<=140737488355328/\1=1/\Bx (Bj<|uuB<|Ao (λ(a:List Nat×List Rw)=>msk (Aw a))<|As i<|AK b)=Ad/\(Ad=Ad\/By (Bj<|uuB<|Ao (λ(a:List Nat×List Rw)=>msk (Aw a))<|As i<|AK b)=Ab))/\True/\Ad=Ad/\Ab=Ab/\1=1/\2<=2) ?_;refine vb 2 (An [iD ↑(Ag b),Au 3 0 (i+1) ((i+1)*1) Ab] 77 0 Ad Ad Az) (An [iD ↑(Ag b),Au 3 0 (i+1) (i+1) Ab] 77 0 Ad Ad Az) (by simp(disch:=omega) only[A7])<|vnil<|zD<|vN<|zB rfl<|vr 2 (i6 (↑i+1))<|vnil<|zC ?_;rotate_left
  refine⟨i+1,by omega,by omega,?_⟩;rw[huu];refine vk 4
 have hiA:i=b.A.length:=by omega
 rw[hiA,Bc,<-h.E];have hEl:b.A.length=b.E.length:=by rw[h.E,A6]
 have hEt:(b.E.map u32D).take b.A.length=b.E.map u32D:=BC (by rw[A6];omega);rw[<-hEl]at heb;focus
  refine vAu<|zA<|vF ((Aa (AK b):Int)<(Aa (AK b):Int))<|vZ2<|vA ?_;refine vr 5 (2<=2/\True/\0<4/\True/\0<2)<|vcl [AI [iD ↑(Ag b),Aj (As (Aa<|AK b)<|Ak 0<|AO<|uuB<|Bd.E b)<|Aa<|AK b],iD ↑(Ai b),Aj (nsD<|AP b)<|Aa<|AP b] [AI [iD ↑(Ag b),Aj (Ao u32D<|Bd.E b)<|Aa<|AK b],iD ↑(Ai b),Aj (nsD<|AP b)<|Aa<|AP b] (LeL.of_eq (by simp(disch:=omega) only[Bf,hEt])) (by exact heb)<|ve (0<2/\1<2)<|zA<|vAe<|vf<|vK<|vA<|vr 5 (True/\0<5/\True/\0<1) ?_;refine vc hall<|ve (0<3/\1<3/\2<3)<|zA<|vAe<|vf<|zQ<|zC<|vnn (fr 159 [(1,Ae 0 0),(2,Ae 1 0),(3,iD 0),(4,iD 0),(12,(q16_ b)),(13,iD 0),(14,(q15_ b)),(15,iD S),(83,bD Ad)]) [blI b,blX,gB2 (Ag b)<|Aa<|AK b,An (Ao u32D<|Bd.E b) (36:TypeId) 1 Ab Ab Az] ?_;rotate_left
 have hRl:=h.R;have hbn:=h.n;focus
  refine zA4<|zA<|vAu<|zH ?_;rotate_left
 refine zK (λ(i:Nat)=>fr 159 [(1,Ae 0 0),(2,Ae 1 0),(3,iD 0),(4,iD 0),(12,(q16_ b)),(14,(q15_ b)),(15,iD (↑(S+zDm (As i<|Aq b)):Int)),(86,(q15_ b)),(87,iD (Aa (Aq b):Int)),(88,iD i)]) (λ(i:Nat)=>[blI b,blX,blG b,blE b]) (λ(i:Nat)=>b.R.length-i) (λ(i:Nat)=>i<=b.R.length) 0 ?_ ?_ ?_
 ·omega
 ·refine vk 4
 intro j h2;rcases AW j b.R.length with h3'|h3'
 ·have hg2:=zCv hac b.R j h3';have hle:=zEr hac b.R j h3';have hne:=zDd hac (by decide) b.R (by omega);have hsu:=zYa b.R j h3';have hbd:zDm (b.R.take j)+(b.R.getD j Af).2.length<=zDm b.R:=by
   grind [zDm,Cy]
  generalize b.R.getD j Af=a at*;have hlen:=zJ0 (a.1.length:Nat) (a.2.map rowV) a.2.length;focus
   refine vAu<|zA<|vT ((j:Int)<(Aa (Aq b):Int))<|vKB<|vA<|vr 2 (ix ↑j (Aa (Aq b):Int) (Ah atR (Aq b)≠[])/\3<=Aa (Ak (j*3)<|Ah atR<|Aq b)) ?_;refine vs 91 (AI<|As 3<|Ak (j*3)<|Ah atR<|Aq b) (AI<|atR a) (by simp(disch:=omega) only[hg2])<|ve (Ad=Ad/\Ab=Ab/\3=3/\3<=3)<|zB rfl<|vr 3 (True/\2<=2)<|vc hlen<|vr 2 (i6 ((↑(S+zDm (As j<|Aq b)):Int)+(Aa (AN a):Int)))<|vnil<|zD<|vN<|zB rfl<|vr 2 (i6 (↑j+1))<|vnil<|zC ?_;rotate_left
  refine⟨j+1,h3',by omega,?_⟩;rw[hsu,show((S+(zDm (b.R.take j)+a.2.length):Nat):Int)=((S+zDm (b.R.take j):Nat):Int)+((a.2.length:Nat):Int) by omega];refine vk 4
 have hjR:j=b.R.length:=by omega
 rw[hjR,Bc];have hz1:repL b.n [.val (.map AL)]=fA b.n (gvT b.P VT 0):=by
  grind [zS0,zB1,gvT]
 have hz2:repL b.n [.val (.map AL)]=fA b.n (gtT b.f TT 0):=by
  grind [zS0,zB1,gtT]
 have hz3:repL b.f [.val (.slice AL 0 0)]=fA b.f (guT b.f (buk b VT TT) 0):=by
  grind [zS0,zB1,guT]
 have hbf:=h.f;have hPl:=h.P;focus
  refine vAu<|zA<|vF ((Aa (Aq b):Int)<(Aa (Aq b):Int))<|vZ2<|vA ?_;refine ve (5<=5/\((5=5/\5<=10/\1=1/\6<=10/\1=1/\7<=10/\True)/\Ab=Ab)/\Ad=Ad/\Ab=Ab/\10=10/\10<=10)<|zA ?_;refine zA6 [0,3,1,2,6,4,5] [(7,[(4,100000),(5,6)],[8,9])] rfl ?_;refine vr 7 (True/\True/\0<5/\((0:Int)<=(↑(Ag b):Int)/\(↑(Ag b):Int)<=(↑(Ag b):Int)/\(↑(8:Nat):Int)*(↑(Ag b):Int)<=(281474976710656:Int)/\(↑(Ag b):Int)<=(281474976710656:Int)/\0<1/\1=1)/\True/\0<5/\(0:Int)<=(↑(Ag b):Int)/\(↑(Ag b):Int)<=(↑(Ag b):Int)/\(↑(8:Nat):Int)*(↑(Ag b):Int)<=(281474976710656:Int)/\(↑(Ag b):Int)<=(281474976710656:Int)/\0<1/\1=1)<|vnil<|zBy rfl rfl (by kernel_rfl)<|vr 1 (Ad=Ad/\Ab=Ab/\1=1/\8<=10)<|vb 4 (An [iD ↑(Ag b),iD ↑(Ai b),Aj (Ao bD<|AX b)<|Aa<|AX b,Aj (nsD<|AP b)<|Aa<|AP b,Aj (Ah atR<|AK b)<|Aa<|AK b,Aj (Ah bgC<|Ap b)<|Aa<|Ap b,Aj (Ah atR<|Aq b)<|Aa<|Aq b,Au 5 0 (Ay (↑(Ag b):Int)) (Ay (↑(Ag b):Int)*1) Ab,nl,nl] 120 0 Ad Ad Az) (An [iD ↑(Ag b),iD ↑(Ai b),Aj (Ao bD<|AX b)<|Aa<|AX b,Aj (nsD<|AP b)<|Aa<|AP b,Aj (Ah atR<|AK b)<|Aa<|AK b,Aj (Ah bgC<|Ap b)<|Aa<|Ap b,Aj (Ah atR<|Aq b)<|Aa<|Aq b,Au 5 0 (Ag b) (Ag b) Ab,nl,nl] 120 0 Ad Ad Az) (by simp(disch:=omega) only[AU,A7]) ?_;refine vnil ?_;refine zE1 (C:=0<5/\AG (iD ↑(Ag b))=AG (Bt [iD ↑(Ag b),iD ↑(Ai b),(q17_ b),(q18_ b),(q19_ b)] Uk)/\((0:Int)<=(↑(Ag b):Int)/\(↑(Ag b):Int)<=(↑(Ag b):Int)/\(↑(8:Nat):Int)*(↑(Ag b):Int)<=(281474976710656:Int)/\(↑(Ag b):Int)<=(281474976710656:Int)/\0<1/\1=1)/\AG (Au 6 0 (Ay (↑(Ag b):Int)) (Ay (↑(Ag b):Int)*1) Ab)=AG (Au 6 0 (Ay (↑(Ag b):Int)) (Ay (↑(Ag b):Int)*1) Ab)/\eqDL (repL (Ag b) [Am (Ci AL)]) (repL (Ay (↑(Ag b):Int)) [Am (Ci AL)])/\177=177/\1=1/\Ab=Ab/\(kdOf Ab)=kdOf Ab) ⟨(by omega),(by kernel_rfl),(by omega),(by kernel_rfl),rfl,(by kernel_rfl),(by kernel_rfl),(by kernel_rfl),(by kernel_rfl)⟩ ?_;refine vr 2 (True/\Ad=Ad/\Ab=Ab/\1=1/\9<=10)<|vb 4 (An [iD ↑(Ag b),iD ↑(Ai b),Aj (Ao bD<|AX b)<|Aa<|AX b,Aj (nsD<|AP b)<|Aa<|AP b,Aj (Ah atR<|AK b)<|Aa<|AK b,Aj (Ah bgC<|Ap b)<|Aa<|Ap b,Aj (Ah atR<|Aq b)<|Aa<|Aq b,Au 5 0 (Ag b) (Ag b) Ab,Au 6 0 (Ay (↑(Ag b):Int)) (Ay (↑(Ag b):Int)*1) Ab,nl] 120 0 Ad Ad Az) (An [iD ↑(Ag b),iD ↑(Ai b),Aj (Ao bD<|AX b)<|Aa<|AX b,Aj (nsD<|AP b)<|Aa<|AP b,Aj (Ah atR<|AK b)<|Aa<|AK b,Aj (Ah bgC<|Ap b)<|Aa<|Ap b,Aj (Ah atR<|Aq b)<|Aa<|Aq b,Au 5 0 (Ag b) (Ag b) Ab,Au 6 0 (Ag b) (Ag b) Ab,nl] 120 0 Ad Ad Az) (by simp(disch:=omega) only[AU,A7]) ?_;refine vnil<|zBt<|vN<|vA<|vr 3 (True/\0<4/\(0:Int)<=(↑(Ai b):Int)/\(↑(Ai b):Int)<=(↑(Ai b):Int)/\(↑(24:Nat):Int)*(↑(Ai b):Int)<=(281474976710656:Int)/\(↑(Ai b):Int)<=(281474976710656:Int)/\0<1/\1=1)<|vb 7 (An (repL (Ay (↑(Ai b):Int)) [nl]) 88 1 Ab Ad<|kdOf Ad) (An (fA (Ai b)<|guT (Ai b) (buk b VT TT) 0) 88 1 Ab Ad<|kdOf Ad) (by simp(disch:=omega) only[AU,hz3])<|vr 2 (True/\Ad=Ad/\Ab=Ab/\1=1/\10<=10)<|vb 4 (An [iD ↑(Ag b),iD ↑(Ai b),Aj (Ao bD<|AX b)<|Aa<|AX b,Aj (nsD<|AP b)<|Aa<|AP b,Aj (Ah atR<|AK b)<|Aa<|AK b,Aj (Ah bgC<|Ap b)<|Aa<|Ap b,Aj (Ah atR<|Aq b)<|Aa<|Aq b,Au 5 0 (Ag b) (Ag b) Ab,Au 6 0 (Ag b) (Ag b) Ab,Au 7 0 (Ay (↑(Ai b):Int)) (Ay (↑(Ai b):Int)*1) Ab] 120 0 Ad Ad Az) (An [iD ↑(Ag b),iD ↑(Ai b),Aj (Ao bD<|AX b)<|Aa<|AX b,Aj (nsD<|AP b)<|Aa<|AP b,Aj (Ah atR<|AK b)<|Aa<|AK b,Aj (Ah bgC<|Ap b)<|Aa<|Ap b,Aj (Ah atR<|Aq b)<|Aa<|Aq b,Au 5 0 (Ag b) (Ag b) Ab,Au 6 0 (Ag b) (Ag b) Ab,Au 7 0 (Ai b) (Ai b) Ab] 120 0 Ad Ad Az) (by simp(disch:=omega) only[AU,A7]) ?_;refine veT<|zA<|vA<|ve (True/\0<2)<|zH ?_;rotate_left
 refine zK (λ(i:Nat)=>fr 159 [(1,Ae 0 0),(2,Ae 1 0),(3,iD 0),(4,iD 0),(12,(q16_ b)),(15,iD (↑(S+zDm (Aq b)):Int)),(18,Ae 4 0),(115,(q18_ b)),(116,iD (Aa (AP b):Int)),(117,iD i)]) (λ(i:Nat)=>[blI b,blX,blG b,blE b,blB b,blV<|fA b.n<|gvT b.P VT i,blT<|fA b.n<|gtT b.f TT 0,blU<|fA b.f<|guT b.f (buk b VT TT) 0]) (λ(i:Nat)=>b.P.length-i) (λ(i:Nat)=>i<=b.P.length) 0 ?_ ?_ ?_
 ·omega
 ·rw[<-hz1,<-hz2];refine vk 8
 intro p h4;rcases AW p b.P.length with h5|h5
 ·have hhd:=zCi b.P p h5;have hpm:=h.P2 _ (zB0 b.P p h5);have hre:=reduce_c b (b.P.getD p 0) (gvT b.P VT p) (gtT b.f TT 0) VT TT (h.bokP h5) (fA b.f (guT b.f (buk b VT TT) 0));rw[<-h.vt _ hpm.1 hpm.2]at hre;have hgs:(fA b.n λc=>if c=b.P.getD p 0 then zHe (VT (b.P.getD p 0))else gvT b.P VT p c)=fA b.n (gvT b.P VT (p+1)):=by
   refine zB1 λc _=>?_;grind [Bn,AS,gvT,BE]
  rw[hgs]at hre;focus
   refine vAu<|zA<|vT ((p:Int)<(Aa (AP b):Int))<|vKB<|vA<|vr 1 (ix ↑p (Aa (AP b):Int) (nsD (AP b)≠[])) ?_ ⟨(by omega),⟨(by omega),(by exact zAm (by omega))⟩⟩;refine vp 119 p (nsD<|AP b)<|vr 1 (0<Aa (Ak p<|nsD<|AP b))<|vsh 120 hhd<|veT<|zB rfl<|vrT 1<|vnt [blI b,blX,blG b,blE b,blB b,blV<|fA (Ag b)<|gvT (AP b) VT p,blT<|fA (Ag b)<|gtT (Ai b) TT 0,blU<|fA (Ai b)<|guT (Ai b) (buk b VT TT) 0] ?_;refine zY [] [] [Ae 4 0,iD (↑(Ax (AP b) p 0):Int)] [Ae 4 0,iD (↑(Ax (AP b) p 0):Int)] (A3 _) (by exact hre) ?_;refine vnil<|zD<|vN<|zB rfl<|v0s<|vr 2 (i6 (↑p+1))<|vnil<|zC ?_;rotate_left
  refine⟨p+1,h5,by omega,?_⟩;refine vk 8
 have hpP:p=b.P.length:=by omega
 rw[hpP];focus
  refine vAu<|zA<|vF ((Aa (AP b):Int)<(Aa (AP b):Int))<|vZ2<|zA<|zA ?_;refine zB rfl<|ve (True/\0<4)<|zH ?_;rotate_left
 refine zK (λ(i:Nat)=>fr 159 [(1,Ae 0 0),(2,Ae 1 0),(12,(q16_ b)),(15,iD (↑(S+zDm (Aq b)):Int)),(18,Ae 4 0),(125,iD ↑(Ai b)),(126,iD i)]) (λ(i:Nat)=>[blI b,blX,blG b,blE b,blB b,blV<|fA b.n<|gvT b.P VT b.P.length,blT<|fA b.n<|gtT b.f TT i,blU<|fA b.f<|guT b.f (buk b VT TT) i]) (λ(i:Nat)=>b.f-i) (λ(i:Nat)=>i<=b.f) 0 ?_ ?_ ?_
 ·omega
 ·refine vk 8
 intro q h6;rcases AW q b.f with h7|h7
 ·have hvn:b.f-1-q<b.n:=by omega
  have hgr:=group_c b (b.f-1-q) (gvT b.P VT b.P.length) (gtT b.f TT q) (guT b.f (buk b VT TT) q) VT TT (h.bokF h7) (by omega) h.d (h.V _ hvn).2.1 (λx hx=>(h.r _ hvn x hx).2.2) (h.T _ hvn);rw[<-h.tt _ (by omega)]at hgr;have hg1:(fA b.n λc=>if c=b.f-1-q then zGn (TT (b.f-1-q))else gtT b.f TT q c)=fA b.n (gtT b.f TT (q+1)):=by
   refine zB1 λc _=>?_;grind [gtT]
  have hg2:(fA b.f λc=>if c=b.f-1-q then busD (buk b VT TT (b.f-1-q))else guT b.f (buk b VT TT) q c)=fA b.f (guT b.f (buk b VT TT) (q+1)):=by
   refine zB1 λc _=>?_;grind [guT]
  rw[hg1,hg2]at hgr;have hvi:((b.f:Int)-1-(q:Int))=((b.f-1-q:Nat):Int):=by omega
  focus
   refine vAu<|zA<|vT ((q:Int)<↑(Ai b))<|vKB<|vAe ?_;refine vA<|vr 5 (True/\0<4/\i6 (↑(Ai b)-1)/\i6 ((↑(Ai b):Int)-(1:Int)-(q:Int)))<|vs 133 (iD ((↑(Ai b):Int)-(1:Int)-(q:Int))) (iD ↑(Ai b-1-q)) (by simp(disch:=omega) only[hvi])<|vnt [blI b,blX,blG b,blE b,blB b,blV<|fA (Ag b)<|gvT (AP b) VT<|Aa<|AP b,blT<|fA (Ag b)<|gtT (Ai b) TT q,blU<|fA (Ai b)<|guT (Ai b) (buk b VT TT) q] ?_;refine zY [] [] [Ae 4 0,iD ↑(Ai b-1-q)] [Ae 4 0,iD ↑(Ai b-1-q)] (A3 _) (by exact hgr) ?_;refine v0s<|veT<|vAe<|vf<|zQ<|zD<|vN<|zB rfl<|vr 2 (i6 (↑q+1))<|vnil<|zC ?_;rotate_left
  refine⟨q+1,h7,by omega,?_⟩;refine vk 8
 have hqf:q=b.f:=by omega
 rw[hqf];have htot:=total_c b (gvT b.P VT b.P.length) (gtT b.f TT b.f) VT TT (fA b.f (guT b.f (buk b VT TT) b.f)) h.n h.L h.A (λa ha=>(h.Av a ha).2.2) (λv hv hf _=>if_pos (by rw[Bc];exact h.mem hf hv)) (λv hv hf _=>if_pos ⟨by omega,hf⟩) h.Rt h.S1 (λc _ j _=>gvT_ref) (λc _ j _=>gtT_ref);have hLn:=h.L;have hlt:(b.L.take b.f).length=b.f:=by rw[Cz,h.L];omega
 have hfl:(b.L.flatMap bgC).take (b.f*3)=(b.L.take b.f).flatMap bgC:=fl_take (c:=3) (λ_=>rfl) b.L b.f;have hU:∀c,c<b.f->(buk b VT TT c).length<=1000000/\∀u∈buk b VT TT c,u.Ok:=λc hc=>by
  have hcn:c<b.n:=by omega
  have hrc:=h.r c hcn;have hVc:=(h.V c hcn).1;obtain⟨q1,q2⟩:=zTj (desc:=b.desc.getD c Ad) (w:=λx=>wtL b.f VT TT x (chV b c)) (Q:=λk=>k.length<=1000/\∀u∈k,Vs u) (b.R.getD c Af).2 λx hx=>by
   grind
  exact⟨A0 q1 (by have:=h.rl c hcn;omega),λu hu=>⟨by have:=(q2 u hu).q.1;omega,(q2 u hu).q.2⟩⟩
 generalize totB b VT TT=tot at*;rcases Cd tot with ht|ht
 ·have hdl0:dg tot=[]:=by subst ht;simp[dg]
  have hz4:repL b.f [.val (.slice AL 0 0)]=fA b.f λ_=> .val (.slice AL 0 0):=zS0 _ _;have htk:(fA b.f λ_=> .val (.slice AL 0 0)).take b.f=fA b.f λ_=> .val (.slice AL 0 0):=BC (by rw[zEt];exact AY _);have hasm:Pure AF 54 [.row (b.desc.map bD) b.desc.length, .row ((b.L.take b.f).flatMap bgC) b.f, .row (fA b.f λ_=> .val (.slice AL 0 0)) b.f,natD tot] [] (ixD b.desc (b.L.take b.f) (λc=>if tot=0 then[]else buk b VT TT c) tot):=by
   have h0:=zNv b.desc (b.L.take b.f) (λc=>if tot=0 then[]else buk b VT TT c) tot (by rw[h.d];omega) (by omega) (λc hc=>by rw[if_pos ht];exact⟨by simp,λu hu=>by cases hu⟩);rw[hlt]at h0;refine Pure.le (args':=_) h0 (.cons (.refl _) (.cons (.refl _) (.cons ?_ (.cons (.refl _) .nil))));rw[h.d];refine LeD.row (fA_le λc=>?_);rw[if_pos ht];exact LeD.nil_row
  focus
   refine vAu<|zA<|vF ((↑(Ai b):Int)<↑(Ai b))<|vZ2<|vA ?_;refine vnt [blI b,blX,blG b,blE b,blB b,blV<|fA (Ag b)<|gvT (AP b) VT<|Aa<|AP b,blT<|fA (Ag b)<|gtT (Ai b) TT<|Ai b,blU<|fA (Ai b)<|guT (Ai b) (buk b VT TT)<|Ai b] ?_;refine zY [] [] [Ae 4 0] [Ae 4 0] (A3 _) (by exact htot) ?_;refine v0s<|veT<|zA<|vAe<|zEu (t:=(Aa (dg tot):Int)==(0:Int)) (by kernel_rfl) (by simpa using by omega)<|zB rfl<|vr 3 (True/\0<4/\(0:Int)<=(↑(Ai b):Int)/\(↑(Ai b):Int)<=(↑(Ai b):Int)/\(↑(24:Nat):Int)*(↑(Ai b):Int)<=(281474976710656:Int)/\(↑(Ai b):Int)<=(281474976710656:Int)/\0<1/\1=1)<|vb 8 (An (repL (Ay (↑(Ai b):Int)) [nl]) 88 1 Ab Ad<|kdOf Ad) (An (fA (Ai b) λ(x:Nat)=>nl) 88 1 Ab Ad<|kdOf Ad) (by simp(disch:=omega) only[AU,hz4])<|vr 2 (True/\Ad=Ad/\Ab=Ab/\1=1/\10<=10)<|vb 4 (An [iD ↑(Ag b),iD ↑(Ai b),Aj (Ao bD<|AX b)<|Aa<|AX b,Aj (nsD<|AP b)<|Aa<|AP b,Aj (Ah atR<|AK b)<|Aa<|AK b,Aj (Ah bgC<|Ap b)<|Aa<|Ap b,Aj (Ah atR<|Aq b)<|Aa<|Aq b,Au 5 0 (Ag b) (Ag b) Ab,Au 6 0 (Ag b) (Ag b) Ab,Au 8 0 (Ay (↑(Ai b):Int)) (Ay (↑(Ai b):Int)*1) Ab] 120 0 Ad Ad Az) (An [iD ↑(Ag b),iD ↑(Ai b),Aj (Ao bD<|AX b)<|Aa<|AX b,Aj (nsD<|AP b)<|Aa<|AP b,Aj (Ah atR<|AK b)<|Aa<|AK b,Aj (Ah bgC<|Ap b)<|Aa<|Ap b,Aj (Ah atR<|Aq b)<|Aa<|Aq b,Au 5 0 (Ag b) (Ag b) Ab,Au 6 0 (Ag b) (Ag b) Ab,Au 8 0 (Ai b) (Ai b) Ab] 120 0 Ad Ad Az) (by simp(disch:=omega) only[AU,A7]) ?_;refine veT<|zA<|vd [0,2,3,6,8,10,1,4,5,7,9,11,12,13]<|vr 9 (True/\True/\True/\0<3/\0<4/\True/\(0:Int)<=(↑(Ai b):Int)/\True/\0<3/\0<=Ay (↑(Ai b):Int)/\Ay (↑(Ai b):Int)<=Aa (Ap b)/\Ay (↑(Ai b):Int)=Ay (↑(Ai b):Int))<|vs 153 (Aj (As ((Ay (↑(Ai b):Int)-0)*3)<|Ak 0<|Ah bgC<|Ap b) (Ay (↑(Ai b):Int)-0)) (Aj (Ah bgC<|As (Ai b)<|Ap b)<|Ai b) (by simp(disch:=omega) only[AU,BW,Bf,hfl])<|vr 1 (0<1)<|vcl [Aj (Ao bD<|AX b)<|Aa<|AX b,Aj (Ah bgC<|As (Ai b)<|Ap b)<|Ai b,Aj (As (Ai b)<|Ak 0 (fA (Ai b) λ(x:Nat)=>nl))<|Ai b,natD tot] [Aj (Ao bD<|AX b)<|Aa<|AX b,Aj (Ah bgC<|As (Ai b)<|Ap b)<|Ai b,Aj (fA (Ai b) λ(x:Nat)=>nl)<|Ai b,natD tot] (LeL.of_eq (by simp(disch:=omega) only[Bf,htk])) (by exact hasm)<|ve (Ad=Ad/\Ab=Ab/\5=5/\5<=5)<|zE<|vret (5<=5)<|.inr rfl
 have hdp:=zXg ht;have hgu:fA b.f (guT b.f (buk b VT TT) b.f)=fA b.f λc=>busD (buk b VT TT c):=zB1 λc hc=>if_pos ⟨by omega,hc⟩;have htk:(fA b.f λc=>busD (buk b VT TT c)).take b.f=fA b.f λc=>busD (buk b VT TT c):=BC (by rw[zEt];exact AY _);rw[hgu]at htot⊢;have hasm:Pure AF 54 [.row (b.desc.map bD) b.desc.length, .row ((b.L.take b.f).flatMap bgC) b.f, .row (fA b.f λc=>busD (buk b VT TT c)) b.f,natD tot] [] (ixD b.desc (b.L.take b.f) (λc=>if tot=0 then[]else buk b VT TT c) tot):=by
  have h0:=zNv b.desc (b.L.take b.f) (buk b VT TT) tot (by rw[h.d];omega) (by omega) (λc hc=>hU c (by rw[<-h.d];exact hc));have e:(λc=>if tot=0 then[]else buk b VT TT c)=buk b VT TT:=funext λc=>if_neg (by omega);rw[e];rw[hlt]at h0;have hd:=h.d;grind
 focus
  refine vAu<|zA<|vF ((↑(Ai b):Int)<↑(Ai b))<|vZ2<|vA ?_;refine vnt [blI b,blX,blG b,blE b,blB b,blV<|fA (Ag b)<|gvT (AP b) VT<|Aa<|AP b,blT<|fA (Ag b)<|gtT (Ai b) TT<|Ai b,blU (fA (Ai b) λ(c:Nat)=>busD (buk b VT TT c))] ?_;refine zY [] [] [Ae 4 0] [Ae 4 0] (A3 _) (by exact htot) ?_;refine v0s<|veT<|zA<|vAe<|vEf ((Aa (dg tot):Int)) ((0:Int))<|vK<|zA<|vd [0,2,3,6,8,10,1,4,5,7,9,11,12,13]<|vr 9 (True/\True/\True/\0<3/\0<4/\True/\(0:Int)<=(↑(Ai b):Int)/\True/\0<3/\0<=Ay (↑(Ai b):Int)/\Ay (↑(Ai b):Int)<=Aa (Ap b)/\Ay (↑(Ai b):Int)=Ay (↑(Ai b):Int))<|vs 153 (Aj (As ((Ay (↑(Ai b):Int)-0)*3)<|Ak 0<|Ah bgC<|Ap b) (Ay (↑(Ai b):Int)-0)) (Aj (Ah bgC<|As (Ai b)<|Ap b)<|Ai b) (by simp(disch:=omega) only[AU,BW,Bf,hfl]) ?_;refine vr 1 (0<1)<|vcl [Aj (Ao bD<|AX b)<|Aa<|AX b,Aj (Ah bgC<|As (Ai b)<|Ap b)<|Ai b,Aj (As (Ai b)<|Ak 0 (fA (Ai b) λ(c:Nat)=>busD (buk b VT TT c)))<|Ai b,natD tot] [Aj (Ao bD<|AX b)<|Aa<|AX b,Aj (Ah bgC<|As (Ai b)<|Ap b)<|Ai b,Aj (fA (Ai b) λ(c:Nat)=>busD (buk b VT TT c))<|Ai b,natD tot] (LeL.of_eq (by simp(disch:=omega) only[Bf,htk])) (by exact hasm)<|ve (Ad=Ad/\Ab=Ab/\5=5/\5<=5)<|zE<|vret (5<=5)<|.inr rfl
end
theorem nbE_bit{E:List Nat}(hE:∀e∈E,e<4294967296){v:Nat}(hv:v<32)(w:Nat):(nbE E v).testBit w=E.any λe=>e.testBit v&&(e.testBit w&&decide (w≠v)):=by
 have key:∀(E:List Nat)(m:Nat),(∀e∈E,e<4294967296)->(E.foldl (λm e=>adU e m v) m).testBit w=(m.testBit w||E.any λe=>e.testBit v&&(e.testBit w&&decide (w≠v))):=by
  intro E;induction E with
  |nil=>intro m _;simp
  | cons e E ih=>
   intro m h;rw[BN,ih _ λx hx=>h x (Bo _ hx),List.any_cons,<-Bool.or_assoc];congr 1;unfold adU;split
   ·rename_i hb;have e2:andn e v=andm e (2^v):=rfl;rw[Nat.testBit_or,e2,zXu (h e (BI ..)) (zDn hv),Nat.testBit_two_pow,hb,Bool.true_and];grind
   grind
 have:=key E 0 hE
 rw[Nat.zero_testBit,Bool.false_or]at this;exact this
structure Nbk(n:Nat)(O:List Nat)(i:Nat)(nb:Nat->Nat):Prop where
 b:∀u,nb u<4294967296
 r:∀u w,u<n->i<=O.idxOf u->(nb u).testBit w=Ab->w<n/\i<=O.idxOf w/\w≠u
 s:∀u w,u<n->w<n->i<=O.idxOf u->i<=O.idxOf w->(nb u).testBit w=(nb w).testBit u
structure Ook(n:Nat)(O:List Nat):Prop where
 n32:n<=32
 len:O.length=n
 lt:∀v∈O,v<n
 nd:O.Nodup
theorem Ook.at{n:Nat}{O:List Nat}(h:Ook n O){i:Nat}(hi:i<n):O.getD i 0<n/\O.idxOf (O.getD i 0)=i:=by
 have hl:=h.len;refine⟨h.lt _ (zB0 O i (by omega)),?_⟩;rw[AZ,AS (by omega),BS];exact h.nd.idxOf_getElem i (by omega)
theorem Ook.ix{n:Nat}{O:List Nat}(h:Ook n O){v:Nat}(hv:v<n):O.idxOf v<n/\O.getD (O.idxOf v) 0=v:=by
 have h1:=zJb h.nd h.len h.lt v hv;have h2:=List.idxOf_lt_length_iff.2 h1;refine⟨by rw[<-h.len];exact h2,?_⟩;grind
theorem Ook.inj{n:Nat}{O:List Nat}(h:Ook n O){u v:Nat}(hu:u<n)(hv:v<n)(e:O.idxOf u=O.idxOf v):u=v:=by
 rw[<-(h.ix hu).2,<-(h.ix hv).2,e]
theorem zS9{n key v u w:Nat}{nb:Nat->Nat}(hn:n<=32)(hu:u<n)(hv:v<n)(hb:nb u<4294967296)(hk:key<4294967296):(nbJ key v n nb u).testBit w=if key.testBit u=Ab then(((nb u).testBit w||key.testBit w)&&(decide (w≠u)&&decide (w≠v)))else(nb u).testBit w:=by
 grind [nbJ,zXu,zRa,zDn]
theorem Nbk.step{n:Nat}{O:List Nat}{i:Nat}{nb:Nat->Nat}(hO:Ook n O)(hi:i<n)(h:Nbk n O i nb):Nbk n O (i+1) (nbJ (nb (O.getD i 0)) (O.getD i 0) n nb):=by
 obtain⟨v1,v2⟩:=hO.at hi;generalize O.getD i 0=v at*;have hne:∀u,u<n->i+1<=O.idxOf u->u≠v:=λu _ h1 e=>by rw[e,v2]at h1;omega
 have hgt:∀w,w<n->i<=O.idxOf w->w≠v->i+1<=O.idxOf w:=λw hw h1 h2=>by
  rcases AW i (O.idxOf w)with h3|h3
  ·exact h3
  exact absurd (hO.inj hw v1 (by omega)) h2
 refine⟨nbJ_32 h.b,λu w hu h1 hb=>?_,λu w hu hw h1 h2=>?_⟩
 ·rw[zS9 hO.n32 hu v1 (h.b u) (h.b v)]at hb;split at hb
  ·rename_i hk;simp only[BO,Cm,decide_eq_true_eq]at hb;obtain⟨hb,h3,h4⟩:=hb;rcases hb with hb|hb
   ·obtain⟨q1,q2,q3⟩:=h.r u w hu (by omega) hb;grind
   obtain⟨q1,q2,q3⟩:=h.r v w v1 (by omega) hb;grind
  rename_i hk;obtain⟨q1,q2,q3⟩:=h.r u w hu (by omega) hb;refine⟨q1,hgt w q1 q2 λe=>?_,q3⟩;subst e;rw[h.s u w hu q1 (by omega) q2]at hb;exact hk hb
 rw[zS9 hO.n32 hu v1 (h.b u) (h.b v),zS9 hO.n32 hw v1 (h.b w) (h.b v),h.s u w hu hw (by omega) (by omega)];grind
theorem Nbk.all{n:Nat}{O:List Nat}{nb:Nat->Nat}(hO:Ook n O)(h:Nbk n O 0 nb):∀i,i<=n->Nbk n O i (nbT n O nb i)
 |0,_=>h
 |i+1,hi=>(Nbk.all hO h i (by omega)).step hO (by omega)
structure Bgk(n:Nat)(O:List Nat)(g:Nat->Bg):Prop where
 v:∀c,(g c).v=c
 k:∀c,(g c).k<4294967296
 r:∀c w,c<n->(g c).k.testBit w=Ab->w<n/\O.idxOf c<O.idxOf w
 p:∀c (v:Nat),c<n->(g c).p=(v:Int)->(g c).k.testBit v=Ab/\∀w,(g c).k.testBit w=Ab->O.idxOf v<=O.idxOf w
 q:∀c,c<n->(g c).p<0->(g c).k=0
 pz:∀c,c<n->(g c).p=-1\/∃v:Nat,(g c).p=(v:Int)/\v<n
theorem zPh{key:Nat}{pl:Nat->Nat}:∀{j:Nat},(parJ key pl j=AL->∀w,w<j->key.testBit w=Ad)/\∀p,parJ key pl j=AG p->∀w,w<j->key.testBit w=Ab->pl p<=pl w
 |0=>⟨λ_ w h=>by omega,λp h=>by cases h⟩
 |j+1=>by
  obtain⟨i1,i2⟩:=zPh (key:=key) (pl:=pl) (j:=j);rw[parJ];grind
theorem bagE_ok{n:Nat}{O:List Nat}{nb:Nat->Nat}(hO:Ook n O)(h:Nbk n O 0 nb):Bgk n O (bagE n O nb):=by
 have hk:∀c,c<n->∀w,(nbT n O nb (O.idxOf c) c).testBit w=Ab->w<n/\O.idxOf c<O.idxOf w:=λc hc w hw=>by
  have hi:=(hO.ix hc).1;obtain⟨q1,q2,q3⟩:=(h.all hO _ (by omega)).r c w hc (AY _) hw;refine⟨q1,?_⟩;rcases AW (O.idxOf c) (O.idxOf w)with h3|h3
  ·exact h3
  exact absurd (hO.inj q1 hc (by omega)) q3
 refine⟨λc=>rfl,λc=>nbT_32 h.b _ _,λc w hc hw=>hk c hc w hw,λc v hc hp=>?_,λc hc hp=>?_,λc hc=>?_⟩
 ·unfold bagE at hp⊢;dsimp only at hp⊢;cases e:parJ (nbT n O nb (O.idxOf c) c) (λu=>O.idxOf u) n with
  |none=>rw[e]at hp;simp only[Go.Proofs.YtjcofbkhoeockaaGreatDoor.pz]at hp;omega
  |some p=>
   rw[e]at hp;simp only[Go.Proofs.YtjcofbkhoeockaaGreatDoor.pz]at hp;obtain rfl:p=v:=by omega
   grind [zLk,zPh]
 ·unfold bagE at hp⊢;dsimp only at hp⊢;cases e:parJ (nbT n O nb (O.idxOf c) c) (λu=>O.idxOf u) n with
  |none=>
   apply Nat.eq_of_testBit_eq;grind [nbT,zPh]
  |some p=>rw[e]at hp;simp only[Go.Proofs.YtjcofbkhoeockaaGreatDoor.pz]at hp;omega
 unfold bagE;dsimp only;cases e:parJ (nbT n O nb (O.idxOf c) c) (λu=>O.idxOf u) n with
 |none=>exact .inl rfl
 |some p=>exact .inr ⟨p,rfl,(zLk e).1⟩
theorem nb0_ok{n:Nat}{O E:List Nat}(hn:n<=32)(hE:∀e∈E,e<2^n):Nbk n O 0 λv=>if v<n then nbE E v else 0:=by
 have hE2:∀e∈E,e<4294967296:=λe he=>B3 (hE e he) (Bv (n:=2) (by omega) hn);refine⟨λu=>?_,λu w hu _ hb=>?_,λu w hu hw _ _=>?_⟩
 ·grind [nbE,nbE_32]
 ·rw[if_pos hu,nbE_bit hE2 (by omega),BY]at hb;obtain⟨e,he,hb⟩:=hb;simp only[BO,decide_eq_true_eq]at hb;refine⟨?_,Bl _,hb.2.2⟩;grind [AW,CE,B3,Bv]
 grind [nbE_bit,Bool.and_comm]
theorem jn_all{s:Nat}{A:List (List Nat×List Rw)}(Q:Va->Prop)(hao:AOk (mkP s A))(hR:∀a∈A,∀r∈a.2,r.length=a.1.length/\∀v∈r,Q v):∀x∈jn (mkP s A),x.length=(zBb s).length/\∀v∈x,Q v:=λx hx=>by
 obtain⟨h1,h2⟩:=((zPw hao).2 x).1 hx;refine⟨h1,λv hv=>?_⟩;obtain⟨w,hw,rfl⟩:=BP hv;have h1':x.length=(mkP s A).n:=h1;obtain⟨a,ha,hm⟩:=hao.v.cov w (by omega);have h3:=h2 a ha;have ha2:a<A.length:=by
  have:(mkP s A).A.length=A.length:=A6 _;omega
 have hpa:(mkP s A).A.getD a Af=zBl s (A.getD a Af):=zFz s A ha2;rw[hpa]at h3;obtain⟨q,hq,e⟩:=A1.1 (zKp.1 h3);have hmem:x[w]∈prj (mkP s A).vs a 0 x:=A1.2 ⟨w,BH.2 ⟨hm,by simp⟩,by rw[AZ,AS hw];rfl⟩;rw[<-e]at hmem;have hA:A.getD a Af∈A:=by rw[AZ,AS ha2];exact A2 ha2
 obtain⟨q1,q2⟩:=hR _ hA q hq;obtain⟨c,hc,e2⟩:=A1.1 hmem;have hc2:=zJs _ _ c hc;rw[<-e2];refine q2 _ ?_;rw[AZ,AS (by omega:c<q.length)];exact A2 _
theorem zNg{α:Type}[DecidableEq α]:∀{L M:List α},L.Nodup->(∀x∈L,x∈M)->L.length<=M.length
 |[],_,_,_=>Bl _
 |a::L,M,hn,h=>by
  obtain⟨h1,h2⟩:=List.nodup_cons.1 hn;have ha:=h a (BI ..)
  have:=zNg (L:=L) (M:=M.erase a) h2 λx hx=>(List.mem_erase_of_ne (λe=>h1 (by rw[<-e];exact hx))).2 (h x (Bo _ hx))
  grind
def cart{α:Type}:List (List α)->List (List α)
 |[]=>[[]]
 |l::ls=>l.flatMap λa=>(cart ls).map (a::·)
theorem zXo{α:Type}:∀ls:List (List α),(cart ls).length=(ls.map (·.length)).foldr (· *·) 1
 |[]=>rfl
 |l::ls=>by
  rw[cart,Bi,CF,<-zXo ls];induction l<;>grind
theorem zXn{α β:Type}(f:β->α)(L:β->List α):∀B:List β,(∀a∈B,f a∈L a)->B.map f∈cart (B.map L)
 |[],_=>by simp[cart]
 |a::B,h=>by
  rw[Bi,Bi,cart,List.mem_flatMap];exact⟨f a,h a (BI ..),A1.2 ⟨_,zXn f L B λb hb=>h b (Bo _ hb),rfl⟩⟩
theorem zS3{β:Type}(f g:β->Nat):∀B:List β,(∀a∈B,f a<=g a)->(B.map f).foldr (· *·) 1<=(B.map g).foldr (· *·) 1
 |[],_=>AY _
 |a::B,h=>by
  rw[Bi,Bi,CF,CF];exact Nat.mul_le_mul (h a (BI ..)) (zS3 f g B λb hb=>h b (Bo _ hb))
def combs(A:List (List Nat×List Rw)):Nat:=(A.map λa=>max 1 a.2.length).foldr (· *·) 1
theorem jn_len{s:Nat}{A:List (List Nat×List Rw)}(hao:AOk (mkP s A)):(jn (mkP s A)).length<=combs A:=by
 have hsp:=zPw hao;generalize hm:mkP s A=m at*;let code:Rw->List Rw:=λx=>(AQ m.A.length).map λa=>prj m.vs a 0 x;have hnd:(jn m).Nodup:=(hsp.1).imp λ{a b} h e=>by
  grind [zB4]
 have hinj:∀x y,x∈jn m->y∈jn m->code x=code y->x=y:=λx y hx hy e=>by
  obtain⟨x1,_⟩:=(hsp.2 x).1 hx;obtain⟨y1,_⟩:=(hsp.2 y).1 hy;apply Ct (by omega);intro w h1 h2;obtain⟨a,ha,hmem⟩:=hao.v.cov w (by omega);have e2:prj m.vs a 0 x=prj m.vs a 0 y:=by
   have:=congrArg (λl=>l.getD a []) e
   grind
  have:=List.map_inj_left.1 e2 w (BH.2 ⟨hmem,by simp⟩)
  grind
 have hnd2:((jn m).map code).Nodup:=by
  rw[List.Nodup,CD];exact hnd.imp_of_mem λ{x y} hx hy hne e=>hne (hinj x y hx hy e)
 have h1:=zNg (M:=cart ((AQ m.A.length).map λa=>(m.A.getD a Af).2)) hnd2 λz hz=>by
  grind [zXn]
 rw[A6,zXo,List.map_map]at h1;refine A0 h1 ?_;have e:(AQ m.A.length).map ((λl:List Rw=>l.length)∘λa=>(m.A.getD a Af).2)=m.A.map λa=>a.2.length:=by
  apply Ct (by simp);grind
 rw[e,<-hm];show((A.map (zBl s)).map λa=>a.2.length).foldr (· *·) 1<=_;rw[List.map_map];exact zS3 _ _ A λa _=>A0 (zKm s a) (Nat.le_max_right _ _)
abbrev Tbs:=(Nat->List Rw)×(Nat->List (Rw×Nat))
def tabS(b:Bd)(v:Nat)(p:Tbs):Tbs:=(λc=>if c=v then redK (λx=>wtL b.f p.1 p.2 x (chV b v)) (keyC b v) (b.R.getD v Af).2 else p.1 c,λc=>if c=v then totL (grpL (b.desc.getD v Ad) (λx=>wtL b.f p.1 p.2 x (chV b v)) (b.R.getD v Af).2)else p.2 c)
def tab(b:Bd)(O:List Nat):Nat->Tbs
 |0=>(λ_=>[],λ_=>[])
 |i+1=>tabS b (O.getD i 0) (tab b O i)
theorem wtL_ext{f:Nat}{V V':Nat->List Rw}{T T':Nat->List (Rw×Nat)}{x:Rw}{ch:List (Nat×List Nat)}(h:∀c∈ch,V c.1=V' c.1/\T c.1=T' c.1):wtL f V T x ch=wtL f V' T' x ch:=by
 grind [wtL,B5,wone]
section
variable {b : Bd} {O : List Nat} (hO : Ook b.n O) (hch : ∀ v, v < b.n → ∀ c ∈ chV b v, c.1 < b.n ∧ O.idxOf c.1 < O.idxOf v)
include hO
theorem zM2{c i j:Nat}(hc:c<b.n)(h:O.idxOf c<i)(hij:i<=j)(hj:j<=b.n):(tab b O j).1 c=(tab b O i).1 c/\(tab b O j).2 c=(tab b O i).2 c:=by
 induction j with
 |zero=>omega
 | succ j ih=>
  rcases AW j i with h1|h1
  ·grind
  have hne:c≠O.getD j 0:=λe=>by
   have:=(hO.at (show j<b.n by omega)).2
   rw[<-e]at this;omega
  grind [tab,tabS,only]
include hch
theorem tab_eq{v:Nat}(hv:v<b.n):(tab b O b.n).1 v=redK (λx=>wtL b.f (tab b O b.n).1 (tab b O b.n).2 x (chV b v)) (keyC b v) (b.R.getD v Af).2/\(tab b O b.n).2 v=totL (grpL (b.desc.getD v Ad) (λx=>wtL b.f (tab b O b.n).1 (tab b O b.n).2 x (chV b v)) (b.R.getD v Af).2):=by
 obtain⟨h1,h2⟩:=hO.ix hv;obtain⟨e1,e2⟩:=zM2 hO hv (Nat.lt_succ_self (O.idxOf v)) (Nat.succ_le_of_lt h1) (AY _);have e3:(λx=>wtL b.f (tab b O b.n).1 (tab b O b.n).2 x (chV b v))=λx=>wtL b.f (tab b O (O.idxOf v)).1 (tab b O (O.idxOf v)).2 x (chV b v):=funext λx=>wtL_ext λc hc=>by
  obtain⟨c1,c2⟩:=hch v hv c hc;exact zM2 hO c1 c2 (by omega) (AY _)
 simp_all [tab,tabS,only]
end
def exB:Nat->Nat
 |0=>1
 |i+1=>1+(i+1)*exB i
theorem zP3{i j:Nat}(h:i<=j):exB i<=exB j:=by
 induction h with
 |refl=>exact AY _
 |step _ ih=>
  grind [A0,exB,Nat.succ_mul]
theorem zTo{B:Nat}(hB:1<=B):∀(l:List Nat)(a:Nat),(∀x∈l,x<=B)->l.foldl (· *·) a<=a*B^l.length
 |[],a,_=>by simp
 |x::l,a,h=>by
  rw[BN];refine A0 (zTo hB l (a*x) λy hy=>h y (Bo _ hy)) ?_;rw[BA,Nat.pow_succ,Cl (B^l.length) B,<-Nat.mul_assoc];simp_all [CG,Nat.mul_le_mul_left,BI]
theorem zSr{w:Rw->Nat}{M:Nat}:∀l:List Rw,(∀x∈l,w x<=M)->sumW w l<=l.length*M
 |[],_=>by simp[sumW]
 |x::l,h=>by
  have:=zSr l λy hy=>h y (Bo _ hy)
  grind [BI,sumW,BA,Nat.succ_mul]
theorem tput_mem{K:List (List Va×Nat)}{r:List Va}{w:Nat}{p:List Va×Nat}(h:p∈tput K r w):p=(r,w)\/p∈K:=by
 grind [tput,List.mem_or_eq_of_mem_set,BE]
theorem totL_mem{p:List Va×Nat}:∀l:List Bu,p∈totL l->∃b∈l,p=(b.key,b.t.tot):=by
 have key:∀(l:List Bu)(K:List (List Va×Nat)),p∈l.foldl (λK b=>tput K b.key b.t.tot) K->p∈K\/∃b∈l,p=(b.key,b.t.tot):=by
  intro l;induction l with
  |nil=>exact λK h=> .inl h
  |cons b l ih=>
   intro K h;rw[BN]at h;rcases ih _ h with h|⟨u,hu,h⟩;all_goals grind [tput_mem,BI,Bo]
 intro l h;rcases key l [] h with h|h
 ·cases h
 exact h
theorem dg_pow:∀(k n:Nat),n<4294967296^k->(dg n).length<=k
 |0,n,h=>by
  simp_all [Nat.pow_zero,dg]
 | k+1,n,h=>by
  rw[dg];split
  ·simp
  rw[BA]
  have:=dg_pow k (n/4294967296) (by rw[Nat.pow_succ]at h;exact Nat.div_lt_of_lt_mul (by rw[Cl];exact h))
  omega
theorem b32_pow(k:Nat):4294967296^k=2^(32*k):=by rw[Nat.pow_mul]
theorem dg_exp{n e k:Nat}(h:n<=2^e)(he:e<32*k):(dg n).length<=k:=by
 refine dg_pow k n ?_;rw[b32_pow];exact Nat.lt_of_le_of_lt h (Nat.pow_lt_pow_right (by omega) he)
theorem Sm.pow{n e:Nat}(h:n<=2^e)(he:e<32000):Sm n:=dg_exp h he
theorem two_pow_pos(e:Nat):1<=2^e:=Nat.one_le_two_pow
section
variable {b : Bd} {O : List Nat} (hO : Ook b.n O) (hch : ∀ v, v < b.n → ∀ c ∈ chV b v, c.1 < b.n ∧ O.idxOf c.1 < O.idxOf v) (hnd : ∀ v, v < b.n → ((chV b v).map (·.1)).Nodup)
 {V : Nat → List Rw} {T : Nat → List (Rw × Nat)} (hT : ∀ v, v < b.n → T v = totL (grpL (b.desc.getD v Ad) (fun x => wtL b.f V T x (chV b v)) (b.R.getD v Af).2)) (hl : ∀ v, v < b.n → (b.R.getD v Af).2.length ≤ 65536)
include hO hch hnd
theorem ch_few{v:Nat}(hv:v<b.n):(chV b v).length<=O.idxOf v:=by
 have h1:((chV b v).map λc=>O.idxOf c.1).Nodup:=by
  have e:(chV b v).map (λc=>O.idxOf c.1)=((chV b v).map (·.1)).map λu=>O.idxOf u:=by rw[List.map_map];rfl
  rw[e,List.Nodup,CD];exact(hnd v hv).imp_of_mem λ{x y} hx hy hne e=>by
   obtain⟨c,hc,rfl⟩:=A1.1 hx;obtain⟨d,hd,rfl⟩:=A1.1 hy;exact hne (hO.inj (hch v hv c hc).1 (hch v hv d hd).1 e)
 have:=zF4 (n:=O.idxOf v) h1 λx hx=>by
  grind
 rwa[A6]at this
theorem wt_le{v:Nat}(hv:v<b.n)(E:Nat)(hE:∀c∈chV b v,∀p∈T c.1,p.2<=2^E)(x:Rw)(i:Nat):wtL b.f V T x ((chV b v).take i)<=2^(O.idxOf v*E):=by
 unfold wtL;have h1:=zTo (two_pow_pos E) (((chV b v).take i).map (wone b.f V T x)) 1 λy hy=>by
  obtain⟨c,hc,rfl⟩:=A1.1 hy;unfold wone;split
  ·cases e:tlk (T c.1) (zX x c.2)with
   |none=>simp
   |some w=>
    grind [tlk,Cp,Ck,CH]
  grind
 rw[Nat.one_mul,A6,<-Nat.pow_mul]at h1;grind [A0,Bv,Cl,CG,ch_few]
include hT hl
theorem tab_le:∀(i v:Nat),v<b.n->O.idxOf v=i->∀p∈T v,p.2<=2^(16*exB i):=λi=>by
 induction i using Nat.strongRecOn with
 | _ i ih=>
  intro v hv hi p hp;rw[hT v hv]at hp;obtain⟨u,hu,rfl⟩:=totL_mem _ hp;have h1:=((zTj (Q:=λ_=>True) (b.R.getD v Af).2 λ_ _=>trivial).2 u hu).s;refine A0 h1 ?_;have hw:∀x∈(b.R.getD v Af).2,wtL b.f V T x (chV b v)<=2^(16*(exB i-1)):=λx _=>by
   have:=wt_le (V:=V) hO hch hnd hv (16*exB (i-1)) (λc hc p hp=>by
    obtain⟨c1,c2⟩:=hch v hv c hc;refine A0 (ih _ (by omega) c.1 c1 rfl p hp) (Bv (by omega) (Nat.mul_le_mul_left _ (zP3 (by omega))))) x (chV b v).length
   rw[Bc,hi]at this;refine A0 this (Bv (by omega) ?_);cases i with
   |zero=>simp
   |succ i=>
    rw[exB,Nat.add_sub_cancel,Nat.add_sub_cancel_left,<-Nat.mul_assoc,Cl (i+1) 16,Nat.mul_assoc];exact AY _
  refine A0 (zSr _ hw) ?_;refine A0 (CG _ (hl v hv)) ?_;have e:(65536:Nat)=2^16:=rfl;rw[e,<-Nat.pow_add];refine Bv (by omega) ?_;have:1<=exB i:=zP3 (Bl i);omega
end
end Go.Proofs.YtjcofbkhoeockaaGreatDoor
