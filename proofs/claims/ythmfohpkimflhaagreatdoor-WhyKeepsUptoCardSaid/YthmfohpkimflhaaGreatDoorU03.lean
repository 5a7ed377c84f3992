/- Texts of this claim, joined. -/
import Derived.Test.YthmfohpkimflhaaGreatDoorU02
import Derived.Test.YthmfohpkimflhaaGreatDoorProg
import Derived.Lib.RowBridge
import Derived.BigCall
import Derived.Lib.ItoaLen
import Derived.Lib.Walk
import Derived.WalkKit
import Derived.Lib.Strings
import Derived.Lib.ItoaWalk
import Derived.Lib.LaidTab
import Derived.Lib.Hide
import Derived.Shelf.Spec.SlicesGrow
import Derived.Ground.Names8Prog
import Derived.Lib.AppendZeros
set_option linter.unusedVariables false
set_option linter.unusedSimpArgs false
namespace Go.Proofs.YthmfohpkimflhaaGreatDoor
open _root_.List renaming length->Aa,map->Ad,drop->Ag,take->An,getD->Ar,range->Av,getD_eq_getElem?_getD->AC,getElem?_eq_getElem->AD,mem_map->AG,flatMap->AH,take_of_length_le->AJ,length_map->AN,headD->AR,drop_zero->AV,getElem_mem->A0,mem_cons->A3,all_eq_true->A6,length_append->A7,take_succ_eq_append_getElem->Bb,length_filter_le->Bd,length_cons->Bh,mem_filter->Bq,getElem?_eq_some_iff->Br,map_cons->Bs,mem_cons_of_mem->Bu,Pairwise->Bw,replicate->Bx,length_nil->By,toArray->BA,getElem?_take->BC,map_map->BE,pairwise_cons->BG,ext_getElem->BH,all->BK,mem_cons_self->BL,map_congr_left->BM,getElem?_append_left->BN,take_length->BO,cons->BP,append_assoc->BQ,idxOf_lt_length_iff->BR,append_nil->BS,mem_singleton->BV,mem_range->BX,map_nil->BY,cons_append->BZ,getElem?_map->B1,mem_of_getElem?->B5,filter_cons->B6,filter_congr->B7,getElem?_append_right->B8,eq_nil_of_length_eq_zero->B9,nodup_range->Ca,filter_append->Cb,ext_getElem?->Cf,length_drop->Ch,foldl_nil->Ci,any_eq_true->Cj,range_succ->Ck,getElem_of_mem->Cl,take_succ_cons->Cn,map_append->Co,nil_append->Cp,foldl_cons->Cq,getElem_inj->Cz,pairwise_map->CA,pairwise_iff_getElem->CC,pairwise_singleton->CD,length_take->CE,length_set->CG,findIdx?_eq_some_iff_getElem->CH
open _root_.Bool renaming true->Ab,false->Ac,and_eq_true->Bg,eq_iff_iff->BI,false_eq_true->BT,or_eq_true->BW,not_eq_true'->B_
open D renaming row->Ae,osl->Af,val->Aj,own->Ao,agg->AF,ptr->A8,clo->Bm
open Lib renaming itoa->Ah,decDigits->AE,nDigits->AI,bitLen->Bt,itoa_length_le->BU,byteCells->B2,decDigits_length->Ct,nDigits_le20->Cx
open _root_.Option renaming some->Ai,none->Ax,some->B4,getD_some->Cy,map_some->CF
open Bk renaming mk->Ak,kd->Ay,cells->Az,ty->AK,sz->AL,arr->AZ,fz->A5
open Value renaming int->Al,string->AO,bool->Bn,slice->Bp
open Kd renaming plain->Am,isMap->AS,isSh->AT
open _root_.Go.Proofs.Tryz renaming prog->Ap,func201->Cd,func202->Ce
open IntKind renaming u8->Aq,u32->AQ,wrap->A4,u64->Bl,i64->Bo
open _root_.Inhabited renaming default->As
open _root_.BitVec renaming ofInt->Au,toNat->AU
open Va renaming kind->Aw,int->AA,str->AB
open _root_.Nat renaming lt_or_ge->AM,le_refl->AY,le_trans->A1,mul_one->A2,zero_le->BF,mul_assoc->B0,testBit->Cc,eq_zero_or_pos->Cg,mul_le_mul_right->Cr
open _root_.Int renaming toNat->AP,fdiv->AX,toNat_natCast->BJ,natAbs->B3
open _root_.ByteArray renaming mk->AW,data->Bj
open TypeInfo renaming desc->A9,mk->A_
open TypeDesc renaming string->Ba
open LeL renaming refl->Bc
open _root_.Prod renaming fst->Bf,snd->BD
open _root_.Array renaming toList->Bi,replicate->Cu,size_replicate->Cv,toArray_toList->CB
open _root_.Classical renaming byContradiction->Bv
open Weak renaming nilC->BB
section
open Go.RowKit
attribute [local irreducible] seqW awp zW zX zP Weak updS zZ retL Pure Acts rP setP setQ cP nP fr
set_option maxRecDepth 4096
abbrev boD(bs:List Bool):List D:=bs.map λb=>bD b
theorem zW5(bs:List Bool)(i:Nat)(h:i<bs.length):((boD bs).drop i).headD .unk=bD (bs.getD i Ab):=by simp_all
theorem indexF_c(bs:List Bool)(n:Nat)(hn:bs.length=n)(hb:n<=1000000):∃z:Int,(0<=z↔bs.contains Ac=Ab)/\Pure Ap 84 [.row (boD bs) n,bD Ac] [] (iD z):=by
 subst hn;by_cases hc:bs.contains Ac=Ab
 ·obtain⟨p,hp,hq,hm⟩:∃p,p<bs.length/\bs.getD p Ab=Ac/\∀j,j<p->bs.getD j Ab=true:=by
   have hf:∃p,p<bs.length/\bs.getD p Ab=false:=by
    rw[List.contains_iff_mem]at hc;obtain⟨p,h1,h2⟩:=List.mem_iff_getElem.1 hc;exact⟨p,h1,by rw[AC,AD h1];exact h2⟩
   let p:=bs.findIdx (· ==Ac);have hlt:p<bs.length:=List.findIdx_lt_length_of_exists (by
    obtain⟨p,h1,h2⟩:=hf;exact⟨Ac,List.contains_iff_mem.1 hc,rfl⟩)
   refine⟨p,hlt,?_,λj hj=>?_⟩;all_goals grind
  refine⟨p,⟨λ_=>hc,λ_=>by omega⟩,?_⟩;refine zG zBs mixed Tryz.func84 rfl<|vAu<|zB<|vAe<|zF<|zS (λ(i:Nat)=>fr 19 [(0,Ae (boD bs)<|Aa bs),(1,bD Ac),(7,iD (Aa bs:Int)),(8,iD (i:Int))]) (λ(i:Nat)=>[]) (λ(i:Nat)=>p-i) (λ(i:Nat)=>i<=p) 0 ?_ ?_ ?_
  ·omega
  ·refine vk 0
  rintro i h1;have hx:=zW5 bs i (by omega);have hne:boD bs≠[]:=zAb;rcases AM i p with h2|h2
  ·rw[hm i h2]at hx;refine vAu<|zB<|vT ((i:Int)<↑(Aa bs))<|vKB<|vAe<|vA<|vr 4 (ix ↑i ↑(Aa bs) (boD bs≠[]))<|vp 14 i (boD bs)<|vr 1 (0<Aa (Ag i<|boD bs))<|vsh 15 hx<|veT<|vf<|zK<|zE<|vN<|zA rfl<|vr 2 (i6 (↑i+1))<|vnil<|zC<|⟨i+1,by omega,by omega,?_⟩;refine vk 0
  obtain rfl:i=p:=by omega
  rw[hq]at hx;refine vAu<|zB<|vT ((i:Int)<↑(Aa bs))<|vKB<|vAe<|vA<|vr 4 (ix ↑i ↑(Aa bs) (boD bs≠[]))<|vp 14 i (boD bs)<|vr 1 (0<Aa (Ag i<|boD bs))<|vsh 15 hx<|veT<|vt<|vAe<|zJ<|zN<|zH<|zH<|zN<|zH<|vret (True)<|.inr rfl
 refine⟨-1,⟨λh=>by omega,λh=>absurd h hc⟩,?_⟩;have hall:∀j,j<bs.length->bs.getD j Ab=true:=λj hj=>by
  grind
 refine zG zBs mixed Tryz.func84 rfl<|vAu<|zB<|vAe<|zF<|zS (λ(i:Nat)=>fr 19 [(0,Ae (boD bs)<|Aa bs),(1,bD Ac),(7,iD (Aa bs:Int)),(8,iD (i:Int))]) (λ(i:Nat)=>[]) (λ(i:Nat)=>bs.length-i) (λ(i:Nat)=>i<=bs.length) 0 ?_ ?_ ?_
 ·omega
 ·refine vk 0
 rintro i h1;rcases AM i bs.length with h2|h2
 ·have hx:=zW5 bs i h2;have hne:boD bs≠[]:=zAb;rw[hall i h2]at hx;refine vAu<|zB<|vT ((i:Int)<↑(Aa bs))<|vKB<|vAe<|vA<|vr 4 (ix ↑i ↑(Aa bs) (boD bs≠[]))<|vp 14 i (boD bs)<|vr 1 (0<Aa (Ag i<|boD bs))<|vsh 15 hx<|veT<|vf<|zK<|zE<|vN<|zA rfl<|vr 2 (i6 (↑i+1))<|vnil<|zC<|⟨i+1,by omega,by omega,?_⟩;refine vk 0
 refine vAu<|zB<|vF ((i:Int)<(Aa bs:Int))<|vZ2<|vAe<|zJ<|vret (True)<|.inr rfl
theorem zTo(bs:List Bool)(n:Nat)(hn:bs.length=n)(hb:n<=1000000):Pure Ap 64 [.row (boD bs) n,bD Ac] [] (bD (bs.contains Ac)):=by
 obtain⟨z,h1,h2⟩:=indexF_c bs n hn hb;cases hc:bs.contains Ac with
 |true=>
  refine zG zBs mixed Tryz.func64 rfl<|vAu<|vA<|vrT 2<|vc (h2)<|veT<|zJ<|vre (True) (Aj<|Bn<|decide (z>=(0:Int))) (.inr rfl) ?_;grind
 |false=>
  refine zG zBs mixed Tryz.func64 rfl<|vAu<|vA<|vrT 2<|vc (h2)<|veT<|zJ<|vre (True) (Aj<|Bn<|decide (z>=(0:Int))) (.inr rfl) ?_;grind
theorem repL_bo(n:Nat):repL n [.val (.bool Ac)]=boD (useP n [] []):=by simp_all [zKe,useP_0]
theorem set_bo(bs:List Bool)(v:Nat):(boD bs).set v (bD Ab)=boD (bs.set v Ab):=by simp
abbrev boB(bs:List Bool):Bk:=⟨boD bs,4,1,Ab,Ac, .plain⟩
abbrev atB(a:At):Bk:=⟨atC a,45,0,Ac,Ac, .plain⟩
theorem lfMany_c(n:Int)(ats:List D)(m:Nat)(h0:0<=n)(h1:n<=32)(hm:32<m):Pure Ap 37 [iD n, .row ats m] [] (iD 12):=by
 refine zG zBs mixed Tryz.func37 rfl<|vAu<|zB<|vA<|vew [] [(2,Ac)] (decide (n<0)=Ac)<|vF (n>(32:Int))<|vK<|zB<|vAe<|vT ((m:Int)>(32:Int))<|vAe<|zJ<|zH<|vret (True)<|.inr rfl
set_option maxHeartbeats 4000000 in
theorem lfCheck_c(n:Nat)(ats:List At)(hn:n<=32)(hm:ats.length<=32)(hl:∀a∈ats,a.V.length<=2000000):Pure Ap 37 [iD (n:Nat), .row (ats.flatMap atC) ats.length] [] (iD (if atL n ats≠0 then atL n ats else if(useP n ats []).contains Ac then 22 else 0)):=by
 refine zG zBs mixed Tryz.func37 rfl<|vAu<|zB<|vA<|vew [] [(2,Ac)] (decide ((n:Int)<0)=Ac)<|vF ((n:Int)>(32:Int))<|vK<|zB<|vAe<|vF ((Aa ats:Int)>(32:Int))<|vK<|vA<|vr 3 ((0:Int)<=(n:Int)/\(n:Int)<=(n:Int)/\(↑(1:Nat):Int)*(n:Int)<=(281474976710656:Int)/\(n:Int)<=(281474976710656:Int)/\0<1/\1=1)<|vs 5 (Af 0 0 (AP (n:Int)) (AP (n:Int)*1) Ab) (Af 0 0 n n Ab)<|veT<|zB<|vAe<|zF<|zS (λ(i:Nat)=>fr 75 [(0,iD (n:Int)),(5,Af 0 0 n n Ab),(22,Ae (AH atC ats)<|Aa ats),(23,iD (Aa ats:Int)),(24,iD (i:Int))]) (λ(i:Nat)=>[boB<|useP n (ats.take i) []]) (λ(i:Nat)=>ats.length-i) (λ(i:Nat)=>i<=ats.length/\∀j,j<i->atE n (ats.getD j As)=0) 0 ?_ ?_ ?_
 ·grind
 ·refine wkn (fr 75 [(0,iD (↑n:Int)),(4,iD 0),(5,Af 0 0 n n Ab),(22,Ae (AH atC ats) (Aa ats)),(23,iD (↑(Aa ats):Int)),(24,iD 0)]) [Ak (repL n [bD Ac]) 4 1 Ab Ac (kdOf Ac)] (zGz [(0,1),(5,1),(22,1),(23,1),(24,1)] (iD (↑n:Int)=iD (↑n:Int)/\Af 0 0 n n Ab=Af 0 0 n n Ab/\Ae (AH atC ats) (Aa ats)=Ae (AH atC ats) (Aa ats)/\iD (↑(Aa ats):Int)=iD (↑(Aa ats):Int)/\iD 0=iD (↑(0:Nat):Int)) 1 [] (by kernel_rfl) ⟨rfl,rfl,rfl,rfl,(by kernel_rfl)⟩ (by kernel_rfl) (λ_ _=>rfl) (by simp[updB,repL_bo,zEb]))
 rintro i ⟨h1,h2⟩;rcases AM i ats.length with h3|h3;case inr=>
  have hco:=zTo (useP n ats []) n (zG2 ..) (by omega);rw[if_neg (by rw[atL_0 λj hj=>h2 j (by omega)];exact λk=>k rfl),AJ h3];have htn:(boD (useP n ats [])).take n=boD (useP n ats []):=AJ (by simp[zG2]);by_cases hc:(useP n ats []).contains Ac=Ab
  ·rw[hc]at hco;rw[if_pos hc];refine vAu<|zB<|vF ((i:Int)<↑(Aa ats))<|vZ2<|zB<|vA<|vrT 1<|vcl [Ae (An n<|Ag 0<|Az<|boB<|useP n ats []) n,bD Ac] [Ae (boD<|useP n ats []) n,bD Ac] (LeL.of_eq (by simp(disch:=omega) only[AV,htn])) (by exact hco)<|veT<|vt<|vAe<|zJ<|zH<|vret (True)<|.inr rfl
  rw[if_neg hc];rw[Bool.not_eq_true]at hc;rw[hc]at hco;refine vAu<|zB<|vF ((i:Int)<↑(Aa ats))<|vZ2<|zB<|vA<|vrT 1<|vcl [Ae (An n<|Ag 0<|Az<|boB<|useP n ats []) n,bD Ac] [Ae (boD<|useP n ats []) n,bD Ac] (LeL.of_eq (by simp(disch:=omega) only[AV,htn])) (by exact hco)<|veT<|vf<|vK<|vAe<|zJ<|vret (True)<|.inr rfl
 have hg2:=zJ0 zT4 ats i h3;have hle:=zFe zT4 ats i h3;have hne:=zFd zT4 (by decide) ats;have hat:=atL_at h2 h3;have hvl:=hl _ (zAf ats As i h3);have htk:=zA1 ats i h3;generalize hA:ats.getD i As=a at*;obtain⟨V,ar,R⟩:=a;simp only at hvl;refine vAu<|zB<|vT ((i:Int)<↑(Aa ats))<|vKB<|vA<|vr 2 (ix ↑i ↑(Aa ats) (AH atC ats≠[])/\3<=Aa (Ag (i*3)<|AH atC ats))<|vs 27 (AF<|An 3<|Ag (i*3)<|AH atC ats) (AF<|atC<|At.mk V ar R)<|ve (Ac=Ac/\Ab=Ab/\3=3/\3<=3)<|zB<|vAe<|zF<|zS (λ(k:Nat)=>fr 75 [(0,iD n),(5,Af 0 0 n n Ab),(7,Ao 1 0),(8,iD (↑k+1)),(22,Ae (AH atC ats)<|Aa ats),(23,iD<|Aa ats),(24,iD i)]) (λ(k:Nat)=>[boB<|useP n (ats.take i) [],atB ⟨V,ar,R⟩]) (λ(k:Nat)=>V.length-k) (λ(k:Nat)=>(k=0\/k+1<=V.length)/\∀j,j<=k->j<V.length->zYv V j=Ab) 0 ?_ ?_ ?_
 ·exact⟨.inl rfl,λj h _=>by
   obtain rfl:j=0:=by omega
   rfl⟩
 ·refine vk 2
 rintro k ⟨k1,k2⟩;rcases AM (k+1) V.length with k3|k3
 ·have hneV:(V.map λz=>iD z)≠[]:=zAb;have hx:=zEc V (k+1) k3;have hx0:=zEc V k (by omega);have hst:zYv V (k+1)=decide (V.getD k 0<V.getD (k+1) 0):=by simp[zYv]
  have hno:zYv V (k+1)=Ac->atE n ⟨V,ar,R⟩=16:=λh=>by
   grind [ascB,zVw,atE]
  have e1:((k+1:Nat):Int)-1=(k:Int):=by omega
  have e2:((k:Int)+1)=((k+1:Nat):Int):=by omega
  by_cases hs:V.getD k 0<V.getD (k+1) 0
  ·generalize V.getD (k+1) 0=v at*;generalize V.getD k 0=u at*;refine zB<|vAs<|ve (True/\0<3)<|vT ((↑(k+1):Int)<↑(Aa V))<|vKB<|zB<|vd [0,2,3,6,8,1,4,5,7,9,10,11]<|vr 3 (True/\i6 (↑(k+1)-1))<|vs 38 (iD (↑(k+1)-1)) (iD k)<|vr 4 (True/\0<3/\ix ↑k ↑(Aa V) (Ad (λ(z:Int)=>iD z) V≠[]))<|vp 39 k (Ad (λ(z:Int)=>iD z) V)<|vr 1 (0<Aa (Ag k<|Ad (λ(z:Int)=>iD z) V))<|vsh 40 hx0<|vr 2 (0<3/\ix ↑(k+1) ↑(Aa V) (Ad (λ(z:Int)=>iD z) V≠[]))<|vp 44 (k+1) (Ad (λ(z:Int)=>iD z) V)<|vr 1 (0<Aa (Ag (k+1)<|Ad (λ(z:Int)=>iD z) V))<|vsh 45 hx<|veT<|vF (u>=v)<|zK<|zE<|vN<|zA rfl<|vr 3 (i6 (↑(k+1)+1))<|vnil<|zC<|⟨k+1,⟨.inr k3,λj hj hjl=>?_⟩,by omega,?_⟩
   ·grind
   refine vk 2
  have he:atE n ⟨V,ar,R⟩=16:=hno (by rw[hst];exact decide_eq_false hs);rw[he]at hat;rw[if_pos (by rw[hat (by decide)];decide),hat (by decide)];generalize V.getD (k+1) 0=v at*;generalize V.getD k 0=u at*;refine zB<|vAs<|ve (True/\0<3)<|vT ((↑(k+1):Int)<↑(Aa V))<|vKB<|zB<|vd [0,2,3,6,8,1,4,5,7,9,10,11]<|vr 3 (True/\i6 (↑(k+1)-1))<|vs 38 (iD (↑(k+1)-1)) (iD k)<|vr 4 (True/\0<3/\ix ↑k ↑(Aa V) (Ad (λ(z:Int)=>iD z) V≠[]))<|vp 39 k (Ad (λ(z:Int)=>iD z) V)<|vr 1 (0<Aa (Ag k<|Ad (λ(z:Int)=>iD z) V))<|vsh 40 hx0<|vr 2 (0<3/\ix ↑(k+1) ↑(Aa V) (Ad (λ(z:Int)=>iD z) V≠[]))<|vp 44 (k+1) (Ad (λ(z:Int)=>iD z) V)<|vr 1 (0<Aa (Ag (k+1)<|Ad (λ(z:Int)=>iD z) V))<|vsh 45 hx<|veT<|vT (u>=v)<|vAe<|zJ<|zN<|zH<|zH<|zN<|zH<|zN<|zH<|zH<|zN<|zH<|vret (True)<|.inr rfl
 have hasc:ascB V=true:=zJb λj hj=>k2 j (by omega) hj;refine zB<|vAs<|ve (True/\0<3)<|vF ((k:Int)+(1:Int)<(Aa V:Int))<|vZ2<|zB<|vA<|ve (True/\0<3)<|zF<|zS (λ(j:Nat)=>fr 75 [(0,iD n),(5,Af 0 0 n n Ab),(7,Ao 1 0),(22,Ae (AH atC ats)<|Aa ats),(23,iD<|Aa ats),(24,iD i),(48,Ae (Ad (λ(z:Int)=>iD z) V)<|Aa V),(49,iD<|Aa V),(50,iD j)]) (λ(j:Nat)=>[boB<|useP n (ats.take i)<|V.take j,atB ⟨V,ar,R⟩]) (λ(j:Nat)=>V.length-j) (λ(j:Nat)=>j<=V.length/\∀t,t<j->t<V.length->inB n (V.getD t 0)=Ab) 0 ?_ ?_ ?_
 ·grind
 ·refine vk 2
 clear k1 k2 k3 k;rintro j ⟨j1,j2⟩;rcases AM j V.length with j3|j3
 ·have hneV:(V.map λz=>iD z)≠[]:=zAb;have hx:=zEc V j j3;have htv:V.take (j+1)=V.take j++[V.getD j 0]:=zA1 V j j3;have hno:inB n (V.getD j 0)=Ac->atE n ⟨V,ar,R⟩=3:=λh=>by
   unfold atE;grind
  by_cases hs:0<=V.getD j 0/\V.getD j 0<n
  ·obtain⟨v,hv⟩:∃v:Nat,V.getD j 0=v:=⟨(V.getD j 0).toNat,by omega⟩;rw[hv]at hx htv hs hno;have hin:inB n (V.getD j 0)=true:=by rw[hv];exact decide_eq_true hs
   have hup:=useP_set n (ats.take i) (V.take j) v (by omega);rw[<-htv]at hup;have hsb:=set_bo (useP n (ats.take i) (V.take j)) v;rw[hup]at hsb;have hul:=zG2 n (ats.take i) (V.take j);refine vAu<|zB<|vT ((j:Int)<↑(Aa V))<|vKB<|vA<|vr 1 (ix ↑j ↑(Aa V) (Ad (λ(z:Int)=>iD z) V≠[]))<|vp 52 j (Ad (λ(z:Int)=>iD z) V)<|vr 1 (0<Aa (Ag j<|Ad (λ(z:Int)=>iD z) V))<|vsh 53 hx<|veT<|zB<|vA<|vew [] [(2,Ac)] (decide ((v:Int)<0)=Ac)<|vF ((v:Int)>=(n:Int))<|vK<|zA rfl<|vr 3 ((0:Int)<=(v:Int)/\(v:Int)<↑n)<|vo 63 0 v<|vr 1 (A5 (boB<|useP n (An i ats)<|An j V)=Ac/\Ab=Ab/\1=1/\v+1<=Aa (Az<|boB<|useP n (An i ats)<|An j V)/\¬0∈[])<|vb 0 (Ak (setAt (Az<|boB<|useP n (An i ats)<|An j V) v [bD Ab]) (AK<|boB<|useP n (An i ats)<|An j V) (AL<|boB<|useP n (An i ats)<|An j V) Ab Ac<|Ay<|boB<|useP n (An i ats)<|An j V) (Ak (boD<|useP n (An i ats)<|An (j+1) V) (4:TypeId) 1 Ab Ac Am)<|vnil<|zE<|vN<|zA rfl<|vr 2 (i6 (↑j+1))<|vnil<|zC<|⟨j+1,⟨by omega,λt ht htl=>?_⟩,by omega,?_⟩
   ·grind
   refine vk 2
  have he:=hno (decide_eq_false hs);rw[he]at hat;rw[if_pos (by rw[hat (by decide)];decide),hat (by decide)];generalize V.getD j 0=v at*;by_cases hv0:v<0
  ·refine vAu<|zB<|vT ((j:Int)<(Aa V:Int))<|vKB<|vA<|vr 1 (ix (j:Int) (Aa V:Int) (Ad (λ(z:Int)=>iD z) V≠[]))<|vp 52 (j) (Ad (λ(z:Int)=>iD z) V)<|vr 1 (0<Aa (Ag j<|Ad (λ(z:Int)=>iD z) V))<|vsh 53 hx<|veT<|zB<|vA<|vew [] [(2,Ab)] (decide (v<0)=Ab)<|vt<|vAe<|zJ<|zH<|zN<|zH<|zH<|zN<|zH<|zN<|zH<|zH<|zN<|zH<|vret (True)<|.inr rfl
  have hvn:(n:Int)<=v:=by omega
  refine vAu<|zB<|vT ((j:Int)<↑(Aa V))<|vKB<|vA<|vr 1 (ix ↑j ↑(Aa V) (Ad (λ(z:Int)=>iD z) V≠[]))<|vp 52 j (Ad (λ(z:Int)=>iD z) V)<|vr 1 (0<Aa (Ag j<|Ad (λ(z:Int)=>iD z) V))<|vsh 53 hx<|veT<|zB<|vA<|vew [] [(2,Ac)] (decide (v<0)=Ac)<|vT (v>=(n:Int))<|vAe<|zJ<|zH<|zN<|zH<|zH<|zN<|zH<|zN<|zH<|zH<|zN<|zH<|vret (True)<|.inr rfl
 have hrng:=zP5 (p:=inB n) (d:=0) j3 j2;have hus:useP n (ats.take i) V=useP n (ats.take i++[⟨V,ar,R⟩]) []:=zY9 n _ ⟨V,ar,R⟩;rw[AJ j3,hus];have hty:=rarity_c ar (R.map rowV) R.length;have htk2:ats.take (i+1)=ats.take i++[⟨V,ar,R⟩]:=htk;rw[<-htk2];by_cases hs:(V.length:Int)=ar
 ·subst hs;have he:atE n ⟨V,V.length,R⟩=0:=by
   grind [atE]
  refine vAu<|zB<|vF ((j:Int)<↑(Aa V))<|vZ2<|zB<|vd [0,3,1,2,4,5,6]<|vr 5 (True/\True/\0<3/\2<=2)<|vc hty<|veT<|zFb (t:=(Aa V:Int)!=(Aa V:Int)) (by kernel_rfl) (by simp)<|zK<|zE<|vN<|zA rfl<|vr 2 (i6 (↑i+1))<|vnil<|zC<|⟨i+1,⟨by omega,λt ht=>?_⟩,by omega,?_⟩
  ·grind
  refine vk 1
 have he:atE n ⟨V,ar,R⟩=6:=by
  grind [atE]
 rw[he]at hat;rw[if_pos (by rw[hat (by decide)];decide),hat (by decide)];refine vAu<|zB<|vF ((j:Int)<↑(Aa V))<|vZ2<|zB<|vd [0,3,1,2,4,5,6]<|vr 5 (True/\True/\0<3/\2<=2)<|vc hty<|veT<|zE9 (t:=(Aa V:Int)!=ar) (by kernel_rfl) (by simpa using by omega)<|vAe<|zJ<|zN<|zH<|zH<|zN<|zH<|vret (True)<|.inr rfl
def pbad(f n:Int)(P:List Int)(i:Nat):Bool:=decide (P.getD i 0<f)||decide (n<=P.getD i 0)||decide (P.getD i 0∈P.take i)
def pany(f n:Int)(P:List Int):Bool:=(Av P.length).any (pbad f n P)
def icE(n f:Int)(dn:Nat)(P:List Int)(ats:List At):Int:=
 if n<0\/32<n\/f<0\/n<f then 3 else if(dn:Int)≠f\/(P.length:Int)≠n-f then 1 else if pany f n P=Ab then 1 else lfE n ats
abbrev inpD(n f:Int)(desc:List Bool)(P:List Int)(ats:List At):D:= .agg [iD n,iD f, .row (desc.map bD) desc.length, .row (P.map λz=>iD z) P.length, .row (ats.flatMap atC) ats.length]
abbrev inpB(n f:Int)(desc:List Bool)(P:List Int)(ats:List At):Bk:=⟨[iD n,iD f, .row (desc.map bD) desc.length, .row (P.map λz=>iD z) P.length, .row (ats.flatMap atC) ats.length],32,0,Ac,Ac, .plain⟩
abbrev booB(l:List D):Bk:=⟨l,4,1,Ab,Ac, .plain⟩
def seeF(P:List Int)(i u:Nat):Bool:=decide ((u:Int)∈P.take i)
theorem zW2(n f:Int)(desc:List Bool)(P:List Int)(ats:List At)(hd:desc.length<=2000000)(hP:P.length<=2000000)(ha:ats.length<=2000000)(hl:∀a∈ats,a.V.length<=2000000)(hlf:0<=n->n<=32->Pure Ap 37 [iD n, .row (ats.flatMap atC) ats.length] [] (iD (lfE n ats))):
  Pure Ap 11 [inpD n f desc P ats] [] (iD (icE n f desc.length P ats)):=by
 by_cases h1:n<0\/32<n\/f<0\/n<f
 ·unfold icE;rw[if_pos h1];refine zG zBs mixed Tryz.func11 rfl ?_;focus
   refine vAu<|zB<|vA<|vr 4 (True/\0<5)<|vspD 9 (n<0) (λhc=>?_)<|λhc=>?_;refine veT<|vt<|vAe<|zJ<|zH<|vret (True)<|.inr rfl;refine vr 5 (True/\0<5)<|vspD 14 (n>(32:Int)) (λhc=>?_)<|λhc=>?_;refine veT<|vt<|vAe<|zJ<|zH<|vret (True)<|.inr rfl;refine vr 5 (True/\0<4)<|vspD 19 (f<0) (λhc=>?_)<|λhc=>?_;refine veT<|vt<|vAe<|zJ<|zH<|vret (True)<|.inr rfl;refine ve (True/\0<4/\True/\0<5)<|vT (f>n)<|vAe<|zJ<|zH<|vret (True)<|.inr rfl
 by_cases h2:(desc.length:Int)≠f\/(P.length:Int)≠n-f
 ·unfold icE;rw[if_neg h1,if_pos h2];refine zG zBs mixed Tryz.func11 rfl ?_;focus
   refine vAu<|zB<|vA<|vew [] [(3,Ac),(8,Ac),(13,Ac)] (True/\0<5/\decide (n<0)=Ac/\True/\0<5/\decide (n>(32:Int))=Ac/\True/\0<4/\decide (f<0)=Ac/\True/\0<4/\True/\0<5)<|vF (f>n)<|vK<|zB<|vA<|vr 7 (True/\0<3/\True/\0<4/\True)<|vsp 32 ((Aa desc:Int)!=f) (λhc=>?_)<|λhc=>?_;simp only[bne_iff_ne]at hc;refine veT<|vt<|vAe<|zJ<|zH<|vret (True)<|.inr rfl;simp only[bne_eq_false_iff_eq]at hc;refine ve (True/\0<2/\True/\0<5/\True/\0<4/\i6 (n-f)/\True)<|zE9 (t:=(Aa P:Int)!=n-f) (by kernel_rfl) (by simpa using by omega)<|vAe<|zJ<|zH<|vret (True)<|.inr rfl
 unfold icE;rw[if_neg h1,if_neg h2];obtain⟨k,rfl⟩:∃k:Nat,n=(k:Int):=⟨n.toNat,by omega⟩;have hk:=hlf (by omega) (by omega);obtain⟨m,hm,hgood,hend⟩:∃m,m<=P.length/\(∀j,j<m->pbad f k P j=Ac)/\((m=P.length/\pany f k P=Ac)\/(m<P.length/\pbad f k P m=Ab/\pany f k P=Ab)):=by
  by_cases h3:∃p,p<P.length/\pbad f k P p=Ab
  ·obtain⟨p,hp,hpb,hmin⟩:=zHu h3;grind [pany,Cj]
  refine⟨P.length,AY _,λj hj=>?_, .inl ⟨rfl,?_⟩⟩;all_goals grind [pbad,pany,Cj]
 have hz:repL k [bD Ac]=fA k λu=>bD (seeF P 0 u):=by
  grind [repL1,fA_ext,seeF]
 refine zG zBs mixed Tryz.func11 rfl<|vAu<|zB<|vA<|vew [] [(3,Ac),(8,Ac),(13,Ac)] (True/\0<5/\decide ((k:Int)<0)=Ac/\True/\0<5/\decide ((k:Int)>(32:Int))=Ac/\True/\0<4/\decide (f<0)=Ac/\True/\0<4/\True/\0<5)<|vF (f>(k:Int))<|vK<|zB<|vA<|vew [] [(6,Ac)] (True/\0<3/\True/\0<4/\True/\((Aa desc:Int)!=f)=Ac/\True/\0<2/\True/\0<5/\True/\0<4/\i6 ((k:Int)-f)/\True)<|zFb (t:=(Aa P:Int)!=(k:Int)-f) (by kernel_rfl) (by simpa using by omega)<|vK<|vA<|vr 3 (True/\0<5/\(0:Int)<=(k:Int)/\(k:Int)<=(k:Int)/\(↑(1:Nat):Int)*(k:Int)<=(281474976710656:Int)/\(k:Int)<=(281474976710656:Int)/\0<1/\1=1)<|vb 1 (Ak (repL (AP (k:Int)) [bD Ac]) 4 1 Ab Ac<|kdOf Ac) (Ak (fA k λ(u:Nat)=>bD (seeF P 0 u)) 4 1 Ab Ac<|kdOf Ac)<|vrT 1<|vs 3 (Af 1 0 (AP (k:Int)) (AP (k:Int)*1) Ab) (Af 1 0 k k Ab)<|veT<|zB<|vA<|ve (True/\0<2)<|zF<|zS (λ(i:Nat)=>fr 78 [(1,Ao 0 0),(3,Af 1 0 k k Ab),(47,Ae (Ad (λ(z:Int)=>iD z) P)<|Aa P),(48,iD (Aa P:Int)),(49,iD (i:Int))]) (λ(i:Nat)=>[inpB k f desc P ats,booB (fA k λu=>bD (seeF P i u))]) (λ(i:Nat)=>m-i) (λ(i:Nat)=>i<=m) 0 ?_ ?_ ?_
 ·omega
 ·refine vk 2
 intro i h3;have hPd:∀j,j<P.length->((P.map λz=>iD z).drop j).headD .unk=iD (P.getD j 0):=λj hj=>zA2 (λz:Int=>iD z) P 0 j hj;have hPn:0<P.length->(P.map λz=>iD z)≠[]:=λh=>zAb (h:=h);rcases AM i m with h4|h4
 ·have h5:i<P.length:=by omega
  have hhd:=hPd i h5;have hne:=hPn (by omega);have hgd:=hgood i h4;unfold pbad at hgd;have htk:P.take (i+1)=P.take i++[P.getD i 0]:=by rw[Bb h5,AC,AD h5];rfl
  generalize P.getD i 0=z at*;simp only[Bool.or_eq_false_iff,decide_eq_false_iff_not]at hgd;obtain⟨⟨g1,g2⟩,g3⟩:=hgd;obtain⟨v,rfl⟩:∃v:Nat,z=(v:Int):=⟨z.toNat,by omega⟩;have hvk:v<k:=by omega
  have hse:((fA k λu=>bD (seeF P i u)).drop v).headD .unk=bD false:=by
   grind [fA_hd,seeF]
  have hset:(fA k λu=>bD (seeF P i u)).set v (bD Ab)=fA k λu=>bD (seeF P (i+1) u):=by
   rw[fA_set];refine fA_ext λu _=>?_;grind [seeF]
  have hfl:(fA k λu=>bD (seeF P i u)).length=k:=fA_len;refine vAu<|zB<|vT ((i:Int)<↑(Aa P))<|vKB<|vA<|vr 1 (ix ↑i ↑(Aa P) (Ad (λ(z:Int)=>iD z) P≠[]))<|vp 51 i (Ad (λ(z:Int)=>iD z) P)<|vr 1 (0<Aa (Ag i<|Ad (λ(z:Int)=>iD z) P))<|vsh 52 hhd<|veT<|zB<|vA<|vw 14 [] [(4,Ac),(10,Ac)] (True/\0<4/\decide ((v:Int)<f)=Ac/\True/\0<5/\decide ((v:Int)>=(k:Int))=Ac/\(0:Int)<=(v:Int)/\(v:Int)<↑k)<|vo 66 1 v<|vr 1 (0<Aa (Ag v<|Az<|booB (fA k λ(u:Nat)=>bD (seeF P i u))))<|vsh 67 hse<|veT<|vf<|vK<|zA rfl<|vr 3 ((0:Int)<=(v:Int)/\(v:Int)<↑k)<|vo 71 1 v<|vr 1 (A5 (booB (fA k λ(u:Nat)=>bD (seeF P i u)))=Ac/\Ab=Ab/\1=1/\v+1<=Aa (Az<|booB (fA k λ(u:Nat)=>bD (seeF P i u)))/\¬1∈[])<|vnil<|zE<|vN<|zA rfl<|vr 2 (i6 (↑i+1))<|vnil<|zC<|⟨i+1,by omega,by omega,?_⟩;rw[<-hset];refine vk 2
 obtain rfl:i=m:=by omega
 rcases hend with⟨rfl,hpa⟩|⟨h5,hpb,hpa⟩
 ·rw[hpa,if_neg (by decide)];refine vAu<|zB<|vF ((Aa P:Int)<↑(Aa P))<|vZ2<|vA<|vr 4 (True/\0<5/\True/\0<1)<|vc hk<|veT<|zJ<|vret (True)<|.inr rfl
 rw [hpa,if_pos rfl];have hhd:=hPd i h5;have hne:=hPn (by omega);unfold pbad at hpb;generalize P.getD i 0=z at*;simp only[BW,decide_eq_true_eq]at hpb;by_cases g1:z<f
 ·refine vAu<|zB<|vT ((i:Int)<(Aa P:Int))<|vKB<|vA<|vr 1 (ix (i:Int) (Aa P:Int) (Ad (λ(z:Int)=>iD z) P≠[]))<|vp 51 (i) (Ad (λ(z:Int)=>iD z) P)<|vr 1 (0<Aa (Ag i<|Ad (λ(z:Int)=>iD z) P))<|vsh 52 hhd<|veT<|zB<|vA<|vew [] [(4,Ab)] (True/\0<4/\decide (z<f)=Ab)<|vt<|vAe<|zJ<|zH<|zN<|zH<|zH<|zN<|zH<|vret (True)<|.inr rfl
 by_cases g2:(k:Int)<=z
 ·refine vAu<|zB<|vT ((i:Int)<(Aa P:Int))<|vKB<|vA<|vr 1 (ix (i:Int) (Aa P:Int) (Ad (λ(z:Int)=>iD z) P≠[]))<|vp 51 (i) (Ad (λ(z:Int)=>iD z) P)<|vr 1 (0<Aa (Ag i<|Ad (λ(z:Int)=>iD z) P))<|vsh 52 hhd<|veT<|zB<|vA<|vew [] [(4,Ac),(10,Ab)] (True/\0<4/\decide (z<f)=Ac/\True/\0<5/\decide (z>=(k:Int))=Ab)<|vt<|vAe<|zJ<|zH<|zN<|zH<|zH<|zN<|zH<|vret (True)<|.inr rfl
 obtain⟨v,rfl⟩:∃v:Nat,z=(v:Int):=⟨z.toNat,by omega⟩;have hvk:v<k:=by omega
 have hse:((fA k λu=>bD (seeF P i u)).drop v).headD .unk=bD true:=by
  grind [fA_hd,seeF]
 refine vAu<|zB<|vT ((i:Int)<↑(Aa P))<|vKB<|vA<|vr 1 (ix ↑i ↑(Aa P) (Ad (λ(z:Int)=>iD z) P≠[]))<|vp 51 i (Ad (λ(z:Int)=>iD z) P)<|vr 1 (0<Aa (Ag i<|Ad (λ(z:Int)=>iD z) P))<|vsh 52 hhd<|veT<|zB<|vA<|vw 14 [] [(4,Ac),(10,Ac)] (True/\0<4/\decide ((v:Int)<f)=Ac/\True/\0<5/\decide ((v:Int)>=(k:Int))=Ac/\(0:Int)<=(v:Int)/\(v:Int)<↑k)<|vo 66 1 v<|vr 1 (0<Aa (Ag v<|Az<|booB (fA k λ(u:Nat)=>bD (seeF P i u)))) (vsh 67 hse<|veT<|vt<|zB ?_) (by exact fA_pos hvk);refine zA rfl<|veT<|zJ<|zH<|zN<|zH<|zH<|zN<|zH<|vret (True)<|.inr rfl
def rofA(ar:Nat)(rows:List Rw):Int:=if 32<ar then 3 else rofE (ar:Nat) rows
theorem zVz(ar:Nat)(rows:List Rw)(n:Nat)(hn:rows.length=n)(hb:n<=2000000)(hl:∀r∈rows,r.length<=2000000):Pure Ap 54 [iD (ar:Nat), .row (rows.map rowV) n] [] (if rofA ar rows=0 then .tup [relD (ar:Nat) (relR rows),iD 0]else .tup [relZ,iD (rofA ar rows)]):=by
 by_cases h:32<ar
 ·unfold rofA;rw[if_pos h,if_neg (by decide)];have hnew:=newBad_c (ar:Nat) (.inr (by omega));refine zG zBs mixed Tryz.func54 rfl<|vAu<|vA<|vrT 1<|vc (hnew)<|ve (0<2/\1<2/\Ac=Ac/\Ab=Ab/\2=2/\2<=2)<|zB<|vAe<|vt<|vA<|ve ((True/\Ab=Ab)/\Ac=Ac/\Ab=Ab/\2=2/\2<=2)<|zJ<|zH<|vret (2<=2)<|.inr rfl
 unfold rofA;rw[if_neg h];exact relOf2_c (ar:Nat) rows n (by omega) (by omega) hn hb
structure Cs where
 n:Int
 f:Int
 desc:List Bool
 P:List Int
 V:List (List Int)
 R:List (List Rw)
abbrev zBe(l:List Int):D:= .row (l.map λz=>iD z) l.length
abbrev zBx(l:List Rw):D:= .row (l.map rowV) l.length
abbrev csC(c:Cs):List D:=[iD c.n,iD c.f, .row (c.desc.map bD) c.desc.length,zBe c.P, .row (c.V.map zBe) c.V.length, .row (c.R.map zBx) c.R.length]
abbrev csB(c:Cs):Bk:=⟨csC c,27,0,Ac,Ac, .plain⟩
structure Cs.Small(c:Cs):Prop where
 d:c.desc.length<=2000000
 P:c.P.length<=2000000
 V:c.V.length<=2000000
 R:c.R.length<=2000000
 v:∀l∈c.V,l.length<=2000000
 r:∀l∈c.R,l.length<=2000000/\∀x∈l,x.length<=2000000
def Cs.at(c:Cs)(i:Nat):At:=⟨c.V.getD i [],((c.V.getD i []).length:Nat),relR (c.R.getD i [])⟩
def Cs.ats(c:Cs)(m:Nat):List At:=(Av m).map c.at
def Cs.err(c:Cs)(i:Nat):Int:=rofA (c.V.getD i []).length (c.R.getD i [])
abbrev inpK(c:Cs)(x:D):Bk:=⟨[iD c.n,iD c.f, .row (c.desc.map bD) c.desc.length,zBe c.P,x],32,0,Ac,Ac, .plain⟩
abbrev atsB(l:List At):Bk:=⟨l.flatMap atC,45,3,Ab,Ac, .plain⟩
abbrev inpZ:Bk:=⟨[iD 0,iD 0,nl0,nl0,nl0],32,0,Ac,Ac, .plain⟩
theorem Cs.ats_succ(c:Cs)(i:Nat):c.ats (i+1)=c.ats i++[c.at i]:=by
 grind [Cs.ats,Ck]
theorem Cs.ats_len(c:Cs)(i:Nat):(c.ats i).length=i:=by simp[Cs.ats]
abbrev q4_(x0:Cs):=Ae (Ad zBe (Cs.V x0)) (Aa (Cs.V x0))
abbrev q5_(x0:Cs):=Ae (Ad zBx (Cs.R x0)) (Aa (Cs.R x0))
theorem make_c(c:Cs)(h:c.Small):∃(m:Nat)(ok:Bool),m<=c.V.length/\m<=c.R.length/\(ok=Ab↔c.V.length=c.R.length/\∀i,i<c.V.length->c.err i=0)/\(ok=Ab->m=c.V.length)/\
  Pure Ap 29 [.agg (csC c)] [] (.tup [inpD c.n c.f c.desc c.P (c.ats m),bD ok]):=by
 obtain⟨m,hm1,hm2,hgood,hend⟩:∃m,m<=c.V.length/\m<=c.R.length/\(∀j,j<m->c.err j=0)/\((m=min c.V.length c.R.length)\/(m<c.V.length/\m<c.R.length/\c.err m≠0)):=by
  by_cases hb:∃p,p<min c.V.length c.R.length/\decide (c.err p≠0)=Ab
  ·obtain⟨p,hp,hpb,hmin⟩:=zHu (p:=λi=>decide (c.err i≠0)) hb;grind
  refine⟨min c.V.length c.R.length,by omega,by omega,λj hj=>?_, .inl rfl⟩;grind
 have hV:∀i,i<c.V.length->((c.V.map zBe).drop i).headD .unk=zBe (c.V.getD i []):=λi hi=>zA2 zBe c.V [] i hi;have hR:∀i,i<c.R.length->((c.R.map zBx).drop i).headD .unk=zBx (c.R.getD i []):=λi hi=>zA2 zBx c.R [] i hi;have hVn:0<c.V.length->c.V.map zBe≠[]:=λh=>zAb (h:=h);have hRn:0<c.R.length->c.R.map zBx≠[]:=λh=>zAb (h:=h);have hlV:=h.V;have hlR:=h.R;have hac:∀i,((c.ats i).flatMap atC).length=i*3:=λi=>by rw[zB5 (c:=3) (λ_=>rfl),Cs.ats_len]
 have htk:∀i,((c.ats i).flatMap atC).take (i*3)=(c.ats i).flatMap atC:=λi=>AJ (by rw[hac];exact AY _);refine⟨m,decide (m=c.V.length/\c.V.length=c.R.length),hm1,hm2,?_,λhh=>(of_decide_eq_true hh).1,?_⟩
 ·grind
 rw[show inpD c.n c.f c.desc c.P (c.ats m)= .agg [iD c.n,iD c.f, .row (c.desc.map bD) c.desc.length,zBe c.P, .row ((c.ats m).flatMap atC) m]from congrArg (λk=>AF [iD c.n,iD c.f, .row (c.desc.map bD) c.desc.length,zBe c.P, .row ((c.ats m).flatMap atC) k]) (Cs.ats_len c m)];refine zG zBs mixed Tryz.func29 rfl<|vAu<|vA<|vr 11 (True/\0<6/\True/\0<5/\True/\0<4/\True/\0<3/\((1=1/\1<=5/\1=1/\2<=5/\1=1/\3<=5/\1=1/\4<=5/\True)/\Ab=Ab)/\Ac=Ac/\Ab=Ab/\5=5/\5<=5)<|vnil<|zC<|vnn (fr 69 [(1,Ao 0 0),(2,Ao 1 0),(3,bD Ac),(4,Ao 2 0),(8,Ao 0 0),(9,iD<|Cs.n c),(10,Ao 0 1),(11,iD<|Cs.f c),(12,Ao 0 2),(13,Ae (Ad bD<|Cs.desc c)<|Aa<|Cs.desc c),(14,Ao 0 3),(15,Ae (Ad (λ(z:Int)=>iD z)<|Cs.P c)<|Aa<|Cs.P c),(16,AF [iD<|Cs.n c,iD<|Cs.f c,Ae (Ad bD<|Cs.desc c)<|Aa<|Cs.desc c,Ae (Ad (λ(z:Int)=>iD z)<|Cs.P c)<|Aa<|Cs.P c,nl])]) [Ak [iD<|Cs.n c,iD<|Cs.f c,Ae (Ad bD<|Cs.desc c)<|Aa<|Cs.desc c,Ae (Ad (λ(z:Int)=>iD z)<|Cs.P c)<|Aa<|Cs.P c,Ae (Ad zBe<|Cs.V c)<|Aa<|Cs.V c,Ae (Ad zBx<|Cs.R c)<|Aa<|Cs.R c] 27 0 Ac Ac Am,Ak [iD 0,iD 0,nl,nl,nl] 32 0 Ac Ac Am,Ak [iD<|Cs.n c,iD<|Cs.f c,Ae (Ad bD<|Cs.desc c)<|Aa<|Cs.desc c,Ae (Ad (λ(z:Int)=>iD z)<|Cs.P c)<|Aa<|Cs.P c,nl] 32 0 Ac Ac Am]<|zB9 (BB (j:=2) (i:=4) (ej:=inpK c nl0) (atsB []) rfl rfl rfl rfl) ?_;refine zB<|vAu<|zF<|zS (λ(i:Nat)=>fr 69 [(1,Ao 0 0),(2,Ao 1 0),(4,Ao 2 0),(5,iD i)]) (λ(i:Nat)=>[csB c,inpZ,inpK c<|.osl 3 0 i (i*3) Ab,atsB<|c.ats i]) (λ(i:Nat)=>m-i) (λ(i:Nat)=>i<=m) 0 ?_ ?_ ?_
 ·omega
 ·refine vk 4
 intro i h1;rcases AM i m with h2|h2
 ·have hv:=hV i (by omega);have hr:=hR i (by omega);have hvn:=hVn (by omega);have hrn:=hRn (by omega);have hac1:=hac i;have hrm:c.R.getD i []∈c.R:=by rw[AC,AD (by omega)];exact A0 _
  obtain⟨r1,r2⟩:=h.r _ hrm;have hof:=zVz (c.V.getD i []).length (c.R.getD i []) _ rfl r1 r2;have hok:rofA (c.V.getD i []).length (c.R.getD i [])=0:=hgood i h2;rw[if_pos hok]at hof;have hsu:atsB (c.ats (i+1))=⟨(c.ats i).flatMap atC++[zBe (c.V.getD i []),iD ((c.V.getD i []).length:Nat), .row ((relR (c.R.getD i [])).map rowV) (relR (c.R.getD i [])).length],45,3,Ab,Ac, .plain⟩:=by
   rw[Cs.ats_succ];show Ak ((c.ats i++[c.at i]).flatMap atC) _ _ _ _ _=_;rw[<-fl_app];rfl
  refine zB<|vAs<|vew [] [(5,Ab)] (True/\0<2/\decide ((i:Int)<(Aa (Cs.V c):Int))=Ab/\True/\0<1)<|vT ((i:Int)<(Aa (Cs.R c):Int))<|vKB<|zB<|vd [0,2,6,8,1,3,4,5,7,9,10,11,12,13,14,15,16,17]<|vr 6 (True/\True/\0<2/\ix ↑i (Aa (Cs.V c):Int) (Ad zBe (Cs.V c)≠[]))<|vp 35 i (Ad zBe<|Cs.V c)<|vr 1 (0<Aa (Ag i<|Ad zBe<|Cs.V c))<|vsh 36 hv<|vr 3 (0<1/\ix ↑i (Aa (Cs.R c):Int) (Ad zBx (Cs.R c)≠[]))<|vp 41 i (Ad zBx<|Cs.R c)<|vr 1 (0<Aa (Ag i<|Ad zBx<|Cs.R c))<|vsh 42 hr<|vc hof<|ve (0<2/\1<2/\Ac=Ac/\Ab=Ab/\2=2/\2<=2)<|zB<|vAe<|vf<|vK<|vd [0,2,4,1,3,5,6,7,8,9,10,11,12]<|vr 6 (True/\True/\0<1/\0<2/\ix ↑i (Aa (Cs.V c):Int) (Ad zBe (Cs.V c)≠[]))<|vp 54 i (Ad zBe<|Cs.V c)<|vr 1 (0<Aa (Ag i<|Ad zBe<|Cs.V c))<|vsh 55 hv<|vr 6 (2<=2/\((1=1/\1<=3/\2=2/\3<=3/\True)/\Ab=Ab)/\((3=3/\3<=3/\True)/\0<3/\3=3/\3<=16777216/\1<=9223372036854775807)/\(AZ (atsB<|Cs.ats c i)=Ab/\Aa (Az<|atsB<|Cs.ats c i)=i*3/\i*3=i*3/\AK (atsB<|Cs.ats c i)=45/\AL (atsB<|Cs.ats c i)=3/\3=3/\0<3/\0<56/\45=45/\(i+1)*56<=140737488355328/\3=3/\AS (Ay<|atsB<|Cs.ats c i)=Ac/\(Ac=Ac\/AT (Ay<|atsB<|Cs.ats c i)=Ab))/\True/\Ac=Ac/\Ab=Ab/\1=1/\5<=5)<|vnil<|zE<|vN<|zA rfl<|vr 3 (i6 (↑i+1))<|vnil<|zC<|⟨i+1,by omega,by omega,?_⟩;rw[hsu];refine vk 4
 obtain rfl:i=m:=by omega
 have htk1:=htk i;rcases hend with h3|⟨h3,h4,h5⟩
 ·have hb:decide (i=c.V.length/\c.V.length=c.R.length)=((c.V.length:Int)==(c.R.length:Int)):=by
   grind
  rw[hb];focus
   refine zB<|vAs<|vr 6 (True/\0<2)<|vspD 22 ((i:Int)<(Aa (Cs.V c):Int)) (λhc=>?_)<|λhc=>?_;refine ve (True/\0<1)<|vF ((i:Int)<(Aa (Cs.R c):Int))<|vZ2<|zB<|zNg [1,4,0,2,3,5,6,7] [(8,[(2,100000),(3,100000),(5,100000),(6,100000),(7,100000)],[9])] (by kernel_rfl) rfl ?_;refine vr 8 (True/\True/\5<=5/\0<2/\0<1/\True)<|vnil<|zZs rfl rfl (by kernel_rfl)<|vr 1 (Ac=Ac/\Ab=Ab/\5=5/\5<=5)<|vnil ?_;refine zZr (C:=0<2/\Ai ((q4_ c))=Ai (AR [(q4_ c),(q5_ c)] Uk)/\True/\Ai (iD (Aa (Cs.V c):Int))=Ai (iD (Aa (Cs.V c):Int))/\0<1/\Ai ((q5_ c))=Ai (AR [(q5_ c)] Uk)/\True/\Ai (iD (Aa (Cs.R c):Int))=Ai (iD (Aa (Cs.R c):Int))/\True/\Ai (bD ((Aa (Cs.V c):Int)==(Aa (Cs.R c):Int)))=Ai (bD ((Aa (Cs.V c):Int)==(Aa (Cs.R c):Int)))) (by kernel_rfl) ⟨(by omega),(by kernel_rfl),trivial,(by kernel_rfl),(by omega),(by kernel_rfl),trivial,(by kernel_rfl),trivial,(by kernel_rfl)⟩ (by kernel_rfl) ?_;refine vrT 1<|vnil<|zVu<|vN<|zJ<|zAy (5<=5) (D.tup [AF [iD<|Cs.n c,iD<|Cs.f c,Ae (Ad bD<|Cs.desc c)<|Aa<|Cs.desc c,Ae (Ad (λ(z:Int)=>iD z)<|Cs.P c)<|Aa<|Cs.P c,Ae (An (i*3)<|Ag 0<|Az<|atsB<|Cs.ats c i) i],bD ((Aa (Cs.V c):Int)==(Aa (Cs.R c):Int))]) (D.tup [AF [Aj<|Al Bo<|Cs.n c,Aj<|Al Bo<|Cs.f c,Ae (Ad bD<|Cs.desc c)<|Aa<|Cs.desc c,Ae (Ad (λ(z:Int)=>iD z)<|Cs.P c)<|Aa<|Cs.P c,Ae (AH atC<|Cs.ats c i) i],Aj<|Bn ((Aa (Cs.V c):Int)==(Aa (Cs.R c):Int))]) (.inr rfl) (by simp(disch:=omega) only[AV,htk1]) rfl (hc:=by omega);refine veT<|vf<|vZ2<|zB<|zNg [1,4,0,2,3,5,6,7] [(8,[(2,100000),(3,100000),(5,100000),(6,100000),(7,100000)],[9])] (by kernel_rfl) rfl ?_;refine vr 8 (True/\True/\5<=5/\0<2/\0<1/\True)<|vnil<|zZs rfl rfl (by kernel_rfl)<|vr 1 (Ac=Ac/\Ab=Ab/\5=5/\5<=5)<|vnil ?_;refine zZr (C:=0<2/\Ai ((q4_ c))=Ai (AR [(q4_ c),(q5_ c)] Uk)/\True/\Ai (iD (Aa (Cs.V c):Int))=Ai (iD (Aa (Cs.V c):Int))/\0<1/\Ai ((q5_ c))=Ai (AR [(q5_ c)] Uk)/\True/\Ai (iD (Aa (Cs.R c):Int))=Ai (iD (Aa (Cs.R c):Int))/\True/\Ai (bD ((Aa (Cs.V c):Int)==(Aa (Cs.R c):Int)))=Ai (bD ((Aa (Cs.V c):Int)==(Aa (Cs.R c):Int)))) (by kernel_rfl) ⟨(by omega),(by kernel_rfl),trivial,(by kernel_rfl),(by omega),(by kernel_rfl),trivial,(by kernel_rfl),trivial,(by kernel_rfl)⟩ (by kernel_rfl) ?_;refine vrT 1<|vnil<|zVu<|vN<|zJ<|zAy (5<=5) (D.tup [AF [iD<|Cs.n c,iD<|Cs.f c,Ae (Ad bD<|Cs.desc c)<|Aa<|Cs.desc c,Ae (Ad (λ(z:Int)=>iD z)<|Cs.P c)<|Aa<|Cs.P c,Ae (An (i*3)<|Ag 0<|Az<|atsB<|Cs.ats c i) i],bD ((Aa (Cs.V c):Int)==(Aa (Cs.R c):Int))]) (D.tup [AF [Aj<|Al Bo<|Cs.n c,Aj<|Al Bo<|Cs.f c,Ae (Ad bD<|Cs.desc c)<|Aa<|Cs.desc c,Ae (Ad (λ(z:Int)=>iD z)<|Cs.P c)<|Aa<|Cs.P c,Ae (AH atC<|Cs.ats c i) i],Aj<|Bn ((Aa (Cs.V c):Int)==(Aa (Cs.R c):Int))]) (.inr rfl) (by simp(disch:=omega) only[AV,htk1]) rfl (hc:=by omega)
 have hb:decide (i=c.V.length/\c.V.length=c.R.length)=false:=decide_eq_false (by omega);rw[hb];have hv:=hV i (by omega);have hr:=hR i (by omega);have hvn:=hVn (by omega);have hrn:=hRn (by omega);have hrm:c.R.getD i []∈c.R:=by rw[AC,AD (by omega)];exact A0 _
 obtain⟨r1,r2⟩:=h.r _ hrm;have hof:=zVz (c.V.getD i []).length (c.R.getD i []) _ rfl r1 r2;have hbad:¬rofA (c.V.getD i []).length (c.R.getD i [])=0:=h5;rw[if_neg hbad]at hof;generalize rofA (c.V.getD i []).length (c.R.getD i [])=e at*;refine zB<|vAs<|vew [] [(5,Ab)] (True/\0<2/\decide ((i:Int)<(Aa (Cs.V c):Int))=Ab/\True/\0<1)<|vT ((i:Int)<(Aa (Cs.R c):Int))<|vKB<|zB<|vd [0,2,6,8,1,3,4,5,7,9,10,11,12,13,14,15,16,17]<|vr 6 (True/\True/\0<2/\ix ↑i (Aa (Cs.V c):Int) (Ad zBe (Cs.V c)≠[]))<|vp 35 i (Ad zBe<|Cs.V c)<|vr 1 (0<Aa (Ag i<|Ad zBe<|Cs.V c))<|vsh 36 hv<|vr 3 (0<1/\ix ↑i (Aa (Cs.R c):Int) (Ad zBx (Cs.R c)≠[]))<|vp 41 i (Ad zBx<|Cs.R c)<|vr 1 (0<Aa (Ag i<|Ad zBx<|Cs.R c))<|vsh 42 hr<|vc hof<|ve (0<2/\1<2/\Ac=Ac/\Ab=Ab/\2=2/\2<=2)<|zB<|vAe<|zE9 (t:=e !=(0:Int)) (by kernel_rfl) (by simpa using by omega) ?_;refine vA<|ve (5<=5/\Ac=Ac/\Ab=Ab/\5=5/\5<=5)<|zJ<|zH<|zN<|zH<|zH<|zN<|zH<|zAy (5<=5) (D.tup [AF [iD<|Cs.n c,iD<|Cs.f c,Ae (Ad bD<|Cs.desc c)<|Aa<|Cs.desc c,Ae (Ad (λ(z:Int)=>iD z)<|Cs.P c)<|Aa<|Cs.P c,Ae (An (i*3)<|Ag 0<|Az<|atsB<|Cs.ats c i) i],bD Ac]) (D.tup [AF [Aj<|Al Bo<|Cs.n c,Aj<|Al Bo<|Cs.f c,Ae (Ad bD<|Cs.desc c)<|Aa<|Cs.desc c,Ae (Ad (λ(z:Int)=>iD z)<|Cs.P c)<|Aa<|Cs.P c,Ae (AH atC<|Cs.ats c i) i],Aj<|Bn Ac]) (.inr rfl) (by simp(disch:=omega) only[AV,htk1]) rfl (hc:=by omega)
structure Cs.Few(c:Cs):Prop where
 R:c.R.length<=5
 V:c.V.length<=5
 d:c.desc.length<=10
 P:c.P.length<=10
 n:c.n<=6\/32<c.n
 r:∀l∈c.R,l.length<=10
 v:∀l∈c.V,l.length<=8
 C:(c.R.map λl=>max 1 l.length).foldl (· *·) 1<=5000
def mny(L:List (List Rw))(i:Nat):Nat:=((L.take i).map λl=>max 1 l.length).foldl (· *·) 1
theorem zWh(L:List (List Rw))(i:Nat)(h:i<L.length):mny L (i+1)=mny L i*max 1 (L.getD i []).length:=by
 grind [mny,Bb,AD]
theorem few_c(c:Cs)(h:c.Small):∃b:Bool,(b=Ab->c.Few)/\Pure Ap 30 [.agg (csC c)] [] (bD b):=by
 have hV:∀i,i<c.V.length->((c.V.map zBe).drop i).headD .unk=zBe (c.V.getD i []):=λi hi=>zA2 zBe c.V [] i hi;have hR:∀i,i<c.R.length->((c.R.map zBx).drop i).headD .unk=zBx (c.R.getD i []):=λi hi=>zA2 zBx c.R [] i hi;have hVn:0<c.V.length->c.V.map zBe≠[]:=λh=>zAb (h:=h);have hRn:0<c.R.length->c.R.map zBx≠[]:=λh=>zAb (h:=h);have hlV:=h.V;have hlR:=h.R;have hld:=h.d;have hlP:=h.P;obtain⟨m1,m2,hm1,hg1,hm2,hg2,hend⟩:∃m1 m2,m1<=min c.R.length 6/\(∀j,j<m1->(c.R.getD j []).length<=10)/\m2<=min c.V.length 6/\(∀j,j<m2->(c.V.getD j []).length<=8)/\((m1<min c.R.length 6/\10<(c.R.getD m1 []).length)\/(m1=min c.R.length 6/\(m2<min c.V.length 6/\8<(c.V.getD m2 []).length\/m2=min c.V.length 6))):=by
  by_cases h1:∃p,p<min c.R.length 6/\decide (10<(c.R.getD p []).length)=Ab
  ·obtain⟨p,hp,hpb,hmin⟩:=zHu (p:=λi=>decide (10<(c.R.getD i []).length)) h1;refine⟨p,0,by omega,λj hj=>?_,BF _,λj hj=>by omega, .inl ⟨hp,by simpa using hpb⟩⟩;grind
  have hall:∀j,j<min c.R.length 6->(c.R.getD j []).length<=10:=λj hj=>Bv λhh=>h1 ⟨j,hj,decide_eq_true (by omega)⟩;by_cases h2:∃p,p<min c.V.length 6/\decide (8<(c.V.getD p []).length)=Ab
  ·obtain⟨p,hp,hpb,hmin⟩:=zHu (p:=λi=>decide (8<(c.V.getD i []).length)) h2;refine⟨_,p,AY _,hall,by omega,λj hj=>?_, .inr ⟨rfl, .inl ⟨hp,by simpa using hpb⟩⟩⟩;grind
  exact⟨_,_,AY _,hall,AY _,λj hj=>Bv λhh=>h2 ⟨j,hj,decide_eq_true (by omega)⟩, .inr ⟨rfl, .inr rfl⟩⟩
 have hmb:∀i,i<=m1->mny c.R i<=10^i:=λi=>by
  induction i with
  |zero=>intro _;exact AY _
  |succ i ih=>
   intro hi;rw[zWh c.R i (by omega),Nat.pow_succ];exact Nat.mul_le_mul (ih (by omega)) (by have:=hg1 i (by omega);omega)
 have hm6:∀i,i<=m1->mny c.R i<=1000000:=λi hi=>A1 (hmb i hi) (show 10^i<=10^6 from Nat.pow_le_pow_right (by omega) (by omega));have hone:mny c.R 0=1:=rfl;refine⟨decide (m1=min c.R.length 6/\mny c.R m1<=5000/\m2=min c.V.length 6/\c.R.length<=5/\c.V.length<=5/\c.desc.length<=10/\c.P.length<=10/\(c.n<=6\/32<c.n)),λhb=>?_,?_⟩
 ·obtain⟨b1,b2,b3,b4,b5,b6,b7,b8⟩:=of_decide_eq_true hb;refine⟨b4,b5,b6,b7,b8,λl hl=>?_,λl hl=>?_,?_⟩;all_goals grind [Cl,AD,mny,BO]
 refine zG zBs mixed Tryz.func30 rfl<|vAu<|vAe<|zB<|vAe<|zF<|zS (λ(i:Nat)=>fr 85 [(1,Ao 0 0),(3,iD (↑(mny (Cs.R c) i):Int)),(4,iD (i:Int))]) (λ(i:Nat)=>[csB c]) (λ(i:Nat)=>m1-i) (λ(i:Nat)=>i<=m1) 0 ?_ ?_ ?_
 ·omega
 ·rw[hone];refine vk 1
 intro i h1;rcases AM i m1 with h2|h2
 ·have hr:=hR i (by omega);have hrn:=hRn (by omega);have hg:=hg1 i h2;have hsu:=zWh c.R i (by omega);have hmi:=hm6 i h1;have hmi2:=hm6 (i+1) (by omega);generalize c.R.getD i []=l at*;have hmx:(if((l.length:Nat):Int)>1 then((l.length:Nat):Int)else 1)=((max 1 l.length:Nat):Int):=by
   split<;>omega
  rw[hsu]at hmi2;refine zB<|vAs<|vew [] [(5,Ab)] (True/\0<1/\decide ((i:Int)<(Aa (Cs.R c):Int))=Ab)<|vT ((i:Int)<(6:Int))<|vKB<|zB<|vA<|vr 4 (True/\0<1/\ix ↑i (Aa (Cs.R c):Int) (Ad zBx (Cs.R c)≠[]))<|vp 20 i (Ad zBx<|Cs.R c)<|vr 1 (0<Aa (Ag i<|Ad zBx<|Cs.R c))<|vsh 21 hr<|veT<|vF ((Aa l:Int)>(10:Int))<|vK<|zA rfl<|vr 5 (True/\0<1/\ix ↑i (Aa (Cs.R c):Int) (Ad zBx (Cs.R c)≠[]))<|vp 28 i (Ad zBx<|Cs.R c)<|vr 1 (0<Aa (Ag i<|Ad zBx<|Cs.R c))<|vsh 29 hr<|vrT 2<|vs 31 (iD (if(Aa l:Int)>(1:Int)then(Aa l:Int)else(1:Int))) (iD (↑(max 1<|Aa l):Int))<|vr 2 (i6 ((↑(mny (Cs.R c) i):Int)*(↑(max 1<|Aa l):Int)))<|vnil<|zE<|vN<|zA rfl<|vr 3 (i6 (↑i+1))<|vnil<|zC<|⟨i+1,by omega,by omega,?_⟩;rw[hsu,Int.natCast_mul];refine vk 1
 obtain rfl:i=m1:=by omega
 rcases hend with⟨h3,h4⟩|⟨h3,h4⟩
 ·rw[decide_eq_false (by omega)];have hr:=hR i (by omega);have hrn:=hRn (by omega);generalize c.R.getD i []=l at*;refine zB<|vAs<|vew [] [(5,Ab)] (True/\0<1/\decide ((i:Int)<(Aa (Cs.R c):Int))=Ab)<|vT ((i:Int)<(6:Int))<|vKB<|zB<|vA<|vr 4 (True/\0<1/\ix ↑i (Aa (Cs.R c):Int) (Ad zBx (Cs.R c)≠[]))<|vp 20 i (Ad zBx<|Cs.R c)<|vr 1 (0<Aa (Ag i<|Ad zBx<|Cs.R c))<|vsh 21 hr<|veT<|vT ((Aa l:Int)>(10:Int))<|vAe<|zJ<|zH<|zN<|zH<|zH<|zN<|zH<|vret (True)<|.inr rfl
 have hmi:=hm6 i (AY _);generalize hmn:mny c.R i=mn at*;by_cases hm5:mn<=5000
 ·by_cases hcR:i<c.R.length
  ·refine zB<|vAs<|vew [] [(5,Ab)] (True/\0<1/\decide ((i:Int)<(Aa (Cs.R c):Int))=Ab)<|vF ((i:Int)<(6:Int))<|vZ2<|zB<|vAe<|vF ((mn:Int)>(5000:Int))<|vK<|zB<|vAe<|zF<|zS (λ(j:Nat)=>fr 85 [(1,Ao 0 0),(5,iD (j:Int))]) (λ(j:Nat)=>[csB c]) (λ(j:Nat)=>m2-j) (λ(j:Nat)=>j<=m2) 0 ?_ ?_ ?_
   ·omega
   ·refine vk 1
   intro j h5;rcases AM j m2 with h6|h6
   ·have hv:=hV j (by omega);have hvn:=hVn (by omega);have hg:=hg2 j h6;generalize c.V.getD j []=l at*;refine zB<|vAs<|vew [] [(5,Ab)] (True/\0<2/\decide ((j:Int)<(Aa (Cs.V c):Int))=Ab)<|vT ((j:Int)<(6:Int))<|vKB<|vA<|vr 4 (True/\0<2/\ix ↑j (Aa (Cs.V c):Int) (Ad zBe (Cs.V c)≠[]))<|vp 49 j (Ad zBe<|Cs.V c)<|vr 1 (0<Aa (Ag j<|Ad zBe<|Cs.V c))<|vsh 50 hv<|veT<|vF ((Aa l:Int)>(8:Int))<|zK<|zE<|vN<|zA rfl<|vr 3 (i6 (↑j+1))<|vnil<|zC<|⟨j+1,by omega,by omega,?_⟩;refine vk 1
   obtain rfl:j=m2:=by omega
   rcases h4 with⟨h7,h8⟩|h7
   ·rw[decide_eq_false (by omega)];have hv:=hV j (by omega);have hvn:=hVn (by omega);generalize c.V.getD j []=l at*;refine zB<|vAs<|vew [] [(5,Ab)] (True/\0<2/\decide ((j:Int)<(Aa (Cs.V c):Int))=Ab)<|vT ((j:Int)<(6:Int))<|vKB<|vA<|vr 4 (True/\0<2/\ix ↑j (Aa (Cs.V c):Int) (Ad zBe (Cs.V c)≠[]))<|vp 49 j (Ad zBe<|Cs.V c)<|vr 1 (0<Aa (Ag j<|Ad zBe<|Cs.V c))<|vsh 50 hv<|veT<|vT ((Aa l:Int)>(8:Int))<|vAe<|zJ<|zN<|zH<|zH<|zN<|zH<|vret (True)<|.inr rfl
   rw[decide_eq_false (by omega)];by_cases hjV:j<c.V.length
   ·focus
     refine zB<|vAs<|vew [] [(5,Ab)] (True/\0<2/\decide ((j:Int)<(Aa (Cs.V c):Int))=Ab)<|vF ((j:Int)<(6:Int))<|vZ2<|vA<|vr 4 (True/\0<6)<|vspD 56 (Cs.n c<=(6:Int)) (λhc=>?_)<|λhc=>?_;refine vew [] [(14,Ac)] (True/\0<2/\decide ((Aa (Cs.V c):Int)<=(5:Int))=Ac)<|zJ<|vret (True)<|.inr rfl;refine vr 5 (True/\0<6)<|vspD 61 (Cs.n c>(32:Int)) (λhc=>?_)<|λhc=>?_;refine vew [] [(14,Ac)] (True/\0<2/\decide ((Aa (Cs.V c):Int)<=(5:Int))=Ac)<|zJ<|vret (True)<|.inr rfl;refine veT<|zJ<|vret (True)<|.inr rfl
   focus
    refine zB<|vAs<|vew [] [(5,Ac)] (True/\0<2/\decide ((j:Int)<(Aa (Cs.V c):Int))=Ac)<|vf<|vZ2<|vA<|vr 4 (True/\0<6)<|vspD 56 (Cs.n c<=(6:Int)) (λhc=>?_)<|λhc=>?_;refine vr 11 (True/\0<2)<|vspD 67 ((Aa (Cs.V c):Int)<=(5:Int)) (λhc=>?_)<|λhc=>?_;refine vew [] [(20,Ac)] (True/\0<1/\decide ((Aa (Cs.R c):Int)<=(5:Int))=Ac)<|zJ<|vret (True)<|.inr rfl;refine veT<|zJ<|vret (True)<|.inr rfl;refine vr 5 (True/\0<6)<|vspD 61 (Cs.n c>(32:Int)) (λhc=>?_)<|λhc=>?_;refine vr 6 (True/\0<2)<|vspD 67 ((Aa (Cs.V c):Int)<=(5:Int)) (λhc=>?_)<|λhc=>?_;refine vew [] [(20,Ac)] (True/\0<1/\decide ((Aa (Cs.R c):Int)<=(5:Int))=Ac)<|zJ<|vret (True)<|.inr rfl;refine veT<|zJ<|vret (True)<|.inr rfl;refine veT<|zJ<|vret (True)<|.inr rfl
  refine zB<|vAs<|vew [] [(5,Ac)] (True/\0<1/\decide ((i:Int)<(Aa (Cs.R c):Int))=Ac)<|vf<|vZ2<|zB<|vAe<|vF ((mn:Int)>(5000:Int))<|vK<|zB<|vAe<|zF<|zS (λ(j:Nat)=>fr 85 [(1,Ao 0 0),(5,iD (j:Int))]) (λ(j:Nat)=>[csB c]) (λ(j:Nat)=>m2-j) (λ(j:Nat)=>j<=m2) 0 ?_ ?_ ?_
  ·omega
  ·refine vk 1
  intro j h5;rcases AM j m2 with h6|h6
  ·have hv:=hV j (by omega);have hvn:=hVn (by omega);have hg:=hg2 j h6;generalize c.V.getD j []=l at*;refine zB<|vAs<|vew [] [(5,Ab)] (True/\0<2/\decide ((j:Int)<(Aa (Cs.V c):Int))=Ab)<|vT ((j:Int)<(6:Int))<|vKB<|vA<|vr 4 (True/\0<2/\ix ↑j (Aa (Cs.V c):Int) (Ad zBe (Cs.V c)≠[]))<|vp 49 j (Ad zBe<|Cs.V c)<|vr 1 (0<Aa (Ag j<|Ad zBe<|Cs.V c))<|vsh 50 hv<|veT<|vF ((Aa l:Int)>(8:Int))<|zK<|zE<|vN<|zA rfl<|vr 3 (i6 (↑j+1))<|vnil<|zC<|⟨j+1,by omega,by omega,?_⟩;refine vk 1
  obtain rfl:j=m2:=by omega
  rcases h4 with⟨h7,h8⟩|h7
  ·rw[decide_eq_false (by omega)];have hv:=hV j (by omega);have hvn:=hVn (by omega);generalize c.V.getD j []=l at*;refine zB<|vAs<|vew [] [(5,Ab)] (True/\0<2/\decide ((j:Int)<(Aa (Cs.V c):Int))=Ab)<|vT ((j:Int)<(6:Int))<|vKB<|vA<|vr 4 (True/\0<2/\ix ↑j (Aa (Cs.V c):Int) (Ad zBe (Cs.V c)≠[]))<|vp 49 j (Ad zBe<|Cs.V c)<|vr 1 (0<Aa (Ag j<|Ad zBe<|Cs.V c))<|vsh 50 hv<|veT<|vT ((Aa l:Int)>(8:Int))<|vAe<|zJ<|zN<|zH<|zH<|zN<|zH<|vret (True)<|.inr rfl
  by_cases hjV:j<c.V.length
  ·rw[decide_eq_false (by omega)];focus
    refine zB<|vAs<|vew [] [(5,Ab)] (True/\0<2/\decide ((j:Int)<(Aa (Cs.V c):Int))=Ab)<|vF ((j:Int)<(6:Int))<|vZ2<|vA<|vr 4 (True/\0<6)<|vspD 56 (Cs.n c<=(6:Int)) (λhc=>?_)<|λhc=>?_;refine vew [] [(14,Ac)] (True/\0<2/\decide ((Aa (Cs.V c):Int)<=(5:Int))=Ac)<|zJ<|vret (True)<|.inr rfl;refine vr 5 (True/\0<6)<|vspD 61 (Cs.n c>(32:Int)) (λhc=>?_)<|λhc=>?_;refine vew [] [(14,Ac)] (True/\0<2/\decide ((Aa (Cs.V c):Int)<=(5:Int))=Ac)<|zJ<|vret (True)<|.inr rfl;refine veT<|zJ<|vret (True)<|.inr rfl
  by_cases hfin:c.R.length<=5/\c.V.length<=5/\c.desc.length<=10/\c.P.length<=10/\(c.n<=6\/32<c.n)
  ·rw[decide_eq_true ⟨h3,hm5,h7,hfin⟩];obtain⟨f1,f2,f3,f4,f5⟩:=hfin;focus
    refine zB<|vAs<|vew [] [(5,Ac)] (True/\0<2/\decide ((j:Int)<(Aa (Cs.V c):Int))=Ac)<|vf<|vZ2<|vA<|vr 4 (True/\0<6)<|vspD 56 (Cs.n c<=(6:Int)) (λhc=>?_)<|λhc=>?_;refine vew [] [(14,Ab),(20,Ab),(26,Ab)] (True/\0<2/\decide ((Aa (Cs.V c):Int)<=(5:Int))=Ab/\True/\0<1/\decide ((Aa (Cs.R c):Int)<=(5:Int))=Ab/\True/\0<4/\decide ((Aa (Cs.desc c):Int)<=(10:Int))=Ab/\True/\0<3)<|zJ<|vre (True) (Aj<|Bn<|decide ((Aa (Cs.P c):Int)<=(10:Int))) (.inr rfl) ?_;rotate_left;refine vew [] [(8,Ab),(14,Ab),(20,Ab),(26,Ab)] (True/\0<6/\decide (Cs.n c>(32:Int))=Ab/\True/\0<2/\decide ((Aa (Cs.V c):Int)<=(5:Int))=Ab/\True/\0<1/\decide ((Aa (Cs.R c):Int)<=(5:Int))=Ab/\True/\0<4/\decide ((Aa (Cs.desc c):Int)<=(10:Int))=Ab/\True/\0<3)<|zJ<|vre (True) (Aj<|Bn<|decide ((Aa (Cs.P c):Int)<=(10:Int))) (.inr rfl) ?_;rotate_left
   all_goals grind
  rw[decide_eq_false λhh=>hfin hh.2.2.2];focus
   refine zB<|vAs<|vew [] [(5,Ac)] (True/\0<2/\decide ((j:Int)<(Aa (Cs.V c):Int))=Ac)<|vf<|vZ2<|vA<|vr 4 (True/\0<6)<|vspD 56 (Cs.n c<=(6:Int)) (λhc=>?_)<|λhc=>?_;refine vr 11 (True/\0<2)<|vspD 67 ((Aa (Cs.V c):Int)<=(5:Int)) (λhc=>?_)<|λhc=>?_;refine vr 6 (True/\0<1)<|vspD 73 ((Aa (Cs.R c):Int)<=(5:Int)) (λhc=>?_)<|λhc=>?_;refine vr 6 (True/\0<4)<|vspD 79 ((Aa (Cs.desc c):Int)<=(10:Int)) (λhc=>?_)<|λhc=>?_;refine ve (True/\0<3)<|zJ<|vre (True) (Aj<|Bn<|decide ((Aa (Cs.P c):Int)<=(10:Int))) (.inr rfl) ?_;rotate_left;refine veT<|zJ<|vret (True)<|.inr rfl;refine veT<|zJ<|vret (True)<|.inr rfl;refine veT<|zJ<|vret (True)<|.inr rfl;refine vr 5 (True/\0<6)<|vspD 61 (Cs.n c>(32:Int)) (λhc=>?_)<|λhc=>?_;refine vr 6 (True/\0<2)<|vspD 67 ((Aa (Cs.V c):Int)<=(5:Int)) (λhc=>?_)<|λhc=>?_;refine vr 6 (True/\0<1)<|vspD 73 ((Aa (Cs.R c):Int)<=(5:Int)) (λhc=>?_)<|λhc=>?_;refine vr 6 (True/\0<4)<|vspD 79 ((Aa (Cs.desc c):Int)<=(10:Int)) (λhc=>?_)<|λhc=>?_;refine ve (True/\0<3)<|zJ<|vre (True) (Aj<|Bn<|decide ((Aa (Cs.P c):Int)<=(10:Int))) (.inr rfl) ?_;rotate_left;refine veT<|zJ<|vret (True)<|.inr rfl;refine veT<|zJ<|vret (True)<|.inr rfl;refine veT<|zJ<|vret (True)<|.inr rfl;refine veT<|zJ<|vret (True)<|.inr rfl
  all_goals grind
 rw[decide_eq_false (by omega)];focus
  refine zB<|vAs<|vr 6 (True/\0<1)<|vspD 11 ((i:Int)<(Aa (Cs.R c):Int)) (λhc=>?_)<|λhc=>?_;refine veT<|vF ((i:Int)<(6:Int))<|vZ2<|zB<|vAe<|vT ((mn:Int)>(5000:Int))<|vAe<|zJ<|zH<|vret (True)<|.inr rfl;refine veT<|vf<|vZ2<|zB<|vAe<|vT ((mn:Int)>(5000:Int))<|vAe<|zJ<|zH<|vret (True)<|.inr rfl
end
section
open Go.RowKit
def Vt(v:Va):Prop:=Vb 2000000 v
def Cs.Typ(c:Cs):Prop:=∀l∈c.R,∀x∈l,∀v∈x,Vt v
theorem Vt.vs{v:Va}(h:Vt v)(hv:vok v=Ab):Vs v:=by
 refine⟨h.1,h.2.1,?_⟩;unfold vok at hv;split at hv
 ·have:v.str=[]:=by simpa using hv
  rw[this];simp
 split at hv
 ·simp only[Bg,decide_eq_true_eq]at hv;omega
 cases hv
theorem atE_0{n:Int}{a:At}(h:atE n a=0):ascB a.V=Ab/\a.V.all (inB n)=Ab/\(a.V.length:Int)=a.ar:=by
 unfold atE at h;split at h
 ·omega
 split at h
 ·omega
 split at h
 ·omega
 rename_i h1 h2 h3;exact⟨by simpa using h1,by simpa using h2,by simpa using h3⟩
theorem atL_all{n:Int}:∀{L:List At},atL n L=0->∀a∈L,atE n a=0
 |[],_,a,h=>by cases h
 | b::L,h,a,ha=>by
  rw[atL]at h;split at h
  ·rename_i h1;exact absurd h h1
  rename_i h1;rcases A3.1 ha with rfl|ha
  ·exact Bv h1
  exact atL_all h a ha
theorem asc_of{l:List Int}(h:ascB l=Ab):l.Pairwise (· <·):=by
 have key:∀l:List Int,(∀i,0<i->i<l.length->l.getD (i-1) 0<l.getD i 0)->l.Pairwise (· <·):=by
  intro l;induction l with
  |nil=>exact λ_=>Bw.nil
  | cons a l ih=>
   intro h;have h1:l.Pairwise (· <·):=ih λi h0 hi=>by
    have:=h (i+1) (by omega) (by simpa using hi)
    obtain⟨j,rfl⟩:∃j,i=j+1:=⟨i-1,by omega⟩;simpa using this
   refine BG.2 ⟨λb hb=>?_,h1⟩;cases l with
   |nil=>cases hb
   | cons d l=>
    have h2:a<d:=by simpa using h 1 (by omega) (by simp)
    rcases A3.1 hb with rfl|hb
    ·exact h2
    have:=(BG.1 h1).1 b hb
    omega
 refine key l λi h0 hi=>?_;have h1:=A6.1 h i (BX.2 hi);unfold zYv at h1;rw[decide_eq_false (by omega),Bool.false_or,decide_eq_true_eq]at h1;exact h1
theorem zXt{ar:Int}:∀{L:List Rw},accL ar L=0->∀x∈L,(x.length:Int)=ar/\x.all vok=Ab
 |[],_,a,h=>by cases h
 | b ::L,h,a,ha=>by
  rw[accL]at h;split at h
  ·rename_i h1;exact absurd h h1
  rename_i h1;rcases A3.1 ha with rfl|ha
  ·have h2:accE ar a=0:=Bv h1;unfold accE at h2;split at h2
   ·omega
   split at h2
   ·rename_i h3 h4;exact⟨by omega,h4⟩
   omega
  exact zXt h a ha
section
variable {c : Cs} (hl : c.V.length = c.R.length) (he : ∀ i, i < c.V.length → c.err i = 0) (hc : icE c.n c.f c.desc.length c.P (c.ats c.V.length) = 0)
include hc
theorem Cs.ic:0<=c.n/\c.n<=32/\0<=c.f/\c.f<=c.n/\(c.desc.length:Int)=c.f/\(c.P.length:Int)=c.n-c.f/\pany c.f c.n c.P=Ac/\lfE c.n (c.ats c.V.length)=0:=by
 unfold icE at hc;split at hc
 ·omega
 split at hc
 ·omega
 split at hc
 ·omega
 rename_i h1 h2 h3;exact⟨by omega,by omega,by omega,by omega,by omega,by omega,by simpa using h3,hc⟩
theorem Cs.lf:c.V.length<=32/\atL c.n (c.ats c.V.length)=0/\(useP c.n.toNat (c.ats c.V.length) []).contains Ac=false:=by
 obtain⟨_,_,_,_,_,_,_,h⟩:=Cs.ic hc;unfold lfE at h;rw[Cs.ats_len]at h;split at h
 ·omega
 split at h
 ·omega
 split at h
 ·rename_i h1 h2 h3;exact absurd h h3
 split at h
 ·omega
 rename_i h1 h2 h3 h4;exact⟨by omega,Bv h3,by simpa using h4⟩
theorem Cs.vars{i:Nat}(hi:i<c.V.length):(c.V.getD i []).Pairwise (· <·)/\∀z∈c.V.getD i [],0<=z/\z<c.n:=by
 obtain⟨_,h1,_⟩:=Cs.lf hc;have h2:=atE_0 (atL_all h1 (c.at i) (AG.2 ⟨i,BX.2 hi,rfl⟩));refine⟨asc_of h2.1,λz hz=>?_⟩
 have:=A6.1 h2.2.1 z hz
 unfold inB at this;simpa using this
end
end
section
open Go.RowKit
set_option maxRecDepth 100000
section
variable {B : Nat}
theorem zW0{P:Program}{n:Nat}{t e:TypeId}(hu:P.underlying t=Ai (.slice e))(he:P.underlying e=Ai (.int .i64)){ds:List D}(h:ShpB P B n t ds):∃l:List Int,ds=[zBe l]/\l.length<=B:=by
 obtain⟨m,ls,rfl,h1,hB⟩:=zDz hu h;obtain⟨bs,h2,h3,h4⟩:=zD8 (g:=λz:Int=>iD z) (Q:=λx=>True) λx hx=>by
  obtain⟨z,rfl,h5⟩:=zH8 he (h1 x hx);exact⟨z,rfl,trivial⟩
 grind
theorem in_vaB{n:Nat}{ds:List D}(hB:B<=2000000)(h:ShpB Ap B n 73 ds):∃a:Va,ds=vaC a/\Vt a:=by
 obtain⟨hl,m,hf⟩:=zMq Tryz.underlying73 h;rw[show Ap.cellsOf 73=3 by kernel_rfl]at hl;match ds,hl with
 |[a,b,c],_=>
  have c3:Ap.cellsOf 3=1:=by kernel_rfl
  have c4:Ap.cellsOf 2=1:=by kernel_rfl
  have c5:Ap.cellsOf 9=1:=by kernel_rfl
  simp only[A3,List.not_mem_nil,or_false,forall_eq_or_imp,forall_eq,c3,c4,c5,AV,List.drop_succ_cons,Cn,List.take_zero]at hf;obtain⟨g0,g1,g2⟩:=hf;obtain⟨x2,e2,k2⟩:=zH8 Tryz.underlying3 g0;obtain⟨x3,e3,k3⟩:=zH8 Tryz.underlying2 g1;obtain⟨x4,e4,k4⟩:=zX2 Tryz.underlying9 g2;simp only[BP.injEq,and_true]at e2 e3 e4;subst e2 e3 e4;simp only[inK]at k2 k3;exact⟨⟨x2,x3,x4.data.toList⟩,rfl,⟨k2.1,k2.2⟩,⟨k3.1,k3.2⟩,A1 k4 hB⟩
theorem in_rowB{n:Nat}{ds:List D}(hB2:B<=2000000)(h:ShpB Ap B n 29 ds):∃x:Rw,ds=[rowV x]/\x.length<=B/\∀a∈x,Vt a:=by
 obtain⟨m,ls,rfl,h1,hB⟩:=zDz Tryz.underlying29 h;obtain⟨bs,h2,h3,h4⟩:=zRg (g:=vaC) (Q:=Vt) λx hx=>in_vaB hB2 (h1 x hx);exact⟨bs,by rw[h2,<-h3];rfl,by omega,h4⟩
theorem in_rowsB{n:Nat}{ds:List D}(hB2:B<=2000000)(h:ShpB Ap B n 41 ds):∃l:List Rw,ds=[zBx l]/\l.length<=B/\∀x∈l,x.length<=B/\∀a∈x,Vt a:=by
 obtain⟨m,ls,rfl,h1,hB⟩:=zDz Tryz.underlying41 h;obtain⟨bs,h2,h3,h4⟩:=zD8 (g:=rowV) (Q:=λx=>x.length<=B/\∀a∈x,Vt a) λx hx=>in_rowB hB2 (h1 x hx);grind
theorem arg_case{d:D}(hB:B<=2000000)(h:ArgB Ap B 27 d):∃c:Cs,d= .agg (csC c)/\c.Small/\c.Typ:=by
 obtain⟨n,ds,rfl,h'⟩:=h.agg (by kernel_rfl);clear h;obtain⟨hl,m,hf⟩:=zMq Tryz.underlying27 h';rw[show Ap.cellsOf 27=6 by kernel_rfl]at hl;match ds,hl with
 | [a,b,c,d,e,f],_=>
  have c3:Ap.cellsOf 3=1:=by kernel_rfl
  have c4:Ap.cellsOf 22=1:=by kernel_rfl
  have c5:Ap.cellsOf 23=1:=by kernel_rfl
  have c6:Ap.cellsOf 24=1:=by kernel_rfl
  have c7:Ap.cellsOf 25=1:=by kernel_rfl
  simp only[A3,List.not_mem_nil,or_false,forall_eq_or_imp,forall_eq,c3,c4,c5,c6,c7,AV,List.drop_succ_cons,Cn,List.take_zero]at hf;obtain⟨g0,g1,g2,g3,g4,g5⟩:=hf;obtain⟨z0,e0,_⟩:=zH8 Tryz.underlying3 g0;obtain⟨z1,e1,_⟩:=zH8 Tryz.underlying3 g1;obtain⟨_,l2,e2,k2,b2⟩:=zDz Tryz.underlying22 g2;obtain⟨desc,q2,r2,_⟩:=zD8 (g:=bD) (Q:=λ_=>True) λx hx=>by
   obtain⟨b,rfl⟩:=shp_bool Tryz.underlying4 (k2 x hx);exact⟨b,rfl,trivial⟩
  obtain⟨P,e3,b3⟩:=zW0 Tryz.underlying23 Tryz.underlying3 g3;obtain⟨_,l4,e4,k4,b4⟩:=zDz Tryz.underlying24 g4;obtain⟨V,q4,r4,s4⟩:=zD8 (g:=zBe) (Q:=λl=>l.length<=B) λx hx=>zW0 Tryz.underlying23 Tryz.underlying3 (k4 x hx);obtain⟨_,l5,e5,k5,b5⟩:=zDz Tryz.underlying25 g5;obtain⟨R,q5,r5,s5⟩:=zD8 (g:=zBx) (Q:=λl=>l.length<=B/\∀x∈l,x.length<=B/\∀a∈x,Vt a) λx hx=>in_rowsB hB (k5 x hx);simp only[BP.injEq,and_true]at e0 e1 e2 e3 e4 e5;subst e0 e1 e2 e3 e4 e5;refine⟨⟨z0,z1,desc,P,V,R⟩,?_,⟨?_,?_,?_,?_,?_,?_⟩,λl hl x hx=>((s5 l hl).2 x hx).2⟩;all_goals grind
end
end
section
open Go.RowKit
attribute [local irreducible] seqW awp zW zX zP Weak updS zZ retL Pure Acts rP setP setQ cP nP fr
set_option maxRecDepth 4096
def zCo(L:List Rw)(n:Nat):List D:=L.map rowV++Bx (n-L.length) (.val (.slice Ax 0 0))
theorem fillR_0(n:Nat):repL n [.val (.slice Ax 0 0)]=zCo [] n:=by grind [zKe,zCo]
theorem zRo{L:List Rw}{n:Nat}(h:L.length<=n):(zCo L n).length=n:=by simp[zCo];omega
theorem zRn(L:List Rw)(n:Nat)(r:Rw)(h:L.length<n):(zCo L n).set L.length (rowV r)=zCo (L++[r]) n:=by
 unfold zCo;rw[List.set_append,if_neg (by simp)];simp only[AN,Nat.sub_self,Co,Bs,BY,A7,Bh,By,BQ,BZ,Cp];congr 1;rw[show n-L.length=(n-(L.length+1))+1 by omega,List.replicate_succ,List.set_cons_zero]
theorem zRp(L:List Rw):zCo L L.length=L.map rowV:=by simp[zCo]
theorem zYg(L:List Rw):(zCo L L.length).take L.length=L.map rowV:=by grind [zRp,AJ]
theorem zDx(L:List Rw)(i:Nat)(h:i<=L.length):(L.take i).length=i:=by grind
set_option maxHeartbeats 2000000 in
theorem rRows_c(ar:Int)(L:List Rw)(hb:L.length<=65536)(hl:∀r∈L,r.length<=2000000):Pure Ap 42 [relD ar L] [] (.row (L.map rowV) L.length):=by
 refine zG zBs mixed Tryz.func42 rfl<|vAu<|vA<|vr 5 (True/\0<1/\(0:Int)<=(Aa L:Int)/\(Aa L:Int)<=(Aa L:Int)/\(↑(24:Nat):Int)*(Aa L:Int)<=(281474976710656:Int)/\(Aa L:Int)<=(281474976710656:Int)/\0<1/\1=1)<|vs 3 (Af 1 0 (AP (Aa L:Int)) (AP (Aa L:Int)*1) Ab) (Af 1 0 (Aa L) (Aa L) Ab)<|veT<|zB<|vAe<|zF<|zS (λ(i:Nat)=>fr 25 [(1,Ao 0 0),(2,nl),(3,Af 1 0 (Aa L) (Aa L) Ab),(10,iD (Aa L:Int)),(11,iD (i:Int))]) (λ(i:Nat)=>[relB (iD ar)<|.row (L.map rowV) L.length,rwB<|zCo (L.take i) L.length]) (λ(i:Nat)=>L.length-i) (λ(i:Nat)=>i<=L.length) 0 ?_ ?_ ?_
 ·omega
 ·refine wkn (fr 25 [(1,Ao 0 0),(2,nl),(3,Af 1 0 (Aa L) (Aa L) Ab),(10,iD (↑(Aa L):Int)),(11,iD 0)]) [Ak [iD ar,Ae (Ad rowV L) (Aa L)] 43 0 Ac Ac Am,Ak (repL (Aa L) [nl]) 29 1 Ab Ac (kdOf Ac)] (zGz [(1,1),(2,1),(3,1),(10,1),(11,1)] (Ao 0 0=Ao 0 0/\nl=nl/\Af 1 0 (Aa L) (Aa L) Ab=Af 1 0 (Aa L) (Aa L) Ab/\iD (↑(Aa L):Int)=iD (↑(Aa L):Int)/\iD 0=iD (↑(0:Nat):Int)) 2 [] (by kernel_rfl) ⟨rfl,rfl,rfl,rfl,(by kernel_rfl)⟩ (by kernel_rfl) (λ_ _=>rfl) (by simp[updB,fillR_0,zEb]))
 rintro i h1;rcases AM i L.length with h2|h2
 ·have hx:=zBm L i (h:=h2);have hne:L.map rowV≠[]:=zAb;have hlr:=hl _ (zAf L [] i h2);have hcl:=zHw (zL (L.getD i [])) (L.getD i []).length (zAp _) (by omega);have hst:=zRn (L.take i) L.length (L.getD i []) (by rw[zDx L i h1];omega);have e1:L.take (i+1)=L.take i++[L.getD i []]:=zA1 L i h2;rw[zDx L i h1,<-e1]at hst;have hln:=zRo (L:=L.take i) (n:=L.length) (by rw[zDx L i h1];omega);refine vAu<|zB<|vT ((i:Int)<↑(Aa L))<|vKB<|vAe<|zA rfl<|vr 6 (True/\0<1/\ix ↑i ↑(Aa L) (Ad rowV L≠[]))<|vp 19 i (Ad rowV L)<|vr 1 (0<Aa (Ag i<|Ad rowV L))<|vsh 20 hx<|vc hcl<|vr 1 ((0:Int)<=(i:Int)/\(i:Int)<↑(Aa L))<|vo 22 1 i<|vr 1 (A5 (rwB<|zCo (An i L)<|Aa L)=Ac/\Ab=Ab/\1=1/\i+1<=Aa (Az<|rwB<|zCo (An i L)<|Aa L)/\¬1∈[])<|vb 1 (Ak (setAt (Az<|rwB<|zCo (An i L)<|Aa L) i<|cellsOf<|Ae (zL<|Ar L i [])<|Aa<|Ar L i []) (AK<|rwB<|zCo (An i L)<|Aa L) (AL<|rwB<|zCo (An i L)<|Aa L) Ab Ac<|Ay<|rwB<|zCo (An i L)<|Aa L) (Ak (zCo (An (i+1) L)<|Aa L) (29:TypeId) 1 Ab Ac Am)<|vnil<|zE<|vN<|zA rfl<|vr 2 (i6 (↑i+1))<|vnil<|zC<|⟨i+1,by omega,by omega,?_⟩;refine vk 2
 obtain rfl:i=L.length:=by omega
 rw[BO];have ht:=zYg L;refine vAu<|zB<|vF ((Aa L:Int)<↑(Aa L))<|vZ2<|vAe<|zJ<|zAy (True) (Ae (An (Aa L)<|Ag 0<|Az<|rwB<|zCo L<|Aa L)<|Aa L) (Ae (Ad rowV L)<|Aa L) (.inr rfl) (by simp(disch:=omega) only[AV,ht]) rfl
set_option maxHeartbeats 4000000 in
theorem zZ6(ar:Nat)(L:List Rw)(cols:List Nat)(hb:L.length<=65536)(hc32:cols.length<=32)(hl:∀r∈L,r.length=ar)(har:ar<=1000000)(hc:∀c∈cols,c<ar):Pure Ap 63 [relD (ar:Nat) L, .row (cols.map λc=>iD (c:Nat)) cols.length] [] (.tup [relD (cols.length:Nat) (relR (L.map λr=>zR r cols)),iD 0]):=by
 have hbl:∀r∈L.map λr=>zR r cols,r.length<=2000000:=λr hr=>by
  grind [only,zR,AN]
 obtain⟨t,hbu⟩:=build_a (cols.length:Nat) (L.map λr=>zR r cols) L.length (by simp) (by omega) (A1 (zKf _) (by rw[AN];exact hb)) hbl;have hbk:∀(b0 b1:Bk),Acts Ap 75 [iD (cols.length:Nat), .osl 2 0 L.length L.length Ab] [b0,b1,rwB ((L.map λr=>zR r cols).map rowV)] [] (.tup [.agg [iD (cols.length:Nat), .osl 2 0 (relR (L.map λr=>zR r cols)).length (relR (L.map λr=>zR r cols)).length Ab],iD 0]) [b0,b1,rwB ((relR (L.map λr=>zR r cols)).map rowV++t)]:=λb0 b1=>
  hbu.atG (st:=[b0,b1,rwB ((L.map λr=>zR r cols).map rowV)]) 2 rfl (Bk.free_arr rfl rfl) (Bk.free_arr rfl rfl) zN5
 have htk:((relR (L.map λr=>zR r cols)).map rowV++t).take (relR (L.map λr=>zR r cols)).length=(relR (L.map λr=>zR r cols)).map rowV:=List.take_left' (by simp);refine zG zBs mixed Tryz.func63 rfl<|vAu<|zB<|vAe<|vF ((Aa cols:Int)>(32:Int))<|vK<|zB<|vAe<|zF<|zS (λ(i:Nat)=>fr 63 [(1,Ae (Ad (λ(c:Nat)=>iD (c:Int)) cols)<|Aa cols),(2,Ao 0 0),(4,Ao 1 0),(14,iD (Aa cols:Int)),(15,iD (i:Int))]) (λ(i:Nat)=>[relB (iD (ar:Nat))<|.row (L.map rowV) L.length,relB (iD 0) nl]) (λ(i:Nat)=>cols.length-i) (λ(i:Nat)=>i<=cols.length) 0 ?_ ?_ ?_
 ·omega
 ·refine vk 2
 rintro i h1;rcases AM i cols.length with h2|h2
 ·have hx:=zYe cols i h2;have hne:(cols.map λc:Nat=>iD (c:Nat))≠[]:=zAb;have hca:=hc _ (zAf cols 0 i h2);generalize cols.getD i 0=c at*;refine vAu<|zB<|vT ((i:Int)<↑(Aa cols))<|vKB<|vAe<|zB<|vd [0,1,2,3,4,5,6,7,8,10,9,11,12,13]<|vr 3 (ix ↑i ↑(Aa cols) (Ad (λ(c:Nat)=>iD c) cols≠[]))<|vp 20 i (Ad (λ(c:Nat)=>iD c) cols)<|vr 1 (0<Aa (Ag i<|Ad (λ(c:Nat)=>iD c) cols))<|vsh 21 hx<|vw 5 [] [(5,Ac)] (decide ((c:Int)<0)=Ac/\ix ↑i ↑(Aa cols) (Ad (λ(c:Nat)=>iD c) cols≠[]))<|vp 26 i (Ad (λ(c:Nat)=>iD c) cols)<|vr 2 (True/\0<Aa (Ag i<|Ad (λ(c:Nat)=>iD c) cols))<|vsh 27 hx<|ve (0<2)<|vF ((c:Int)>=(ar:Int))<|zK<|zE<|vN<|zA rfl<|vr 2 (i6 (↑i+1))<|vnil<|zC<|⟨i+1,by omega,by omega,?_⟩;refine vk 2
 refine vAu<|zB<|vF ((i:Int)<↑(Aa cols))<|vZ2<|vA<|vr 5 (True/\0<1/\(0:Int)<=(Aa L:Int)/\(Aa L:Int)<=(Aa L:Int)/\(↑(24:Nat):Int)*(Aa L:Int)<=(281474976710656:Int)/\(Aa L:Int)<=(281474976710656:Int)/\0<1/\1=1)<|vs 7 (Af 2 0 (AP (Aa L:Int)) (AP (Aa L:Int)*1) Ab) (Af 2 0 (Aa L) (Aa L) Ab)<|veT<|zB<|vAe<|zF<|zS (λ(i:Nat)=>fr 63 [(1,Ae (Ad (λ(c:Nat)=>iD c) cols)<|Aa cols),(2,Ao 0 0),(4,Ao 1 0),(7,Af 2 0 (Aa L) (Aa L) Ab),(39,iD<|Aa L),(40,iD i)]) (λ(i:Nat)=>[relB (iD (ar:Nat))<|.row (L.map rowV) L.length,relB (iD 0) nl,rwB<|zCo ((L.map λr=>zR r cols).take i) L.length]) (λ(i:Nat)=>L.length-i) (λ(i:Nat)=>i<=L.length) 0 ?_ ?_ ?_
 ·omega
 ·refine wkn (fr 63 [(1,Ae (Ad (λ(c:Nat)=>iD (↑c:Int)) cols) (Aa cols)),(2,Ao 0 0),(4,Ao 1 0),(7,Af 2 0 (Aa L) (Aa L) Ab),(39,iD (↑(Aa L):Int)),(40,iD 0)]) [relB (iD (↑ar:Int)) (Ae (Ad rowV L) (Aa L)),relB (iD 0) nl,Ak (repL (Aa L) [nl]) 29 1 Ab Ac (kdOf Ac)] (zGz [(1,1),(2,1),(4,1),(7,1),(39,1),(40,1)] (Ae (Ad (λ(c:Nat)=>iD (↑c:Int)) cols) (Aa cols)=Ae (Ad (λ(c:Nat)=>iD (↑c:Int)) cols) (Aa cols)/\Ao 0 0=Ao 0 0/\Ao 1 0=Ao 1 0/\Af 2 0 (Aa L) (Aa L) Ab=Af 2 0 (Aa L) (Aa L) Ab/\iD (↑(Aa L):Int)=iD (↑(Aa L):Int)/\iD 0=iD (↑(0:Nat):Int)) 3 [] (by kernel_rfl) ⟨rfl,rfl,rfl,rfl,rfl,(by kernel_rfl)⟩ (by kernel_rfl) (λ_ _=>rfl) (by simp[updB,fillR_0,zEb]))
 clear h1 h2 i;rintro i h1;have hpl:(L.map λr=>zR r cols).length=L.length:=by simp
 rcases AM i L.length with h2|h2
 ·have hx:=zBm L i (h:=h2);have hne:L.map rowV≠[]:=zAb;have hlr:=hl _ (zAf L [] i h2);have hpj:=zJa (L.getD i []) cols _ _ rfl rfl (by omega) (by omega) (λc h=>by rw[hlr];exact hc c h);have hst:=zRn ((L.map λr=>zR r cols).take i) L.length (zR (L.getD i []) cols) (by rw[zDx _ i (by omega)];omega);have e1:(L.map λr=>zR r cols).take (i+1)=(L.map λr=>zR r cols).take i++[zR (L.getD i []) cols]:=by
   grind [zA1,zR]
  have hpc:rowV (zR (L.getD i []) cols)= .row (zL (zR (L.getD i []) cols)) cols.length:=by simp[zR]
  rw[zDx _ i (by omega),<-e1,hpc]at hst;have hln:=zRo (L:=(L.map λr=>zR r cols).take i) (n:=L.length) (by rw[zDx _ i (by omega)];omega);refine vAu<|zB<|vT ((i:Int)<↑(Aa L))<|vKB<|vAe<|zA rfl<|vr 6 (True/\0<1/\ix ↑i ↑(Aa L) (Ad rowV L≠[]))<|vp 49 i (Ad rowV L)<|vr 1 (0<Aa (Ag i<|Ad rowV L))<|vsh 50 hx<|vrT 1<|vc hpj<|vr 4 (0<2/\1<2/\(0:Int)<=(i:Int)/\(i:Int)<↑(Aa L))<|vo 55 2 i<|vr 1 (A5 (rwB<|zCo (An i<|Ad (λ(r:List Va)=>zR r cols) L)<|Aa L)=Ac/\Ab=Ab/\1=1/\i+1<=Aa (Az<|rwB<|zCo (An i<|Ad (λ(r:List Va)=>zR r cols) L)<|Aa L)/\¬2∈[])<|vb 2 (Ak (setAt (Az<|rwB<|zCo (An i<|Ad (λ(r:List Va)=>zR r cols) L)<|Aa L) i<|cellsOf<|Ae (zL<|zR (Ar L i []) cols)<|Aa cols) (AK<|rwB<|zCo (An i<|Ad (λ(r:List Va)=>zR r cols) L)<|Aa L) (AL<|rwB<|zCo (An i<|Ad (λ(r:List Va)=>zR r cols) L)<|Aa L) Ab Ac<|Ay<|rwB<|zCo (An i<|Ad (λ(r:List Va)=>zR r cols) L)<|Aa L) (Ak (zCo (An (i+1)<|Ad (λ(r:List Va)=>zR r cols) L)<|Aa L) (29:TypeId) 1 Ab Ac Am)<|vnil<|zE<|vN<|zA rfl<|vr 2 (i6 (↑i+1))<|vnil<|zC<|⟨i+1,by omega,by omega,?_⟩;refine vk 3
 obtain rfl:i=L.length:=by omega
 have hfa:=zRp (L.map λr=>zR r cols);rw[hpl]at hfa;rw[AJ (by omega),hfa];refine vAu<|zB<|vF ((Aa L:Int)<↑(Aa L))<|vZ2<|vA<|vrT 3<|vnt [relB (iD ar)<|Ae (Ad rowV L)<|Aa L,relB (iD 0) nl,rwB<|Ad rowV<|Ad (λ(r:List Va)=>zR r cols) L]<|zAx [] [] [iD<|Aa cols,Af 2 0 (Aa L) (Aa L) Ab] [iD<|Aa cols,Af 2 0 (Aa L) (Aa L) Ab] (Bc _) (by exact hbk _ _) ?_;refine v0s<|ve (0<2/\1<2/\Ac=Ac/\Ab=Ab/\2=2/\2<=2)<|zJ<|zAy (2<=2) (D.tup [AF [iD<|Aa cols,Ae (An (Aa<|relR<|Ad (λ(r:List Va)=>zR r cols) L)<|Ag 0 (Ad rowV (relR<|Ad (λ(r:List Va)=>zR r cols) L)++t))<|Aa<|relR<|Ad (λ(r:List Va)=>zR r cols) L],iD 0]) (D.tup [AF [Aj<|Al Bo (Aa cols:Int),Ae (Ad rowV<|relR<|Ad (λ(r:List Va)=>zR r cols) L)<|Aa<|relR<|Ad (λ(r:List Va)=>zR r cols) L],Aj<|Al Bo 0]) (.inr rfl) (by simp(disch:=omega) only[AV,htk]) rfl (hc:=by omega)
end
section
open Go.RowKit
def Sn:Sr Nat:=⟨(· +·),(· *·),1,Nat.one_mul,Nat.add_comm,Nat.add_assoc,Nat.mul_comm,B0,Nat.left_distrib⟩
section
variable {α : Type} {c : Rw → Rw → Int}
theorem zV4(f:α->α->α)(r:Rw)(v:α):∀l:List (Rw×α),(putP c f r v l).length<=l.length+1
 |[]=>by simp[putP]
 |(s,u)::l=>by
  have:=zV4 f r v l
  simp only[putP];grind
theorem zVc(f:α->α->α):∀(L l:List (Rw×α)),(acc c f l L).length<=l.length+L.length
 |[],l=>by simp[acc]
 |p::L,l=>by
  have h1:=zVc f L (putP c f p.1 p.2 l);have h2:=zV4 (c:=c) f p.1 p.2 l;simp only[acc,Cq,Bh]at h1⊢;omega
theorem zQ1(f:α->α->α)(A B:List Nat)(lb:List (Rw×α)):∀la:List (Rw×α),(zDd f A la B lb).length<=la.length*lb.length
 |[]=>by simp[zDd]
 |p::la=>by
  have h1:=zQ1 f A B lb la;have h2:(lb.filter λq=>mt A p.1 B q.1).length<=lb.length:=Bd _ _;simp only[zDd,List.flatMap_cons,A7,AN,Bh,Nat.succ_mul]at h1⊢;omega
def rz(f:Fa α):Nat:=f.l.length+1
theorem fmul_len(S:Sr α)(f g:Fa α)(os:List (Fa α)):(fmul c S f g os).l.length<=f.l.length*g.l.length:=by
 have h1:=zVc (c:=c) S.add ((zDd S.mul f.A f.l g.A g.l).filter λp=>os.all λo=>okO (un f.A g.A) p.1 o) [];have h2:((zDd S.mul f.A f.l g.A g.l).filter λp=>os.all λo=>okO (un f.A g.A) p.1 o).length<=(zDd S.mul f.A f.l g.A g.l).length:=Bd _ _;have h3:=zQ1 S.mul f.A g.A g.l f.l;simp only[By]at h1;show(acc c S.add [] _).length<=_;omega
theorem zTe(S:Sr α)(f g:Fa α)(os:List (Fa α)):rz (fmul c S f g os)<=rz f*rz g:=by
 have:=fmul_len (c:=c) S f g os
 simp only[rz,Nat.mul_add,Nat.add_mul];omega
theorem fsum_rz(S:Sr α)(v:Nat)(f:Fa α):rz (fsum c S v f)<=rz f:=by
 have h1:=zVc (c:=c) S.add (zRw f.A v f.l) [];simp only[zRw,By,AN]at h1;show(acc c S.add [] _).length+1<=f.l.length+1;unfold zRw;omega
theorem zK1(f:Fa α):1<=rz f:=by unfold rz;omega
end
section
variable {c : Rw → Rw → Int}
def vz(f:Fa Nat):Nat:=(f.l.map (·.2)).sum+1
end
def pz{α:Type}(z:α->Nat)(l:List α):Nat:=l.foldr (λa n=>z a*n) 1
theorem zCk{α:Type}(z:α->Nat)(a:α)(l:List α):pz z (a::l)=z a*pz z l:=rfl
theorem zQw{α:Type}(z:α->Nat):∀(l m:List α),pz z (l++m)=pz z l*pz z m
 |[],m=>by simp[pz]
 |a::l,m=>by rw[BZ,zCk,zCk,zQw z l m,B0]
theorem zJv{α:Type}{z:α->Nat}(hz:∀a,1<=z a):∀l:List α,1<=pz z l
 |[]=>AY 1
 |a::l=>Nat.mul_le_mul (hz a) (zJv hz l)
theorem zSz{α:Type}(z:α->Nat){l m:List α}(h:l.Perm m):pz z l=pz z m:=by
 induction h with
 |nil=>rfl
 |cons x _ ih=>rw[zCk,zCk,ih]
 |swap x y l=>simp only[zCk];rw[<-B0,Nat.mul_comm (z y),B0]
 |trans _ _ h1 h2=>exact h1.trans h2
theorem zV2{α:Type}{z:α->Nat}(hz:∀a,1<=z a){l:List α}{a:α}(h:a∈l):z a<=pz z l:=by
 induction l<;>grind [zCk,Nat.le_mul_of_pos_right,zJv,A1,Nat.le_mul_of_pos_left]
section
variable {α : Type} {c : Rw → Rw → Int} {S : Sr α} {z : Fa α → Nat} (hz : ∀ a, 1 ≤ z a) (h1 : ∀ f g os, z (fmul c S f g os) ≤ z f * z g) (h2 : ∀ v f, z (fsum c S v f) ≤ z f)
include h1 in
theorem elimP_z:∀(fs:List (Fa α))(p:Fa α)(os:List (Fa α)),z (zCz c S p fs os)<=z p*pz z fs
 |[],p,os=>by simp[zCz,pz]
 |f::fs,p,os=>by
  have h3:=elimP_z fs (fmul c S p f (fs++os)) os;have h4:=Cr (pz z fs) (h1 p f (fs++os));rw[zCz,zCk,<-B0];exact A1 h3 h4
include h1 h2 in
theorem elim_z(v:Nat)(fs:List (Fa α)):pz z (elim c S v fs)<=pz z fs:=by
 have hp:=zSz z (zDy v fs);unfold elim;split
 ·exact AY _
 rename_i p ws e;rw[e,zQw,zCk]at hp;rw[<-hp,zQw];have h3:=A1 (h2 v (zCz c S p ws (zEt v fs))) (elimP_z h1 ws p (zEt v fs));have e1:∀g:Fa α,pz z [g]=z g:=λg=>by simp[pz]
 rw[e1,Nat.mul_comm];exact Cr _ h3
end
instance {α : Type} : Inhabited (Fa α) := ⟨⟨[], []⟩⟩
section
variable {α : Type} (pop : Nat → Nat)
def uniM(v:Nat)(fs:List (Fa α)):Nat:=fs.foldl (λm f=>if v∈f.A then m|||msk f.A else m) 0
def bigL(v:Nat)(fs:List (Fa α)):Nat:=fs.foldl (λn f=>if v∈f.A then max n f.A.length else n) 0
def zPv(fs:List (Fa α))(v:Nat):Nat:=if pop (uniM v fs)=bigL v fs then 0 else pop (uniM v fs)
def zFs(fs:List (Fa α))(s:Int×Nat)(v:Nat):Int×Nat:=if s.1<0\/zPv pop fs v<s.2 then((v:Int),zPv pop fs v)else s
def zBr(fs:List (Fa α))(E:List Nat):Nat:=((E.foldl (zFs pop fs) (-1,0)).1).toNat
theorem ch_mem(fs:List (Fa α)):∀(l:List Nat)(s:Int×Nat),((l.foldl (zFs pop fs) s)=s/\(0<=s.1\/l=[]))\/∃v∈l,(l.foldl (zFs pop fs) s).1=(v:Int)
 |[],s=> .inl ⟨rfl, .inr rfl⟩
 | v::l,s=>by
  rw[Cq];rcases ch_mem fs l (zFs pop fs s v)with⟨h1,h2⟩|⟨w,hw,h⟩
  ·rw[h1];unfold zFs;split;all_goals grind
  grind
theorem zMa(fs:List (Fa α)){E:List Nat}(h:E≠[]):zBr pop fs E∈E/\(E.foldl (zFs pop fs) (-1,0)).1=(zBr pop fs E:Nat):=by
 grind [zBr,ch_mem]
variable (c : Rw → Rw → Int) (S : Sr α)
def zGf:Nat->List (Fa α)->List Nat->List (Fa α)
 |0,fs,E=>fs
 |n+1,fs,E=>zGf n (elim c S (zBr pop fs E) fs) (less E (zBr pop fs E))
def zEy(fs:List (Fa α))(E:List Nat):Fa α:=zCz c S (zJ5 S) (zGf pop c S E.length fs E) []
variable {pop c S} {Dm : List Va}
theorem zWr{E:List Nat}(hn:E.Nodup){v:Nat}(hv:v∈E):(less E v).length+1=E.length:=by
 rw[<-zD9 hn v,List.length_eraseIdx,if_pos (BR.2 hv)];grind
theorem zF5(hc:Cw c)(hD:Dm.Nodup):∀(n:Nat)(fs:List (Fa α))(E:List Nat),E.Nodup->E.length=n->(∀f∈fs,FOk c Dm f)->(∀v∈E,∃f∈fs,v∈f.A)->
  (∀f∈zGf pop c S n fs E,FOk c Dm f)/\(∃vs,vs.Perm E/\∀σ,proF S (zGf pop c S n fs E) σ=zHf S Dm vs (proF S fs) σ)/\(∀w,(∃f∈zGf pop c S n fs E,w∈f.A)↔(∃f∈fs,w∈f.A)/\w∉E)
 |0,fs,E,hn,hl,hf,hv=>by
  have e:E=[]:=List.length_eq_zero_iff.1 hl;subst e;exact⟨hf,⟨[], .refl _,λσ=>rfl⟩,λw=>by simp[zGf]⟩
 | n+1,fs,E,hn,hl,hf,hv=>by
  have hne:E≠[]:=λe=>by rw[e]at hl;cases hl
  have hm:=(zMa pop fs hne).1;have hA:=elim_A (c:=c) (S:=S) (fs:=fs) (λf h=>(hf f h).asc.2) (zBr pop fs E);have hpro:=elim_pro (S:=S) hc hD hf (hv _ hm);have hok:=elim_ok (S:=S) hc hf (zBr pop fs E);have hll:=zWr hn hm;show(∀f∈zGf pop c S n (elim c S (zBr pop fs E) fs) (less E (zBr pop fs E)),_)/\_;generalize hg:zBr pop fs E=v at*;obtain⟨h1,⟨vs,hp,h2⟩,h3⟩:=zF5 hc hD n (elim c S v fs) (less E v) (hn.filter _) (by omega) hok (λw hw=>(hA w).2 ⟨hv w (zDo.1 hw).1,(zDo.1 hw).2⟩);have e:zGf pop c S (n+1) fs E=zGf pop c S n (elim c S v fs) (less E v):=by rw[zGf,hg]
  refine⟨h1,⟨v::vs,?_,λσ=>?_⟩,λw=>?_⟩
  ·grind [less,zD9,List.erase_eq_eraseIdx_of_idxOf,List.perm_cons_erase,List.Perm.cons]
  ·rw[e,h2];exact zGt vs (λσ=>hpro σ) σ
  rw[e,h3,hA,zDo];grind
theorem omul_one(x:Option α):omul S.mul x (Ai S.one)=x:=by rw[zV8];cases x<;>simp[omul,S.om]
theorem one_omul(x:Option α):omul S.mul (Ai S.one) x=x:=by cases x<;>simp[omul,S.om]
theorem zSp:FOk c Dm (zJ5 S):=⟨⟨Bw.nil,by simp[zJ5]⟩,by simp[zJ5,Lens],by simp[zJ5,Srt],by simp[zJ5]⟩
theorem unit_den(σ:Nat->Va):den (zJ5 S) σ=Ai S.one:=rfl
theorem zWn(hc:Cw c)(hD:Dm.Nodup){fs:List (Fa α)}{E:List Nat}(hn:E.Nodup)(hf:∀f∈fs,FOk c Dm f)(hv:∀v∈E,∃f∈fs,v∈f.A):FOk c Dm (zEy pop c S fs E):=
 zKj hc _ _ _ zSp (zF5 hc hD _ fs E hn rfl hf hv).1
theorem margP_den(hc:Cw c)(hD:Dm.Nodup){fs:List (Fa α)}{E:List Nat}(hn:E.Nodup)(hf:∀f∈fs,FOk c Dm f)(hv:∀v∈E,∃f∈fs,v∈f.A)(σ:Nat->Va):
  den (zEy pop c S fs E) σ=zHf S Dm E (proF S fs) σ:=by
 obtain⟨h1,⟨vs,hp,h2⟩,_⟩:=zF5 (pop:=pop) (S:=S) hc hD _ fs E hn rfl hf hv;have h:=zL1 (S:=S) hc σ (zGf pop c S E.length fs E) (zJ5 S) [] zSp h1 (by simp);rw[BS,unit_den,one_omul,h2 σ,zX9 hp]at h;have e:proF S [] σ=Ai S.one:=rfl;rw[e,omul_one]at h;exact h
theorem margP_A(hc:Cw c)(hD:Dm.Nodup){fs:List (Fa α)}{E:List Nat}(hn:E.Nodup)(hf:∀f∈fs,FOk c Dm f)(hv:∀v∈E,∃f∈fs,v∈f.A)(w:Nat):w∈(zEy pop c S fs E).A↔(∃f∈fs,w∈f.A)/\w∉E:=by
 obtain⟨h1,_,h3⟩:=zF5 (pop:=pop) (S:=S) hc hD _ fs E hn rfl hf hv;unfold zEy;rw[zPt _ _ _ (by simp[zJ5]) (λf h=>(h1 f h).asc.2),<-h3];simp[zJ5]
end
section
variable {α : Type} {pop : Nat → Nat} {c : Rw → Rw → Int} {S : Sr α} {z : Fa α → Nat} (h1 : ∀ f g os, z (fmul c S f g os) ≤ z f * z g) (h2 : ∀ v f, z (fsum c S v f) ≤ z f)
end
end
section
open Go.RowKit Go.Shelf Go.Lib
theorem zQ0{P:Program}{f:FuncId}{us:List Value}{v:Value}(h:∀I w,Gl I w->Calls P f us.toArray w λe w'=>e= .returned v/\w=w'):Pure P f (us.map .val) [] (.val v):=by
 intro I w vs hr hi hg;rw[zG7 us vs hr];refine(h I w hg).mono ?_;rintro e w' ⟨rfl,rfl⟩;exact⟨v,I,noB,rfl,Ext.refl _,hi,Fix.refl _ _,λ_ _ h=> .inl h,λ_ _ _ h=>(by cases h),λ_ _ _ h=>(by cases h),λ_ _ _ _ _ h=>(by cases h),λ_ _ _ _ _ h=>(by cases h),λ_ _ h=>(by cases h),by simp only[Rel],by simp⟩
section
variable {P : Program} {I : Im} {w : World} {β : Be} {st : List Bk}
theorem zCi:∀(ys xs pre zs:List D),xs.length=ys.length->setAt (pre++xs++zs) pre.length ys=pre++ys++zs
 |[],xs,pre,zs,hl=>by
  obtain rfl:xs=[]:=B9 (by simpa using hl);rfl
 |y::ys,[],pre,zs,hl=>by simp at hl
 |y::ys,x::xs,pre,zs,hl=>by
  simp only[setAt];have e1:(pre++x::xs++zs).set pre.length y=(pre++[y])++xs++zs:=by simp
  rw[e1]
  have:=zCi ys xs (pre++[y]) zs (by simpa using hl)
  grind
theorem acts_fill{f:FuncId}{k n:Nat}{e:Bk}{wh:Bool}{us vs:List Value}{zHf:List D}{more:List Value}(hmore:∀I w β vs,RelT I w β zHf vs->vs=more)(he:st[k]?=Ai e)(hkd:e.kd.isMap=Ac)(hf:e.fz=Ac)(hc:e.cells.take n=us.map .val)(hn:n<=e.cells.length)(hu:us.length=n)(hv:vs.length=n)(h1:∀v∈vs,v.oneCell'=Ab)(hpos:0<n)
  (h:∀b c w,(∀j,j<n->w.cell? ⟨b,0+j,Ax⟩=Ai (us.getD j undef))->(∀j,j<n->w.frozen? ⟨b,0+j,Ax⟩=Ac)->n<=c->Calls P f (#[.slice (Ai ⟨b,0,Ax⟩) n c]++more.toArray) w λx w'=>x= .returned (.tuple #[])/\∃q,w'=(w.drewN q).setCells b 0 vs):
  Acts P f (.osl k 0 n n wh::zHf) st [] (.val (.tuple #[])) (st.set k {e with cells:=vs.map .val++e.cells.drop n}):=by
 intro β I w xs hr hsr hinj hfz hdom hi hg;simp only[RelT]at hr;obtain⟨v,ys,rfl,hr,hys⟩:=hr;obtain rfl:=hmore _ _ _ _ hys;simp only[Rel]at hr;rcases hr with⟨e0,_,rfl⟩|⟨e0,_,_,a,c,rfl,_⟩|⟨b,c,cap,hb,rfl,k1,k2,k3⟩
 ·omega
 ·omega
 have hs0:Sim β I w ([]:List D) st ({tmps:=#[],defers:=[]}:Act).tmps.toList:=⟨by simp only[RelT],hsr,hinj,hfz,hdom,hi,hg⟩;obtain⟨e',he',hown⟩:=hsr k b c hb;rw[he]at he';cases he';obtain⟨cur,c1,c2,c3,c4⟩:=hown.c hkd;have hul:(cur.take n)=us:=by
  have hx:RelL I w (if e.nob then noB else β) (e.cells.take n) (cur.take n):=by
   refine RelL.of_get (by simp;omega) λi d v hd hv=>?_;rw[BC]at hd hv;split at hd
   ·rename_i hi;rw[if_pos hi]at hv;obtain⟨v',k1,k2,k3⟩:=c3.get i d hd;grind
   cases hd
  rw[hc]at hx;exact zG8 hx
 have hpre:=(hs0.put (off:=0) (cs:=e.cells) (vs:=cur.take e.cells.length) (ks:=[]) hb he hf hkd (by simp) (RelL.mono (zAg _) _ _ (BeLe.refl _) _ _ c3) (by simp) Ax undef).2.2;have hlc:(cur.take e.cells.length).length=e.cells.length:=c3.length.symm;have e1:(#[Bp (Ai ⟨b,0,Ax⟩) n cap]++ys.toArray)=(Bp (Ai ⟨b,0,Ax⟩) n cap::ys).toArray:=by apply Array.ext';simp
 rw[<-e1];refine(h b cap w (λj hj=>?_) (λj hj=>(hpre j (by omega)).2) k1).mono ?_
 ·have hlt:j<cur.length:=by omega
  rw[<-hul,AC,BC,if_pos hj,AD hlt];simp[World.cell?,c1,hlt]
 rintro x w' ⟨rfl,q,rfl⟩;obtain⟨s1,s2,s3⟩:=(hs0.drew q).put (off:=0) (cs:=vs.map .val) (vs:=vs) (ks:=[]) hb he hf hkd (by simp) (zB4 h1) (by simp;omega) Ax undef;have hset2:setAt e.cells 0 (vs.map .val)=vs.map .val++e.cells.drop n:=by
  have:=zCi (vs.map .val) (e.cells.take n) [] (e.cells.drop n) (by simp;omega)
  grind [List.take_append_drop]
 rw[hset2]at s1;exact⟨_,β,_,rfl,s1.imb,(Stp.drew β I w q).trans s2,λ_ _ _ h=>h,s1.sr,s1.inj,s1.fz,s1.dom,by simp only[Rel]⟩
end
theorem small_c(n:Nat)(h:n<100):Pure Ap 175 [.val (.int .i64 n)] [] (.val (.string ⟨(AE n).toArray⟩)):=
 zCl (us:=[.int .i64 n]) λw=>(Tryz.internal_strconv_small n h w).mono λe w' h=>⟨h.1,h.2.symm⟩
theorem zS1(u:Nat)(h1:1<=u)(h2:u<18446744073709551616):Pure Ap 176 [.val (.int .u64 u)] [] (.val (.int .i64 (AI u))):=by
 refine zQ0 (us:=[.int .u64 u]) λI w hG=>?_;obtain⟨hnd,h19⟩:=Lib.numDigits_eq u h1 h2;have hL:Bt u<=64:=Lib.bitLen_le u 64 (AY _) h2;have hcell:w.cell? ⟨1,Lib.l10 (Bt u),Ax⟩=Ai (.int .u64 ((10^Lib.l10 (Bt u):Nat):Int)):=by
  refine(hG (1,Lib.pow10Tab.map λz=>Al .u64 z) (by simp[globT]) (Lib.l10 (Bt u)) _ ?_).2;rw[B1,<-Lib.pow10Tab_at _ (by omega)];rw[AC,AD (by rw[Lib.pow10Tab_length];omega)];rfl
 have hto:((u:Int)).toNat=u:=by omega
 generalize hq:Lib.l10 (Bt u)=q at hnd h19 hcell;generalize hT:10^q=T at hnd hcell;have Hnd:=Lib.hid hnd;clear hnd;clear hG;go_enter Tryz.func176,Tryz.ntmps176;go_wp2_with fail;refine(Tryz.bits_Len64 (u:Int) w (by omega) (by omega)).mono ?_;rintro e w' ⟨rfl,rfl⟩;rw[hto];go_wp2_with fail;refine(Tryz.internal_strconv_log10Pow2 _ hL _).mono ?_;rintro e w' ⟨rfl,rfl⟩;rw[hq];go_wp2_with fail;all_goals (
  refine(Tryz.internal_strconv_bool2_int _ _).mono ?_;rintro e w' ⟨rfl,rfl⟩)
 all_goals go_wp2_with fail
 all_goals go_ret
 all_goals (
  refine⟨?_,rfl⟩;have hnd:=Hnd.out;congr 2;split at hnd<;>simp_all<;>omega)
open Go.Sort in
theorem zTd{st:List Bk}{k u n:Nat}{e:Bk}{wh:Bool}(hn:n=AI u)(he:st[k]?=Ai e)(hkd:e.kd.isMap=Ac)(hf:e.fz=Ac)(hc:e.cells.take n=Bx n (.val (.int .u8 0)))(hl:n<=e.cells.length)(hu:u<18446744073709551616):
  Acts Ap 177 [.osl k 0 n n wh, .val (.int .u64 u)] st [] (.val (.tuple #[])) (st.set k {e with cells:=(B2 (AE u)).map .val++e.cells.drop n}):=by
 have hpos:0<n:=by rw[hn];unfold AI;split<;>omega
 have hdl:(AE u).length=n:=by rw[Ct,hn]
 refine acts_fill (us:=Bx n (.int .u8 0)) (more:=[.int .u64 u]) (λI w β vs h=>?_) he hkd hf (by rw[hc,List.map_replicate]) hl (by simp) (by rw[Lib.byteCells_length,hdl]) (λv hv=>?_) hpos (λb c w h1 h2 h3=>?_)
 ·exact zG7 [.int .u64 u] vs h
 ·obtain⟨x,_,rfl⟩:=AG.1 hv;rfl
 have hH:Holds (λ(b:UInt8)=>Al .u8 (b.toNat:Int)) w b 0 (Cu n (0:UInt8)):=λj hj=>by
  simp_all
 have main:=Tryz.internal_strconv_formatBase10 b 0 c u (Cu n (0:UInt8)) w hH (by
  rw[Cv,hn];exact Lib.lt_pow_nDigits u) hu (by
  rw[Cv,hn]
  have:=Cx u hu;omega)
 rw[Cv]at main;refine main.mono ?_;rintro x w' ⟨rfl,q,v',dk,rfl,hfm⟩;refine⟨rfl,q,?_⟩;have hsz:=hfm.size;have hdk:dk.toList=AE u:=by
  apply BH
  ·grind
  intro j a b';subst hn;rw[Lib.row_is_numeral hfm j b',Array.getElem_toList,getElem!_pos dk j (by simpa using a)]
 have:=Lib.putRow_eq_setCells (λ(b:UInt8)=>Al .u8 (b.toNat:Int)) w b 0 (Cu n (0:UInt8)) dk.toList q hH (by simp[hsz])
 rw[hdk]at this;rw[show(AE u).toArray=dk by rw[<-hdk]]at this;exact this
end
section
open Go.RowKit
attribute [local irreducible] seqW awp zW zX zP Weak updS zZ retL Pure Acts rP setP setQ cP nP fr
set_option maxRecDepth 4096
abbrev byB(l:List UInt8):Bk:=⟨zAe l,5,1,Ab,Ac, .plain⟩
def Ta:Par:=⟨λf=>f==156||f==161||f==171||f==177,λ_ _=>Ax,λk=>k==1,λ_=>Ac,λ_=>Ac⟩
theorem Ta_ok:zBi Ap Ta:=by intro t n f h;cases h
theorem zCp(a b:List UInt8):zAe a++zAe b=zAe (a++b):=by simp[zAe]
theorem zAz(a:List UInt8):(zAe a).length=a.length:=by simp[zAe]
theorem zGu(l:List UInt8):(B2 l).map Aj=zAe l:=by simp[B2,zAe]
theorem zL9(l:List UInt8):(zAe l).map zJ2=zAe l:=by simp[zAe,zJ2]
theorem zXy(l:List UInt8)(r:List D)(n:Nat)(h:l.length=n):(zAe l++r).take n=zAe l:=by
 grind [zAz,AJ]
theorem bs_dl(l:List UInt8):(bs l).data.toList=l:=rfl
theorem dd_len(u:Nat)(h:u<18446744073709551616):(AE u).length<=20:=by
 rw[Ct];exact Cx u h
set_option maxHeartbeats 2000000 in
theorem zSd(l:List UInt8)(u:Nat)(n:Nat)(hn:l.length=n)(hl:n<=1000000000)(hu:u<18446744073709551616):Acts Ap 171 [.osl 0 0 n n Ab, .val (.int .u64 u), .val (.int .i64 10)] [byB l] [0] (.osl 0 0 (n+(AE u).length) (n+(AE u).length) Ab) [byB (l++AE u)]:=by
 subst hn;have hd:=dd_len u hu;by_cases h1:u<100
 ·refine zBn Ta_ok mixed Tryz.func171 rfl (by intro k hk;match k,hk with|0,_=>exact .inr (by simp)|1,_=>exact .inl rfl)<|vAu<|zB<|vAe<|vt<|zB<|vAe<|vT ((u:Int)<(100:Int))<|vA<|vr 3 (i6 (u:Int))<|vc (small_c u h1)<|vr 1 (AZ (byB l)=Ab/\Aa (Az<|byB l)=Aa l*1/\Aa l=Aa l*1/\AK (byB l)=5/\AL (byB l)=1/\Aa (zAe<|Bi<|Bj<|AW<|BA<|AE u)=Aa (Bi<|Bj<|AW<|BA<|AE u)*1/\0<1/\0<1/\5=5/\(Aa l+Aa (Bi<|Bj<|AW<|BA<|AE u))*1<=140737488355328/\1=1/\AS (Ay<|byB l)=Ac/\(Ac=Ac\/AT (Ay<|byB l)=Ab)) (vb 0 (Ak (Az (byB l)++zAe (Bi<|Bj<|AW<|BA<|AE u)) (AK<|byB l) (AL<|byB l) Ab Ac<|Ay<|byB l) (Ak (zAe (l++AE u)) (5:TypeId) 1 Ab Ac Am) (hd:=by simp(disch:=omega) only[zCp])<|vrT 1<|vs 6 (Af 0 0 (Aa l+Aa (Bi<|Bj<|AW<|BA<|AE u)) ((Aa l+Aa (Bi<|Bj<|AW<|BA<|AE u))*1) Ab) (Af 0 0 (Aa l+Aa (AE u)) (Aa l+Aa (AE u)) Ab)<|veT<|zJ<|zH<|zH ?_) ⟨(by kernel_rfl),⟨(by simp[zAz]),⟨(by omega),⟨(by kernel_rfl),⟨(by kernel_rfl),⟨(by simp[zAz]),⟨(by omega),⟨(by omega),⟨(by kernel_rfl),⟨(by(simp;omega)),⟨(by kernel_rfl),⟨(by kernel_rfl),(by simp)⟩⟩⟩⟩⟩⟩⟩⟩⟩⟩⟩⟩;refine zAj (True) [Af 0 0 (Aa l+Aa (AE u)) (Aa l+Aa (AE u)) Ab] (.inr rfl) ?_;exact⟨by kernel_rfl,by kernel_rfl⟩
 have h2:AI u<=20:=Cx u hu;have hz:∀n,n<=20->(Bx 24 (Aj (.int .u8 0))).take n=Bx n (.val (.int .u8 0)):=λn h=>by rw[List.take_replicate,Nat.min_eq_left (by omega)]
 have hx:=Ct u;have hk:∀r,(zAe (AE u)++r).take (AI u)=zAe (AE u):=λr=>zXy _ r _ hx;have main:Acts Ap 171 [.osl 0 0 l.length l.length Ab, .val (.int .u64 u), .val (.int .i64 10)] [byB l] [0] (.osl 0 0 (l.length+(AE u).length) (l.length+(AE u).length) Ab) [byB (l++AE u),⟨Ad (zA6 0) (zAe (AE u)++Ag (AI u) (Bx 24 (.val (.int .u8 0)))),242,0,Ac,Ac, .plain⟩]:=by
  refine zBn Ta_ok mixed Tryz.func171 rfl (by intro k hk;match k,hk with|0,_=>exact .inr (by simp)|1,_=>exact .inl rfl)<|vAu<|zB<|vAe<|vt<|zB<|vAe<|vF ((u:Int)<(100:Int))<|vK<|vAe<|vA<|vrT 1<|vc (zS1 u (by omega) hu)<|veT<|vA<|vr 2 (True/\(0:Int)<=(↑(AI u):Int)/\0<1/\AP (↑(AI u):Int)<=24/\24<=maxLen)<|vs 21 (Af 1 0 (AP (↑(AI u):Int)) (AP (↑(AI u):Int)*1) Ac) (Af 1 0 (AI u) (AI u) Ac)<|vrT 1<|vnt [byB l,Ak [Aj<|Al Aq (0:Int),Aj<|Al Aq (0:Int),Aj<|Al Aq (0:Int),Aj<|Al Aq (0:Int),Aj<|Al Aq (0:Int),Aj<|Al Aq (0:Int),Aj<|Al Aq (0:Int),Aj<|Al Aq (0:Int),Aj<|Al Aq (0:Int),Aj<|Al Aq (0:Int),Aj<|Al Aq (0:Int),Aj<|Al Aq (0:Int),Aj<|Al Aq (0:Int),Aj<|Al Aq (0:Int),Aj<|Al Aq (0:Int),Aj<|Al Aq (0:Int),Aj<|Al Aq (0:Int),Aj<|Al Aq (0:Int),Aj<|Al Aq (0:Int),Aj<|Al Aq (0:Int),Aj<|Al Aq (0:Int),Aj<|Al Aq (0:Int),Aj<|Al Aq (0:Int),Aj<|Al Aq (0:Int)] 242 0 Ac Ac Am]<|zAx [] [] [Af 1 0 (AI u) (AI u) Ac,Aj<|Al Bl (u:Int)] [Af 1 0 (AI u) (AI u) Ac,Aj<|Al Bl (u:Int)] (Bc _) (by exact zTd (k:=1) rfl rfl rfl rfl (hz _ h2) (by simp;omega) hu) ?_;refine v0s<|veT<|vA<|vr 3 (True/\(0:Int)<=(↑(AI u):Int)/\0<1/\AP (↑(AI u):Int)<=24/\24<=maxLen)<|vs 26 (Af 1 0 (AP (↑(AI u):Int)) (AP (↑(AI u):Int)*1) Ac) (Af 1 0 (AI u) (AI u) Ac)<|vr 1 (Ab=Ab/\Aa (zAe l)=Aa l*1/\Aa l=Aa l*1/\5=5/\1=1/\Aa (Ad zJ2<|An (AI u)<|Ag 0 (Ad Aj (B2<|AE u)++Ag (AI u) [Aj<|Al Aq 0,Aj<|Al Aq 0,Aj<|Al Aq 0,Aj<|Al Aq 0,Aj<|Al Aq 0,Aj<|Al Aq 0,Aj<|Al Aq 0,Aj<|Al Aq 0,Aj<|Al Aq 0,Aj<|Al Aq 0,Aj<|Al Aq 0,Aj<|Al Aq 0,Aj<|Al Aq 0,Aj<|Al Aq 0,Aj<|Al Aq 0,Aj<|Al Aq 0,Aj<|Al Aq 0,Aj<|Al Aq 0,Aj<|Al Aq 0,Aj<|Al Aq 0,Aj<|Al Aq 0,Aj<|Al Aq 0,Aj<|Al Aq 0,Aj<|Al Aq 0]))=AI u*1/\0<1/\0<1/\5=5/\(Aa l+AI u)*1<=140737488355328/\1=1/\AS Am=Ac/\(Ac=Ac\/AT Am=Ab)) ?_ ⟨(by kernel_rfl),⟨(by simp[zAz]),⟨(by omega),⟨(by kernel_rfl),⟨(by kernel_rfl),⟨(by simp[zAz,hk,zL9,zGu,hx]),⟨(by omega),⟨(by omega),⟨(by kernel_rfl),⟨(by omega),⟨(by kernel_rfl),⟨(by kernel_rfl),(by simp)⟩⟩⟩⟩⟩⟩⟩⟩⟩⟩⟩⟩;refine vb 0 (Ak (zAe l++Ad zJ2 (An (AI u)<|Ag 0 (Ad Aj (B2<|AE u)++Ag (AI u) [Aj<|Al Aq 0,Aj<|Al Aq 0,Aj<|Al Aq 0,Aj<|Al Aq 0,Aj<|Al Aq 0,Aj<|Al Aq 0,Aj<|Al Aq 0,Aj<|Al Aq 0,Aj<|Al Aq 0,Aj<|Al Aq 0,Aj<|Al Aq 0,Aj<|Al Aq 0,Aj<|Al Aq 0,Aj<|Al Aq 0,Aj<|Al Aq 0,Aj<|Al Aq 0,Aj<|Al Aq 0,Aj<|Al Aq 0,Aj<|Al Aq 0,Aj<|Al Aq 0,Aj<|Al Aq 0,Aj<|Al Aq 0,Aj<|Al Aq 0,Aj<|Al Aq 0]))) 5 1 Ab Ac Am) (Ak (zAe (l++AE u)) 5 1 Ab Ac Am) (hd:=by simp(disch:=omega) only[zGu,AV,zL9,zCp,hk])<|vrT 1<|vs 6 (Af 0 0 (Aa l+AI u) ((Aa l+AI u)*1) Ab) (Af 0 0 (Aa l+AI u) (Aa l+AI u) Ab)<|veT<|zJ<|zH<|zAj (True) [Af 0 0 (Aa l+AI u) (Aa l+AI u) Ab] (.inr rfl) ?_;exact⟨by rw[hx];rfl,by rw[<-zGu (AE u)];kernel_rfl⟩
 exact main.cut 1 (by simp) rfl
set_option maxHeartbeats 2000000 in
theorem appIntI_c(l:List UInt8)(z:Int)(n:Nat)(hn:l.length=n)(hl:n<=900000000)(h0:-9223372036854775808<=z)(h1:z<=9223372036854775807):Acts Ap 161 [.osl 0 0 n n Ab,iD z,iD 10] [byB l] [0] (.osl 0 0 (n+(Ah z).length) (n+(Ah z).length) Ab) [byB (l++Ah z)]:=by
 subst hn;by_cases hz:z<0
 ·have e:Ah z=45::AE z.natAbs:=by unfold Ah;rw[if_pos hz]
  have e1:(Bl.wrap (0-Bl.wrap z))=((z.natAbs:Nat):Int):=by
   simp only[A4,IntKind.bits,IntKind.signed,Bool.false_and,BT,if_false];omega
  have j1:=(zSd (l++[45]) z.natAbs (l.length+1) (by simp) (by omega) (by omega)).atC 0 (st:=[byB (l++[45]),byB [45]]) rfl (.inl rfl) (.inl rfl) (zV7 [.int .u64 z.natAbs, .int .i64 10]) (λj e0 hj he=>by match j,hj,he with|0,hj,_=>exact absurd rfl hj|1,_,he=>cases he;exact .inl rfl);have main:Acts Ap 161 [.osl 0 0 l.length l.length Ab,iD z,iD 10] [byB l] [0] (.osl 0 0 (l.length+1+(AE z.natAbs).length) (l.length+1+(AE z.natAbs).length) Ab) [byB (l++[45]++AE z.natAbs),byB [45]]:=by
   refine zBn Ta_ok mixed Tryz.func161 rfl (by intro k hk;match k,hk with|0,_=>exact .inr (by simp)|1,_=>exact .inl rfl)<|vAu<|vA<|vew [9] [] (True)<|zB<|vAe<|vT (z<0)<|vA<|vr 3 (((1=1/\1<=1/\True)/\0<1/\1=1/\1<=16777216/\1<=9223372036854775807)/\AZ (byB l)=Ab/\Aa (Az<|byB l)=Aa l*1/\Aa l=Aa l*1/\AK (byB l)=5/\AL (byB l)=1/\1=1/\0<1/\0<1/\5=5/\(Aa l+1)*1<=140737488355328/\1=1/\AS (Ay<|byB l)=Ac/\(Ac=Ac\/AT (Ay<|byB l)=Ab)) (vb 0 (Ak (Az (byB l)++[Aj<|Al Aq (45:Int)]) (AK<|byB l) (AL<|byB l) Ab Ac<|Ay<|byB l) (Ak (zAe (l++[(45:UInt8)])) (5:TypeId) 1 Ab Ac Am) (hd:=by simp(disch:=omega) only[zCp,show([Aj (Al Aq 45)]:List D)=zAe [45]from rfl])<|vrT 1<|vs 0 (Af 0 0 (Aa l+1) ((Aa l+1)*1) Ab) (Af 0 0 (Aa l+1) (Aa l+1) Ab)<|veT<|zA rfl<|vw 2 [16] [] (True)<|vs 16 (Aj<|Al Bl<|A4 Bl ((0:Int)-A4 Bl z)) (Aj<|Al Bl (↑(B3 z):Int))<|veT<|vA<|vrT 3<|vnt [Ak (zAe (l++[(45:UInt8)])) (5:TypeId) 1 Ab Ac Am,Ak (zAe [(45:UInt8)]) 5 1 Ab Ac Am] ?_) ⟨⟨⟨(by kernel_rfl),⟨(by omega),trivial⟩⟩,(by omega)⟩,⟨(by kernel_rfl),⟨(by simp[zAz]),⟨(by omega),⟨(by kernel_rfl),⟨(by kernel_rfl),⟨(by kernel_rfl),⟨(by omega),⟨(by omega),⟨(by kernel_rfl),⟨(by omega),⟨(by kernel_rfl),⟨(by kernel_rfl),(by simp)⟩⟩⟩⟩⟩⟩⟩⟩⟩⟩⟩⟩⟩;refine zH6 [] [] [Af 0 0 (Aa l+1) (Aa l+1) Ab,Aj<|Al Bl (↑(B3 z):Int),iD 10] [Af 0 0 (Aa l+1) (Aa l+1) Ab,Aj<|Al Bl (↑(B3 z):Int),iD 10] (by kernel_rfl) trivial (Bc _) (by exact j1) (by kernel_rfl) ?_;refine v0s<|veT<|zJ<|zAj (True) [Af 0 0 (Aa l+1+Aa (AE<|B3 z)) (Aa l+1+Aa (AE<|B3 z)) Ab] (.inr rfl) ?_;exact⟨by kernel_rfl,by kernel_rfl⟩
  have h2:=main.cut 1 (by simp) rfl;grind
 obtain⟨u,rfl⟩:∃u:Nat,z=u:=⟨z.toNat,by omega⟩;have e:Ah u=AE u:=Lib.itoa_nonneg u;have j1:=zSd l u l.length rfl (by omega) (by omega);rw[e];refine zBn Ta_ok mixed Tryz.func161 rfl (by intro k hk;match k,hk with|0,_=>exact .inr (by simp)|1,_=>exact .inl rfl)<|vAu<|vA<|ve (u6 (u:Int))<|zB<|vAe<|vF ((u:Int)<0)<|vK<|vA<|vrT 3<|vnt [byB l]<|zH6 [] [] [Af 0 0 (Aa l) (Aa l) Ab,Aj<|Al Bl (u:Int),iD 10] [Af 0 0 (Aa l) (Aa l) Ab,Aj<|Al Bl (u:Int),iD 10] (by kernel_rfl) trivial (Bc _) (by exact j1) (by kernel_rfl) ?_;refine v0s<|veT<|zJ<|zAj (True) [Af 0 0 (Aa l+Aa (AE u)) (Aa l+Aa (AE u)) Ab] (.inr rfl) ?_;exact⟨by kernel_rfl,by kernel_rfl⟩
theorem appInt_c(l:List UInt8)(z:Int)(n:Nat)(hn:l.length=n)(hl:n<=900000000)(h0:-9223372036854775808<=z)(h1:z<=9223372036854775807):Acts Ap 156 [.osl 0 0 n n Ab,iD z,iD 10] [byB l] [0] (.osl 0 0 (n+(Ah z).length) (n+(Ah z).length) Ab) [byB (l++Ah z)]:=by
 refine zBn Ta_ok mixed Tryz.func156 rfl (by intro k hk;match k,hk with|0,_=>exact .inr (by simp)|1,_=>exact .inl rfl)<|vAu<|vA<|vrT 3<|vnt [byB l]<|zH6 [] [] [Af 0 0 n n Ab,iD z,iD 10] [Af 0 0 n n Ab,iD z,iD 10] (by kernel_rfl) trivial (Bc _) (by exact appIntI_c l z n hn hl h0 h1) (by kernel_rfl) ?_;refine v0s<|veT<|zJ<|zAj (True) [Af 0 0 (n+Aa (Ah z)) (n+Aa (Ah z)) Ab] (.inr rfl) ?_;exact⟨by kernel_rfl,by kernel_rfl⟩
theorem zMh{st:List Bk}(k:Nat)(l:List UInt8)(z:Int)(n:Nat)(hn:l.length=n)(hl:n<=900000000)(h0:-9223372036854775808<=z)(h1:z<=9223372036854775807)(he:st[k]?=Ai (byB l))(hno:∀j e0,j≠k->st[j]?=Ai e0->e0.nob=Ab\/zBd k e0.cells=Ac):Acts Ap 156 [.osl k 0 n n Ab,iD z,iD 10] st [k] (.osl k 0 (n+(Ah z).length) (n+(Ah z).length) Ab) (st.set k (byB (l++Ah z))):=
 (appInt_c l z n hn hl h0 h1).atC k he (.inl rfl) (.inl rfl) (zV7 [.int .i64 z, .int .i64 10]) hno
def idV(v:Va):List UInt8:=Ah v.kind++[32]++Ah v.int++[32]++Ah (v.str.length:Nat)++[32]++v.str
def idR(r:List Va):List UInt8:=r.flatMap idV
theorem idV_len(v:Va)(h:Vs v):(idV v).length<=10100:=by
 have h1:=BU v.kind h.1.1 h.1.2;have h2:=BU v.int h.2.1.1 h.2.1.2;have h3:=BU (v.str.length:Nat) (by omega) (by have:=h.2.2;omega);have h4:=h.2.2;simp only[idV,A7,Bh,By];omega
theorem zW1(r:List Va)(i:Nat)(h:i<r.length):idR (r.take (i+1))=idR (r.take i)++idV (r.getD i As):=by
 rw[Bb h,idR,List.flatMap_append,AC,AD h];simp[idR]
theorem idR_len(r:List Va)(h:∀v∈r,Vs v)(i:Nat)(hi:i<=r.length):(idR (r.take i)).length<=10100*i:=by
 induction i with
 |zero=>simp[idR]
 |succ i ih=>
  rw[zW1 r i (by omega),A7]
  have:=ih (by omega)
  have:=idV_len (r.getD i As) (by rw[AC,AD (by omega)];exact h _ (A0 _))
  omega
def isConv:Op->Bool
 | .convert s d _=>s==227&&d==9
 |_=>Ac
def Tiy:Par:=⟨λf=>f==156,λ_ _=>Ax,λ_=>Ac,isConv,λ_=>Ac⟩
theorem Tiy_ok:zBi Ap Tiy:=by intro t n f h;cases h
theorem zR7(l:List UInt8):zE5 (zAe l)=Ai l:=by
 induction l with
 |nil=>rfl
 |cons b l ih=>
  show(zE5 (zAe l)).map (UInt8.ofNat ((b.toNat:Int)).toNat::·)=_;rw[ih];simp
theorem zPz(l:List UInt8):zNe (zAe l)=l:=by
 induction l with
 |nil=>rfl
 |cons b l ih=>
  show byteG (.val (.int .u8 b.toNat))::zNe (zAe l)=_;rw[ih];simp[byteG]
theorem zGn(l:List UInt8)(n:Nat)(h:l.length=n):(zAe l).take n=zAe l:=AJ (by rw[zAz];omega)
def zMx(k:Nat)(st:List Bk):Bool:=st.zipIdx.all λp=>p.2==k||p.1.nob||!zBd k p.1.cells
theorem zEw{k:Nat}{st:List Bk}(h:zMx k st=Ab):∀j e0,j≠k->st[j]?=Ai e0->e0.nob=Ab\/zBd k e0.cells=false:=λj e0 hj he=>by
 unfold zMx at h;rw[A6]at h
 have:=h (e0,j) (List.mem_zipIdx_iff_getElem?.2 he)
 simp only[BW,beq_iff_eq,B_]at this;rcases this with(h1|h1)|h1
 ·exact absurd h1 hj
 ·exact .inl h1
 exact .inr h1
set_option maxHeartbeats 4000000 in
theorem rkey_c(r:List Va)(n:Nat)(hn:r.length=n)(hl:n<=10000)(hv:∀v∈r,Vs v):Pure Ap 143 [.row (zL r) n] [] (strD (idR r)):=by
 subst hn;refine zG Tiy_ok mixed Tryz.func143 rfl<|vAu<|vAe<|zB<|vAe<|zF<|zS (λ(i:Nat)=>fr 51 [(0,Ae (zL r)<|Aa r),(2,Aj<|AO (AW #[])),(3,Af 0 0 (Aa<|idR<|An i r) (Aa<|idR<|An i r) Ab),(6,iD (Aa r:Int)),(7,iD (i:Int))]) (λi=>[byB<|idR<|r.take i]) (λi=>r.length-i) (λi=>i<=r.length) 0 ?_ ?_ ?_
 ·omega
 ·rw[show idR (r.take 0)=[]from rfl];refine vk 0
 rintro i h1;have hb:=idR_len r hv i (by omega);generalize ex:idR (r.take i)=x at*;rcases AM i r.length with hi|hi
 ·have hvi:Vs (r.getD i As):=by rw[AC,AD hi];exact hv _ (A0 _)
  have e2:=zW1 r i hi;rw[ex]at e2;obtain⟨v,ev⟩:∃v,v=r.getD i default:=⟨_,rfl⟩;rw[<-ev]at e2 hvi;have l1:=BU v.kind hvi.1.1 hvi.1.2;have l2:=BU v.int hvi.2.1.1 hvi.2.1.2;have l3:=hvi.2.2;have l4:=BU (v.str.length:Nat) (by omega) (by omega);have e3:x++idV v=x++Ah v.kind++[32]++Ah v.int++[32]++Ah (v.str.length:Nat)++[32]++v.str:=by simp[idV]
  have e4:=zHx r i hi;rw[<-ev]at e4;focus
   refine vAu<|zB<|vT ((i:Int)<↑(Aa r))<|vKB<|vAe<|vA<|vr 4 (ix ↑i ↑(Aa r) (zL r≠[])) (vs 13 (A8<|Ag (AP (i:Int)*3)<|zL r) (A8 (iD (Aw v)::iD (AA v)::strD (AB v)::zL (Ag (i+1) r)))<|vr 2 (True/\0<Aa (iD (Aw v)::iD (AA v)::strD (AB v)::zL (Ag (i+1) r)))<|vnt [byB x] ?_) ⟨(by omega),⟨(by omega),(by exact zEk _ (by omega))⟩⟩;refine zH6 [] [] [Af 0 0 (Aa x) (Aa x) Ab,iD<|Aw v,iD 10] [Af 0 0 (Aa x) (Aa x) Ab,iD<|Aw v,iD 10] (by kernel_rfl) trivial (Bc _) (by exact zMh 0 _ v.kind _ (by simp) (by omega) hvi.1.1 hvi.1.2 rfl (zEw rfl)) (by kernel_rfl) ?_;refine v0s<|veT<|vA<|vr 3 (((1=1/\1<=1/\True)/\0<1/\1=1/\1<=16777216/\1<=9223372036854775807)/\Ab=Ab/\Aa (zAe (x++Ah (Aw v)))=(Aa x+Aa (Ah<|Aw v))*1/\Aa x+Aa (Ah<|Aw v)=(Aa x+Aa (Ah<|Aw v))*1/\5=5/\1=1/\1=1/\0<1/\0<1/\5=5/\(Aa x+Aa (Ah<|Aw v)+1)*1<=140737488355328/\1=1/\AS Am=Ac/\(Ac=Ac\/AT Am=Ab)) (vb 0 (Ak (zAe (x++Ah (Aw v))++[Aj<|Al Aq 32]) 5 1 Ab Ac Am) (Ak (zAe (x++Ah (Aw v)++[(32:UInt8)])) 5 1 Ab Ac Am) (hd:=by simp(disch:=omega) only[zCp,show([Aj (Al Aq 32)]:List D)=zAe [32]from rfl])<|vrT 1<|vs 3 (Af 0 0 (Aa x+Aa (Ah<|Aw v)+1) ((Aa x+Aa (Ah<|Aw v)+1)*1) Ab) (Af 0 0 (Aa x+Aa (Ah<|Aw v)+1) (Aa x+Aa (Ah<|Aw v)+1) Ab) ?_) ⟨⟨⟨(by kernel_rfl),⟨(by omega),trivial⟩⟩,(by omega)⟩,⟨(by kernel_rfl),⟨(by simp[zAz]),⟨(by omega),⟨(by kernel_rfl),⟨(by kernel_rfl),⟨(by kernel_rfl),⟨(by omega),⟨(by omega),⟨(by kernel_rfl),⟨(by omega),⟨(by kernel_rfl),⟨(by kernel_rfl),(by simp)⟩⟩⟩⟩⟩⟩⟩⟩⟩⟩⟩⟩⟩;refine veT<|vA<|vr 4 (ix ↑i ↑(Aa r) (zL r≠[])) (vs 23 (A8<|Ag (AP (i:Int)*3)<|zL r) (A8 (iD (Aw v)::iD (AA v)::strD (AB v)::zL (Ag (i+1) r)))<|vr 2 (True/\0<Aa (iD (AA v)::strD (AB v)::zL (Ag (i+1) r)))<|vnt [Ak (zAe (x++Ah (Aw v)++[(32:UInt8)])) 5 1 Ab Ac Am,Ak (zAe [(32:UInt8)]) 5 1 Ab Ac Am] ?_) ⟨(by omega),⟨(by omega),(by exact zEk _ (by omega))⟩⟩;refine zH6 [] [] [Af 0 0 (Aa x+Aa (Ah<|Aw v)+1) (Aa x+Aa (Ah<|Aw v)+1) Ab,iD<|AA v,iD 10] [Af 0 0 (Aa x+Aa (Ah<|Aw v)+1) (Aa x+Aa (Ah<|Aw v)+1) Ab,iD<|AA v,iD 10] (by kernel_rfl) trivial (Bc _) (by exact zMh 0 _ v.int _ (by simp;omega) (by omega) hvi.2.1.1 hvi.2.1.2 rfl (zEw rfl)) (by kernel_rfl) ?_;refine v0s<|veT<|vA<|vr 3 (((1=1/\1<=1/\True)/\0<1/\1=1/\1<=16777216/\1<=9223372036854775807)/\Ab=Ab/\Aa (zAe (x++Ah (Aw v)++[(32:UInt8)]++Ah (AA v)))=(Aa x+Aa (Ah<|Aw v)+1+Aa (Ah<|AA v))*1/\Aa x+Aa (Ah<|Aw v)+1+Aa (Ah<|AA v)=(Aa x+Aa (Ah<|Aw v)+1+Aa (Ah<|AA v))*1/\5=5/\1=1/\1=1/\0<1/\0<1/\5=5/\(Aa x+Aa (Ah<|Aw v)+1+Aa (Ah<|AA v)+1)*1<=140737488355328/\1=1/\AS Am=Ac/\(Ac=Ac\/AT Am=Ab)) (vb 0 (Ak (zAe (x++Ah (Aw v)++[(32:UInt8)]++Ah (AA v))++[Aj<|Al Aq 32]) 5 1 Ab Ac Am) (Ak (zAe (x++Ah (Aw v)++[(32:UInt8)]++Ah (AA v)++[(32:UInt8)])) 5 1 Ab Ac Am) (hd:=by simp(disch:=omega) only[zCp,show([Aj (Al Aq 32)]:List D)=zAe [32]from rfl]) ?_) ⟨⟨⟨(by kernel_rfl),⟨(by omega),trivial⟩⟩,(by omega)⟩,⟨(by kernel_rfl),⟨(by(simp[zAz];omega)),⟨(by omega),⟨(by kernel_rfl),⟨(by kernel_rfl),⟨(by kernel_rfl),⟨(by omega),⟨(by omega),⟨(by kernel_rfl),⟨(by omega),⟨(by kernel_rfl),⟨(by kernel_rfl),(by simp)⟩⟩⟩⟩⟩⟩⟩⟩⟩⟩⟩⟩⟩;refine vrT 1<|vs 3 (Af 0 0 (Aa x+Aa (Ah<|Aw v)+1+Aa (Ah<|AA v)+1) ((Aa x+Aa (Ah<|Aw v)+1+Aa (Ah<|AA v)+1)*1) Ab) (Af 0 0 (Aa x+Aa (Ah<|Aw v)+1+Aa (Ah<|AA v)+1) (Aa x+Aa (Ah<|Aw v)+1+Aa (Ah<|AA v)+1) Ab)<|veT<|vA<|vr 4 (ix ↑i ↑(Aa r) (zL r≠[])) (vs 33 (A8<|Ag (AP (i:Int)*3)<|zL r) (A8 (iD (Aw v)::iD (AA v)::strD (AB v)::zL (Ag (i+1) r)))<|vr 3 (True/\0<Aa (strD (AB v)::zL (Ag (i+1) r)))<|vnt [Ak (zAe (x++Ah (Aw v)++[(32:UInt8)]++Ah (AA v)++[(32:UInt8)])) 5 1 Ab Ac Am,Ak [Aj<|Al Aq (↑(32:Nat):Int)] 5 1 Ab Ac Am,Ak (zAe [(32:UInt8)]) 5 1 Ab Ac Am] ?_) ⟨(by omega),⟨(by omega),(by exact zEk _ (by omega))⟩⟩;refine zH6 [] [] [Af 0 0 (Aa x+Aa (Ah<|Aw v)+1+Aa (Ah<|AA v)+1) (Aa x+Aa (Ah<|Aw v)+1+Aa (Ah<|AA v)+1) Ab,iD (Aa (AB v):Int),iD 10] [Af 0 0 (Aa x+Aa (Ah<|Aw v)+1+Aa (Ah<|AA v)+1) (Aa x+Aa (Ah<|Aw v)+1+Aa (Ah<|AA v)+1) Ab,iD (Aa (AB v):Int),iD 10] (by kernel_rfl) trivial (Bc _) (by exact zMh 0 _ (v.str.length:Nat) _ (by simp;omega) (by omega) (by omega) (by omega) rfl (zEw rfl)) (by kernel_rfl) ?_;refine v0s<|veT<|vA<|vr 3 (((1=1/\1<=1/\True)/\0<1/\1=1/\1<=16777216/\1<=9223372036854775807)/\Ab=Ab/\Aa (zAe (x++Ah (Aw v)++[(32:UInt8)]++Ah (AA v)++[(32:UInt8)]++Ah (Aa (AB v):Int)))=(Aa x+Aa (Ah<|Aw v)+1+Aa (Ah<|AA v)+1+Aa (Ah (Aa (AB v):Int)))*1/\Aa x+Aa (Ah<|Aw v)+1+Aa (Ah<|AA v)+1+Aa (Ah (Aa (AB v):Int))=(Aa x+Aa (Ah<|Aw v)+1+Aa (Ah<|AA v)+1+Aa (Ah (Aa (AB v):Int)))*1/\5=5/\1=1/\1=1/\0<1/\0<1/\5=5/\(Aa x+Aa (Ah<|Aw v)+1+Aa (Ah<|AA v)+1+Aa (Ah (Aa (AB v):Int))+1)*1<=140737488355328/\1=1/\AS Am=Ac/\(Ac=Ac\/AT Am=Ab)) ?_ ⟨⟨⟨(by kernel_rfl),⟨(by omega),trivial⟩⟩,(by omega)⟩,⟨(by kernel_rfl),⟨(by(simp[zAz];omega)),⟨(by omega),⟨(by kernel_rfl),⟨(by kernel_rfl),⟨(by kernel_rfl),⟨(by omega),⟨(by omega),⟨(by kernel_rfl),⟨(by omega),⟨(by kernel_rfl),⟨(by kernel_rfl),(by simp)⟩⟩⟩⟩⟩⟩⟩⟩⟩⟩⟩⟩⟩;refine vb 0 (Ak (zAe (x++Ah (Aw v)++[(32:UInt8)]++Ah (AA v)++[(32:UInt8)]++Ah (Aa (AB v):Int))++[Aj<|Al Aq 32]) 5 1 Ab Ac Am) (Ak (zAe (x++Ah (Aw v)++[(32:UInt8)]++Ah (AA v)++[(32:UInt8)]++Ah (Aa (AB v):Int)++[(32:UInt8)])) 5 1 Ab Ac Am) (hd:=by simp(disch:=omega) only[zCp,show([Aj (Al Aq 32)]:List D)=zAe [32]from rfl])<|vrT 1<|vs 3 (Af 0 0 (Aa x+Aa (Ah<|Aw v)+1+Aa (Ah<|AA v)+1+Aa (Ah (Aa (AB v):Int))+1) ((Aa x+Aa (Ah<|Aw v)+1+Aa (Ah<|AA v)+1+Aa (Ah (Aa (AB v):Int))+1)*1) Ab) (Af 0 0 (Aa x+Aa (Ah<|Aw v)+1+Aa (Ah<|AA v)+1+Aa (Ah (Aa (AB v):Int))+1) (Aa x+Aa (Ah<|Aw v)+1+Aa (Ah<|AA v)+1+Aa (Ah (Aa (AB v):Int))+1) Ab)<|veT<|zA rfl<|vr 4 (ix ↑i ↑(Aa r) (zL r≠[])) (vs 44 (A8<|Ag (AP (i:Int)*3)<|zL r) (A8 (iD (Aw v)::iD (AA v)::strD (AB v)::zL (Ag (i+1) r))) ?_) ⟨(by omega),⟨(by omega),(by exact zEk _ (by omega))⟩⟩;refine vwh 3 [] [] (True/\0<Aa (strD (AB v)::zL (Ag (i+1) r))/\Ab=Ab/\Aa (zAe (x++Ah (Aw v)++[(32:UInt8)]++Ah (AA v)++[(32:UInt8)]++Ah (Aa (AB v):Int)++[(32:UInt8)]))=(Aa x+Aa (Ah<|Aw v)+1+Aa (Ah<|AA v)+1+Aa (Ah (Aa (AB v):Int))+1)*1/\Aa x+Aa (Ah<|Aw v)+1+Aa (Ah<|AA v)+1+Aa (Ah (Aa (AB v):Int))+1=(Aa x+Aa (Ah<|Aw v)+1+Aa (Ah<|AA v)+1+Aa (Ah (Aa (AB v):Int))+1)*1/\5=5/\1=1/\Aa (zAe<|Bi<|Bj<|bs<|AB v)=Aa (Bi<|Bj<|bs<|AB v)*1/\0<1/\0<1/\5=5/\(Aa x+Aa (Ah<|Aw v)+1+Aa (Ah<|AA v)+1+Aa (Ah (Aa (AB v):Int))+1+Aa (Bi<|Bj<|bs<|AB v))*1<=140737488355328/\1=1/\AS Am=Ac/\(Ac=Ac\/AT Am=Ab)) ⟨trivial,(lb (by kernel_rfl)),?_⟩ ?_;rotate_left;refine vb 0 (Ak (zAe (x++Ah (Aw v)++[(32:UInt8)]++Ah (AA v)++[(32:UInt8)]++Ah (Aa (AB v):Int)++[(32:UInt8)])++zAe (Bi<|Bj<|bs<|AB v)) 5 1 Ab Ac Am) (Ak (zAe (x++Ah (Aw v)++[(32:UInt8)]++Ah (AA v)++[(32:UInt8)]++Ah (Aa (AB v):Int)++[(32:UInt8)]++AB v)) 5 1 Ab Ac Am) (hd:=by simp(disch:=omega) only[bs_dl,zCp])<|vrT 1<|vs 3 (Af 0 0 (Aa x+Aa (Ah<|Aw v)+1+Aa (Ah<|AA v)+1+Aa (Ah (Aa (AB v):Int))+1+Aa (Bi<|Bj<|bs<|AB v)) ((Aa x+Aa (Ah<|Aw v)+1+Aa (Ah<|AA v)+1+Aa (Ah (Aa (AB v):Int))+1+Aa (Bi<|Bj<|bs<|AB v))*1) Ab) (Af 0 0 (Aa x+Aa (Ah<|Aw v)+1+Aa (Ah<|AA v)+1+Aa (Ah (Aa (AB v):Int))+1+Aa (AB v)) (Aa x+Aa (Ah<|Aw v)+1+Aa (Ah<|AA v)+1+Aa (Ah (Aa (AB v):Int))+1+Aa (AB v)) Ab) (hd:=by simp(disch:=omega) only[bs_dl,A2])<|vnil<|zE<|vN<|zA rfl<|vr 2 (i6 (↑i+1))<|vnil<|zC ?_;rotate_left
  all_goals first|(refine⟨rfl,?_,?_,rfl,rfl,?_,by decide,by decide,rfl,?_,rfl,rfl, .inl rfl⟩<;>(try simp only[zAz,A7,Bh,By,bs_dl])<;>omega)|skip
  refine⟨i+1,by omega,by omega,?_⟩;rw[e2,e3];refine wk 3 (Af 0 0 (Aa x+Aa (Ah (Aw v))+1+Aa (Ah (AA v))+1+Aa (Ah (↑(Aa (AB v)):Int))+1+Aa (AB v)) (Aa x+Aa (Ah (Aw v))+1+Aa (Ah (AA v))+1+Aa (Ah (↑(Aa (AB v)):Int))+1+Aa (AB v)) Ab) (Af 0 0 (Aa (x++Ah (Aw v)++[(32:UInt8)]++Ah (AA v)++[(32:UInt8)]++Ah (↑(Aa (AB v)):Int)++[(32:UInt8)]++AB v)) (Aa (x++Ah (Aw v)++[(32:UInt8)]++Ah (AA v)++[(32:UInt8)]++Ah (↑(Aa (AB v)):Int)++[(32:UInt8)]++AB v)) Ab) (by(simp;omega)) (vk 1)
 have e:i=r.length:=by omega
 subst e;rw[BO]at ex;refine vAu<|zB<|vF ((Aa r:Int)<↑(Aa r))<|vZ2<|vA<|vr 2 (zE5 (An (Aa x)<|Ag 0<|Az<|byB x)=Ai (zNe<|An (Aa x)<|Ag 0<|Az<|byB x)/\Aa (An (Aa x)<|Ag 0<|Az<|byB x)=Aa x/\Program.underlying Ap 5=Ai (TypeDesc.int Aq)) (vs 50 (Aj<|AO<|AW<|BA<|zNe<|An (Aa x)<|Ag 0<|Az<|byB x) (Aj<|AO<|AW<|BA x) (hd:=by simp(disch:=omega) only[AV,zGn,zPz])<|veT<|zJ ?_) ⟨(by simp[zR7,zPz,zGn,zAz]),⟨(by simp[zR7,zPz,zGn,zAz]),(by kernel_rfl)⟩⟩;refine vre (True) (Aj<|AO<|AW<|BA x) (.inr rfl) ?_;rw[ex];rfl
end
section
open Go.RowKit
def dvl(l:List UInt8):Nat:=l.foldl (λa b=>a*10+(b.toNat-48)) 0
theorem zXb(u:Nat):dvl (AE u)=u/\∀b∈AE u,48<=b.toNat/\b.toNat<=57:=by
 induction u using Nat.strongRecOn with
 | _ u ih=>
  rw[AE];split
  ·rename_i h;have e:(UInt8.ofNat (48+u)).toNat=48+u:=by rw[UInt8.toNat_ofNat'];omega
   grind [only,dvl,BV]
  rename_i h;obtain⟨h1,h2⟩:=ih (u/10) (by omega);have e:(UInt8.ofNat (48+u%10)).toNat=48+u%10:=by rw[UInt8.toNat_ofNat'];omega
  grind [dvl,only,BV]
theorem zPj{a b:Int}(h:Ah a=Ah b):a=b:=by
 have key:∀z:Int,z<0->∀u:Nat,Ah z≠AE u:=λz hz u e=>by
  unfold Ah at e;rw[if_pos hz]at e
  have:=(zXb u).2 45 (by rw[<-e];simp)
  grind
 by_cases ha:a<0<;>by_cases hb:b<0
 ·unfold Ah at h;grind [dvl,BP.inj,zXb]
 ·have e:Ah b=AE b.toNat:=by unfold Ah;rw[if_neg hb]
  grind
 ·have e:Ah a=AE a.toNat:=by unfold Ah;rw[if_neg ha]
  grind
 unfold Ah at h;grind [dvl,zXb]
theorem zJi(z:Int):∀b∈Ah z,b≠32:=by
 intro b hb e;subst e;unfold Ah at hb;grind [zXb]
theorem zXc:∀{a b s t:List UInt8},(∀x∈a,x≠32)->(∀x∈b,x≠32)->a++32::s=b++32::t->a=b/\s=t
 |[],[],s,t,_,_,h=>by simpa using h
 |[],y::b,s,t,_,hb,h=>by
  grind
 |x::a,[],s,t,ha,_,h=>by
  grind
 |x::a,y::b,s,t,ha,hb,h=>by
  simp only[BZ,BP.injEq]at h;obtain⟨h1,h2⟩:=zXc (λz hz=>ha z (Bu _ hz)) (λz hz=>hb z (Bu _ hz)) h.2;exact⟨by rw[h.1,h1],h2⟩
theorem idV_inj{v w:Va}{s t:List UInt8}(h:idV v++s=idV w++t):v=w/\s=t:=by
 simp only[idV,BQ,List.singleton_append,BZ,Cp]at h;obtain⟨h1,h⟩:=zXc (zJi _) (zJi _) h;obtain⟨h2,h⟩:=zXc (zJi _) (zJi _) h;obtain⟨h3,h⟩:=zXc (zJi _) (zJi _) h;have g1:=zPj h1;have g2:=zPj h2;clear h1 h2;have h3:v.str.length=w.str.length:=by have:=zPj h3;omega
 obtain⟨h4,h5⟩:=List.append_inj h h3;obtain⟨vk,vi,vs⟩:=v;simp_all
theorem idV_ne(v:Va)(s:List UInt8):idV v++s≠[]:=by
 simp_all [Aa,idV]
theorem idR_inj:∀{r s:List Va},idR r=idR s->r=s
 |[],[],_=>rfl
 |[],w::s,h=>absurd h.symm (idV_ne w (idR s))
 |v::r,[],h=>absurd h (idV_ne v (idR r))
 |v::r,w::s,h=>by
  have h:idV v++idR r=idV w++idR s:=h;obtain⟨h1,h2⟩:=idV_inj h;rw[h1,idR_inj h2]
abbrev kyv(r:List Va):Value:= .string (bs (idR r))
theorem vEq_ky(r s:List Va):vEq (kyv r) (kyv s)=decide (r=s):=by
 simp only[vEq,kyv,bs];rw[BI];grind [only,idR_inj]
theorem zC6(K:List (List Va))(r:List Va):zDj (K.map kyv) (kyv r)=K.findIdx? λs=>decide (r=s):=by
 unfold zDj;rw[List.findIdx?_map];congr 1;funext s;exact vEq_ky r s
theorem zFp(K:List (List Va)):(K.map kyv).all (zT .string)=true:=by simp[zT]
end
def zBj(rows:List (List Va))(i j:Nat):Int:=rcmp (rows.getD i []) (rows.getD j [])
theorem zZ1{rows:List (List Va)}(hn:rows.Nodup):On (Av rows.length) (zBj rows):=by
 refine⟨λx hx y hy=>?_,λx _ y _=>rcw.neg _ _,λx _ y _ z _=>rcw.tr _ _ _⟩;have hx:x<rows.length:=by simpa using hx
 have hy:y<rows.length:=by simpa using hy
 unfold zBj;rw[rcw.eq,AC,AC,AD hx,AD hy];simp only[Cy];grind [Cz]
section
variable {α : Type}
def srtL(l:List (Rw×α)):List (Rw×α):=acc rcmp (λa _=>a) [] l
theorem zVd(f:α->α->α){l:List (Rw×α)}(h:Ndk l):acc rcmp f [] l=srtL l:=by
 have hs:=zE7 rcw (λ(a _:α)=>a) l [] Bw.nil;refine Srt.uniq rcw (zE7 rcw f l [] Bw.nil) hs λr=>?_;rw[zJ4 rcw f l [] r Bw.nil];unfold srtL;rw[zJ4 rcw _ l [] r Bw.nil];simp_all [kv,Rw,zRs]
theorem zFy[Inhabited α]{l:List (Rw×α)}(h:Ndk l):(zDp (zBj (l.map (·.1))) (Av l.length)).map (λi=>l.getD i As)=srtL l:=by
 have ho:=zZ1 (rows:=l.map (·.1)) (show(l.map (·.1)).Nodup from h);rw[AN]at ho;have hp:=zB3 (zBj (l.map (·.1))) (Av l.length);have hr:(Av l.length).map (λi=>l.getD i As)=l:=by
  apply BH (by simp);grind
 refine perm_acc rcw _ ?_ ?_ h
 ·grind
 unfold Srt;rw[CA];have hs:=ho.sorted;have hnd:(zDp (zBj (l.map (·.1))) (Av l.length)).Nodup:=hp.nodup_iff.2 Ca;refine(hs.and hnd).imp_of_mem λ{a b} ha hb hab=>?_;have ha:=hp.mem_iff.1 ha;have hb:=hp.mem_iff.1 hb;have h1:=ho.neg a ha b hb;have h2:=ho.eq a ha b hb;grind [zBj]
end
section
open Go.RowKit
section
variable {α : Type} [Inhabited α]
theorem zSi{f:α->α->α}{r:Rw}{v:α}:∀{l:List (Rw×α)},(addT f r v l).map (·.2)=if r∈l.map (·.1)then(l.map (·.2)).set ((l.map (·.1)).idxOf r) (f ((l.map (·.2)).getD ((l.map (·.1)).idxOf r) As) v)else l.map (·.2)++[v]
 |[]=>rfl
 | (s,u)::l=>by
  simp only[addT];by_cases e:s=r
  ·subst e;simp
  have ih:=zSi (f:=f) (r:=r) (v:=v) (l:=l);grind
theorem zZi(f:α->α->α)(L:List (Rw×α))(i:Nat)(h:i<L.length):sumT f [] (L.take (i+1))=addT f (L.getD i As).1 (L.getD i As).2 (sumT f [] (L.take i)):=by
 grind [Bb,sumT,AD]
theorem zZt(f:α->α->α)(L:List (Rw×α)):srtL (sumT f [] L)=acc rcmp f [] L:=by
 have hn:=zKb f L [] (by simp[Ndk]);have hp:(srtL (sumT f [] L)).Perm (sumT f [] L):=by
  rw[<-zFy hn];have h1:=(zB3 (zBj ((sumT f [] L).map (·.1))) (Av (sumT f [] L).length)).map λi=>(sumT f [] L).getD i As;have hr:(Av (sumT f [] L).length).map (λi=>(sumT f [] L).getD i As)=sumT f [] L:=by
   apply BH (by simp);grind
  rwa[hr]at h1
 exact perm_sumT rcw f hp (zE7 rcw _ _ _ Bw.nil)
end
theorem zVo{α:Type}(f:α->α->α):∀(L l:List (Rw×α)),(sumT f l L).length<=l.length+L.length
 |[],l=>by simp[sumT]
 |p::L,l=>by
  have:=zVo f L (addT f p.1 p.2 l)
  grind [addT,zFt,AN,only,sumT,Bh]
theorem zVp{α:Type}(f:α->α->α):∀(L l:List (Rw×α))(p:Rw×α),p∈sumT f l L->p.1∈l.map (·.1)\/p.1∈L.map (·.1)
 |[],l,p,h=> .inl (AG.2 ⟨p,h,rfl⟩)
 |q::L,l,p,h=>by
  rcases zVp f L (addT f q.1 q.2 l) p h with h1|h1;all_goals grind [zFt,only,BV,Bu]
theorem zBk(K:List Rw)(r:Rw):(K.findIdx? λs=>decide (r=s))=if r∈K then Ai (K.idxOf r)else none:=by
 induction K<;>grind
theorem look_i(K:List Rw)(r:Rw):zEz Ab (iD 0) (K.map kyv) (nsD (Av K.length)) (kyv r)=if r∈K then .tup [iD (K.idxOf r:Nat),bD Ab]else .tup [iD 0,bD Ac]:=by
 grind [zEz,zC6,zBk,only,B4.injEq,BR,ctD]
structure Hm{α β:Type}(S:Sr α)(S':Sr β)(g:α->β):Prop where
 add:∀a b,g (S.add a b)=S'.add (g a) (g b)
 mul:∀a b,g (S.mul a b)=S'.mul (g a) (g b)
 one:g S.one=S'.one
section
variable {α β : Type} (g : α → β)
def mpL(l:List (Rw×α)):List (Rw×β):=l.map λp=>(p.1,g p.2)
def Fa.mp(f:Fa α):Fa β:=⟨f.A,mpL g f.l⟩
variable {c : Rw → Rw → Int} {S : Sr α} {S' : Sr β} {g}
end
def omin:Option Nat->Option Nat->Option Nat
 |none,y=>y
 |some x,Ax=>Ai x
 |some x,Ai y=>Ai (min x y)
def oplus:Option Nat->Option Nat->Option Nat
 |some x,Ai y=>Ai (x+y)
 |_,_=>Ax
def Sk:Sr (Option Nat):=⟨omin,oplus,Ai 0,
 λa=>by cases a<;>simp[oplus],
 λa b=>by cases a<;>cases b<;>simp[omin,Nat.min_comm],
 λa b d=>by cases a<;>cases b<;>cases d<;>simp[omin,Nat.min_assoc],
 λa b=>by cases a<;>cases b<;>simp[oplus,Nat.add_comm],
 λa b d=>by cases a<;>cases b<;>cases d<;>simp[oplus,Nat.add_assoc],
 λa b d=>by cases a<;>cases b<;>cases d<;>simp[oplus,omin,Nat.add_min_add_left]⟩
def Sr.prod{α β:Type}(S:Sr α)(T:Sr β):Sr (α×β):=⟨λa b=>(S.add a.1 b.1,T.add a.2 b.2),λa b=>(S.mul a.1 b.1,T.mul a.2 b.2),(S.one,T.one),
 λa=>by simp[S.om,T.om],λa b=>by simp[S.ac a.1 b.1,T.ac a.2 b.2],λa b d=>by simp[S.aa,T.aa],λa b=>by simp[S.mc a.1 b.1,T.mc a.2 b.2],λa b d=>by simp[S.ma,T.ma],λa b d=>by simp[S.dl,T.dl]⟩
def Sp:Sr (Nat×Option Nat):=Sr.prod Sn Sk
theorem hm1:Hm Sp Sn Bf:=⟨λ_ _=>rfl,λ_ _=>rfl,rfl⟩
theorem hm2:Hm Sp Sk BD:=⟨λ_ _=>rfl,λ_ _=>rfl,rfl⟩
def sk(f:Fa (Option Nat)):Nat:=(f.l.map λp=>p.2.getD 0).foldr max 0
section
variable {c : Rw → Rw → Int}
def kz(f:Fa (Option Nat)):Nat:=2^sk f
def qz(f:Fa (Nat×Option Nat)):Nat:=vz (f.mp Bf)*kz (f.mp BD)
end
@[irreducible] def Ez:Nat:=30000
theorem Ez_eq:Ez=30000:=by unfold Ez;rfl
def Bz:Nat:=2^Ez
theorem zAv(l:List Nat)(k:Nat)(h:k<l.length):((nsD l).drop k).headD .unk=iD (l.getD k 0:Nat):=by simp_all
theorem zF8(l:List Nat)(k:Nat)(h:k<l.length):l.getD k 0∈l:=by
 grind
def mem32(m:Nat):List Nat:=(Av 32).filter λv=>m.testBit v
theorem zX8(m i:Nat)(h:i<32):((Av 32).take (i+1)).filter (λv=>m.testBit v)=((Av 32).take i).filter (λv=>m.testBit v)++if m.testBit i then[i]else[]:=by
 rw[Bb (by simpa using h),Cb];grind
theorem zS2(l:List Nat)(i:Nat):nsD (l++[i])=nsD l++[iD i]:=by simp
theorem zHd(l:List Nat)(n:Nat)(h:l.length=n):(nsD l).take n=nsD l:=by grind [AJ]
def zCd(p:Nat->Bool)(A:List Nat):List Nat:=(Av A.length).filter λj=>p (A.getD j 0)
theorem zR4(p:Nat->Bool)(A:List Nat)(i:Nat)(h:i<A.length):((Av A.length).take (i+1)).filter (λj=>p (A.getD j 0))=((Av A.length).take i).filter (λj=>p (A.getD j 0))++if p (A.getD i 0)then[i]else[]:=by
 rw[Bb (by simpa using h),Cb];grind
abbrev intB(l:List D):Bk:=⟨l,3,1,Ab,Ac, .plain⟩
end
section
open Go.RowKit
attribute [local irreducible] seqW awp zW zX zP Weak updS zZ retL Pure Acts rP setP setQ cP nP fr
set_option maxRecDepth 4096
set_option maxHeartbeats 1000000 in
theorem zRc(m:Nat)(hm:m<4294967296):Pure Ap 123 [u32D m] [] (.row (nsD (mem32 m)) (mem32 m).length):=by
 refine zG zAm mixed Tryz.func123 rfl<|vAu<|vAe<|zB<|vAe<|zF<|zAw (λ(i:Nat)(l:List Nat)=>fr 19 [(0,u32D m),(2,nl),(3,Af 0 0 (Aa l) (Aa l) Ab),(5,iD (i:Int))]) (λi l=>[intB<|nsD l]) (λi l=>32-i) (λ(i:Nat)(l:List Nat)=>i<=32/\l=((Av 32).take i).filter λv=>m.testBit v) 0 [] ?_ ?_ ?_
 ·exact⟨by omega,by simp⟩
 ·refine vk 0
 rintro i l ⟨h1,h2⟩;rcases AM i 32 with h3|h3
 ·have h4:=zX8 m i h3;rw[<-h2]at h4;have hlen:l.length<=32:=by rw[h2];exact A1 (Bd _ _) (by simp;omega)
  focus
   refine vAu<|zB<|vT ((i:Int)<(32:Int))<|vKB<|vAe<|vA<|vr 3 ((0:Int)<=(i:Int))<|vs 10 (Aj<|Al AQ<|AX (m:Int) ((2:Int)^min (AP (i:Int)) 32)) (dig (m>>>i)) (hd:=by simp(disch:=omega) only[BJ,zEo])<|vrT 1<|vs 11 (Aj<|Al AQ<|A4 AQ (↑(AU (Au 32 (↑(m>>>i):Int)&&&Au 32 (1:Int))):Int)) (dig<|AU (Au 32 (↑(m>>>i):Int)&&&Au 32 (1:Int))) (hd:=by simp(disch:=omega) only[zA5])<|vrT 1<|vs 12 (bD ((↑(AU (Au 32 (↑(m>>>i):Int)&&&Au 32 (1:Int))):Int)==(1:Int))) (bD<|Cc m i) (hd:=by simp(disch:=omega) only[zR8])<|veT<|zAr (t:=Cc m i) (by kernel_rfl) (λhc=>?_)<|λhc=>?_;refine zA rfl<|vr 5 (((1=1/\1<=1/\True)/\0<1/\1=1/\1<=16777216/\1<=9223372036854775807)/\AZ (intB<|nsD l)=Ab/\Aa (Az<|intB<|nsD l)=Aa l*1/\Aa l=Aa l*1/\AK (intB<|nsD l)=3/\AL (intB<|nsD l)=1/\1=1/\0<1/\0<8/\3=3/\(Aa l+1)*8<=140737488355328/\1=1/\AS (Ay<|intB<|nsD l)=Ac/\(Ac=Ac\/AT (Ay<|intB<|nsD l)=Ab))<|vs 3 (Af 0 0 (Aa l+1) ((Aa l+1)*1) Ab) (Af 0 0 (Aa l+1) (Aa l+1) Ab) (hd:=by simp(disch:=omega) only[A2])<|vnil<|zE<|vN<|zA rfl<|vr 2 (i6 (↑i+1))<|vnil<|zC ?_;rotate_left;refine zK<|zE<|vN<|zA rfl<|vr 2 (i6 (↑i+1))<|vnil<|zC ?_;rotate_left
  ·have hc2:m.testBit i=true:=by assumption
   rw[hc2,if_pos rfl]at h4;refine⟨i+1,l++[i],⟨by omega,h4.symm⟩,by omega,?_⟩;rw[zS2,A7];refine vk 1
  have hc2:m.testBit i=false:=by assumption
  rw[hc2,if_neg (by decide),BS]at h4;refine⟨i+1,l,⟨by omega,h4.symm⟩,by omega,?_⟩;refine vk 1
 refine vAu<|zB<|vF ((i:Int)<(32:Int))<|vZ2<|vAe<|zJ<|zAy (True) (Ae (An (Aa l)<|Ag 0<|Az<|intB<|nsD l)<|Aa l) (Ae (An (Aa l)<|nsD l)<|Aa l) (.inr rfl) (by simp(disch:=omega) only[AV]) ?_;have e:i=32:=by omega
 subst e;rw[AJ (by simp)]at h2;rw[h2,zHd _ _ rfl];rfl
set_option maxHeartbeats 1000000 in
theorem zHv(A B:List Nat)(n:Nat)(hn:A.length=n)(hl:n<=1000)(hA:∀v∈A,v<32)(m:Nat)(hm:m<4294967296):Pure Ap 128 [.row (nsD A) n,u32D m] [] (.row (nsD (zCd (λv=>m.testBit v) A)) (zCd (λv=>m.testBit v) A).length):=by
 subst hn;refine zG zAm mixed Tryz.func128 rfl<|vAu<|vAe<|zB<|vAe<|zF<|zAw (λ(i:Nat)(l:List Nat)=>fr 26 [(1,u32D m),(4,nl),(5,Af 0 0 (Aa l) (Aa l) Ab),(8,Ae (nsD A)<|Aa A),(9,iD (Aa A:Int)),(10,iD (i:Int))]) (λi l=>[intB<|nsD l]) (λi l=>A.length-i) (λ(i:Nat)(l:List Nat)=>i<=A.length/\l=((Av A.length).take i).filter λj=>m.testBit (A.getD j 0)) 0 [] ?_ ?_ ?_
 ·exact⟨by omega,by simp⟩
 ·refine vk 0
 rintro i l ⟨h1,h2⟩;rcases AM i A.length with h3|h3
 ·have h4:=zR4 (λv=>m.testBit v) A i h3;rw[<-h2]at h4;have hlen:l.length<=1000:=by rw[h2];exact A1 (Bd _ _) (by simp;omega)
  have h5:=hA _ (zF8 A i h3);focus
   refine vAu<|zB<|vT ((i:Int)<↑(Aa A))<|vKB<|vA<|vr 2 (ix ↑i ↑(Aa A) (nsD A≠[])) ?_ ⟨(by omega),⟨(by omega),(by exact zAb)⟩⟩;refine vp 13 i (nsD A)<|vr 1 (0<Aa (Ag i<|nsD A))<|vs 14 (AR (Ag i<|nsD A) Uk) (iD ↑(Ar A i 0)) (hd:=by simp(disch:=omega) only[zAv])<|veT<|vA<|vr 3 ((0:Int)<=(↑(Ar A i 0):Int))<|vs 17 (Aj<|Al AQ<|AX (m:Int) ((2:Int)^min (AP (↑(Ar A i 0):Int)) 32)) (dig (m>>>Ar A i 0)) (hd:=by simp(disch:=omega) only[BJ,zEo])<|vrT 1<|vs 18 (Aj<|Al AQ<|A4 AQ (↑(AU (Au 32 (↑(m>>>Ar A i 0):Int)&&&Au 32 (1:Int))):Int)) (dig<|AU (Au 32 (↑(m>>>Ar A i 0):Int)&&&Au 32 (1:Int))) (hd:=by simp(disch:=omega) only[zA5])<|vrT 1<|vs 19 (bD ((↑(AU (Au 32 (↑(m>>>Ar A i 0):Int)&&&Au 32 (1:Int))):Int)==(1:Int))) (bD<|Cc m<|Ar A i 0) (hd:=by simp(disch:=omega) only[zR8])<|veT<|zAr (t:=Cc m (Ar A i 0)) (by kernel_rfl) (λhc=>?_)<|λhc=>?_;refine zA rfl<|vr 5 (((1=1/\1<=1/\True)/\0<1/\1=1/\1<=16777216/\1<=9223372036854775807)/\AZ (intB<|nsD l)=Ab/\Aa (Az<|intB<|nsD l)=Aa l*1/\Aa l=Aa l*1/\AK (intB<|nsD l)=3/\AL (intB<|nsD l)=1/\1=1/\0<1/\0<8/\3=3/\(Aa l+1)*8<=140737488355328/\1=1/\AS (Ay<|intB<|nsD l)=Ac/\(Ac=Ac\/AT (Ay<|intB<|nsD l)=Ab))<|vs 5 (Af 0 0 (Aa l+1) ((Aa l+1)*1) Ab) (Af 0 0 (Aa l+1) (Aa l+1) Ab) (hd:=by simp(disch:=omega) only[A2])<|vnil<|zE<|vN<|zA rfl<|vr 2 (i6 (↑i+1))<|vnil<|zC ?_;rotate_left;refine zK<|zE<|vN<|zA rfl<|vr 2 (i6 (↑i+1))<|vnil<|zC ?_;rotate_left
  ·have hc2:m.testBit (A.getD i 0)=true:=by assumption
   rw[hc2,if_pos rfl]at h4;refine⟨i+1,l++[i],⟨by omega,h4.symm⟩,by omega,?_⟩;rw[zS2,A7];refine vk 1
  have hc2:m.testBit (A.getD i 0)=false:=by assumption
  rw[hc2,if_neg (by decide),BS]at h4;refine⟨i+1,l,⟨by omega,h4.symm⟩,by omega,?_⟩;refine vk 1
 refine vAu<|zB<|vF ((i:Int)<(Aa A:Int))<|vZ2<|vAe<|zJ<|zAy (True) (Ae (An (Aa l)<|Ag 0<|Az<|intB<|nsD l)<|Aa l) (Ae (An (Aa l)<|nsD l)<|Aa l) (.inr rfl) (by simp(disch:=omega) only[AV]) ?_;have e:i=A.length:=by omega
 subst e;rw[AJ (by simp)]at h2;rw[h2,zHd _ _ rfl];rfl
theorem pickV_vs(x:List Va)(cols:List Nat)(h:∀v∈x,Vs v):∀v∈zR x cols,Vs v:=by
 intro v hv;obtain⟨c,_,rfl⟩:=AG.1 hv;rw[AC];cases e:x[c]? with
 |none=>exact⟨by decide,by decide,by decide⟩
 |some u=>exact h u (B5 e)
theorem key_c(x:List Va)(cols:List Nat)(n m:Nat)(hn:x.length=n)(hm:cols.length=m)(ln:n<=10000)(lm:m<=10000)(hc:∀c∈cols,c<x.length)(hv:∀v∈x,Vs v):Pure Ap 129 [.row (zL x) n, .row (nsD cols) m] [] (strD (idR (zR x cols))):=by
 have h1:=zJa x cols n m hn hm (by omega) (by omega) hc;have h2:=rkey_c (zR x cols) m (by simp[zR,hm]) lm (pickV_vs x cols hv);refine zG zAm mixed Tryz.func129 rfl<|vAu<|vA<|vrT 2<|vc (h1)<|ve (0<2/\1<2)<|vA<|vrT 1<|vc (h2)<|veT<|zJ<|vret (True)<|.inr rfl
abbrev flC(f:List Nat×List (List Va)):List D:=[.row (nsD f.1) f.1.length, .mfz (f.2.map kyv) (f.2.map λ_=>bD Ab)]
theorem zLw(f:List Nat×List (List Va)):(flC f).length=2:=rfl
theorem look_b(K:List (List Va))(r:List Va):zEz Ac (bD Ac) (K.map kyv) (K.map λ_=>bD Ab) (kyv r)=bD (decide (r∈K)):=by
 grind [zEz,zC6,List.findIdx?_eq_none_iff,ctD,CH,A0]
abbrev flB1(a b:D):Bk:=⟨[a,b],196,0,Ac,Ac, .plain⟩
set_option maxHeartbeats 1000000 in
theorem passes_c(fs:List (List Nat×List (List Va)))(n:Nat)(hn:fs.length=n)(hl:n<=1000)(x:List Va)(m:Nat)(hm:x.length=m)(lm:m<=10000)(hv:∀v∈x,Vs v)(hcs:∀f∈fs,f.1.length<=1000/\∀c∈f.1,c<x.length):Pure Ap 131 [.row (fs.flatMap flC) n, .row (zL x) m] [] (bD (fs.all λf=>decide (zR x f.1∈f.2))):=by
 subst hn;refine zG zAm mixed Tryz.func131 rfl<|vAu<|zB<|vAe<|zF<|zS (λ(i:Nat)=>fr 22 [(1,Ae (zL x) m),(7,Ae (AH flC fs)<|Aa fs),(8,iD (Aa fs:Int)),(9,iD (i:Int))]) (λ_=>[]) (λi=>fs.length-i) (λi=>i<=fs.length/\(fs.take i).all (λf=>decide (zR x f.1∈f.2))=Ab) 0 ?_ ?_ ?_
 ·grind
 ·refine vk 0
 rintro i ⟨h1,h2⟩;rcases AM i fs.length with h3|h3
 ·have hf:fs.getD i As∈fs:=by rw[AC,AD h3];exact A0 h3
  have hk:=key_c x (fs.getD i As).1 m _ hm rfl lm (by have:=(hcs _ hf).1;omega) (hcs _ hf).2 hv;have hs:=zXr (λf:List Nat×List (List Va)=>decide (zR x f.1∈f.2)) As fs i h3;rw[h2,Bool.true_and]at hs;have hg:=zJ0 zLw fs i h3;have hle:=zFe zLw fs i h3;have hne:=zFd zLw (by decide) fs;generalize hfe:fs.getD i As=f at*;focus
   refine vAu (zB (vT ((i:Int)<↑(Aa fs)) (vKB (vA (vr 2 (ix ↑i ↑(Aa fs) (AH flC fs≠[])/\2<=Aa (Ag (i*2) (AH flC fs))) (vs 12 (AF (An 2 (Ag (i*2) (AH flC fs)))) (AF (flC f)) (hd:=by simp(disch:=omega) only[hg]) (ve (Ac=Ac/\Ab=Ab/\2=2/\2<=2) (zB (vd [0,2,3,1,4,5,6,7] (vr 5 (True/\True/\0<1/\0<2) (vc hk (vwh 1 [] [] (zT (A9 (A_ Ba "string" 1 16 Ab 8 8 (Ai (AO (AW #[]))) Ab #[])) (AO (bs (idR (zR x (Bf f)))))=Ab/\BK (Ad kyv (BD f)) (zT (A9 (A_ Ba "string" 1 16 Ab 8 8 (Ai (AO (AW #[]))) Ab #[])))=Ab) ?_ ?_))))))))))));rotate_left;refine vs 19 (zEz Ac (bD Ac) (Ad kyv (BD f)) (Ad (λ(x:List Va)=>bD Ab) (BD f)) (AO (bs (idR (zR x (Bf f)))))) (bD (decide (zR x (Bf f)∈BD f))) (hd:=by simp(disch:=omega) only[look_b]) (veT (zAr (t:=!decide (zR x (Bf f)∈BD f)) (by kernel_rfl) (λhc=>?_) (λhc=>?_)));simp only[B_]at hc;refine vAe (zJ (zN (zH (zH (zN (zH (vre (True) (Aj (Bn Ac)) (.inr rfl) ?_)))))));rotate_left;simp only[Bool.not_eq_false']at hc;refine zK (zE (vN (zA rfl (vr 2 (i6 (↑i+1)) (vnil (zC ?_))))));rotate_left
  ·exact⟨rfl,zFp _⟩
  ·grind
  refine⟨i+1,⟨by omega,?_⟩,by omega,?_⟩
  ·rw[hs];simpa using hc
  refine vk 0
 refine vAu<|zB<|vF ((i:Int)<(Aa fs:Int))<|vZ2<|vAe<|zJ<|vre (True) (Aj<|Bn Ab) (.inr rfl) ?_;grind
def addK(K:List (List Va))(r:List Va):List (List Va):=if r∈K then K else K++[r]
def allK(L:List (List Va)):List (List Va):=L.foldl addK []
theorem zKq(L:List (List Va))(r:List Va):r∈allK L↔r∈L:=by
 have key:∀(L K:List (List Va)),r∈L.foldl addK K↔r∈K\/r∈L:=by
  intro L;induction L<;>grind [addK,Bu]
 rw[allK,key];simp
theorem allK_succ(L:List (List Va))(i:Nat)(h:i<L.length):allK (L.take (i+1))=addK (allK (L.take i)) (L.getD i []):=by
 grind [Bb,allK,AD]
abbrev mapB(K:List (List Va)):Bk:=⟨K.map λ_=>bD Ab,194,0,Ab,Ac, .map (K.map kyv)⟩
theorem mput_b(K:List (List Va))(r:List Va):mput (mapB K) (K.map kyv) (kyv r) (bD Ab)=mapB (addK K r):=by
 unfold mput addK;rw[zC6];cases e:K.findIdx? λs=>decide (r=s)with
 |none=>
  grind
 | some i=>
  rw[CH]at e;obtain⟨h,h1,_⟩:=e;have:r∈K:=by
   grind
  rw[if_pos this];simp only[mapB];congr 1;apply BH (by simp);grind
end
section
open Go.RowKit Go.Sort Go.Lib Go.Shelf
theorem pdq_ints{st:List Bk}{k n lim:Nat}{e:Bk}{wh:Bool}{zs:List Nat}{cf:Nat->Nat->Int}{g:FuncId}{caps caps':List D}{ks:List Nat}(he:st[k]?=Ai e)(ha:e.arr=Ab)(hkd:e.kd= .plain)(hf:e.fz=Ac)(hc:e.cells=nsD zs)(hn:zs.length=n)(hb:n<=1000000)(hpos:0<n)(hlim:lim<4611686018427387904)
  (hfr:frz Ab st zAu (.clo (.func g) [] caps)=Ai (.clo (.func g) [] caps',ks))(hnk:k∉ks)(eg:∀args w,(callFunc g args).run Ap w= .ok (.enter g args) w)
  (hO:On zs cf)(hcmp:∀x∈zs,∀y∈zs,Pure Ap g (iD x::iD y::caps') [] (iD (cf x y))):
  Acts Ap 157 [.osl k 0 n n wh, .val (.int .i64 (0:Nat)), .val (.int .i64 n), .val (.int .i64 lim), .clo (.func g) [] caps] st [] (.val (.tuple #[])) ((zAo st ks).set k {e with cells:=nsD (zDp cf zs)}):=by
 have hsl:(zDp cf zs).length=n:=by rw[(zB3 cf zs).length_eq,hn]
 refine zNk (us3:=[.int .i64 0, .int .i64 n, .int .i64 lim]) he ha hkd hf (by rw[hc,AN,hn]) (by rw[AN,hsl]) hpos hfr hnk ?_;intro I b c w us cb hi hgl hno hcb hr hcur hcell hfz hcap;rw[hc]at hr;let α:={z//z∈zs};let xs:List α:=zs.attach;let enc:α->Value:=λx=> .int .i64 (x.1:Nat);have hat:xs.map (·.1)=zs:=List.attach_map_subtype_val zs;have hxl:xs.length=n:=by rw[<-hn,<-AN (f:=λz:α=>z.1),hat]
 have hus:us=xs.map enc:=by
  have:∀(zs:List Nat)(us:List Value),RelL I w noB (nsD zs) us->us=zs.map λz=>Al .i64 (z:Nat):=by
   intro zs;induction zs with
   |nil=>intro us h;simp only[BY,RelL]at h;rw[h];rfl
   |cons z zs ih=>
    intro us h;simp only[Bs,RelL,Rel]at h;grind
  rw[this zs us hr];conv=>lhs;rw[<-hat,BE]
  rfl
 obtain⟨x0,hx0⟩:∃x0,xs[0]?=Ai x0:=⟨xs[0]'(by omega),AD (by omega)⟩
 haveI:Inhabited α:=⟨x0⟩;have hH:Holds enc w b 0 xs.toArray:=λj hj=>by
  grind
 obtain⟨cur,t,hcur⟩:=hcur;have hblk:b<w.heap.size:=by
  grind
 have hone:OneCell enc:=λx=>rfl;have hworld:∀(m:Nat)(os:Array Obj)(ys:List α),ys.length=n->sortWorld enc w b 0 m ys.toArray os=grow ((w.drewN m).setCells b 0 (ys.map enc)) os:=λm os ys hy=>by
  unfold sortWorld;rw[putRow_eq_setCells enc w b 0 xs.toArray ys m hH (by simp[hy,hxl])]
 have hfix:∀(m:Nat)(os:Array Obj)(dk:Array α),dk.size=n->Fix I w I (sortWorld enc w b 0 m dk os)/\w.heap.size<=(sortWorld enc w b 0 m dk os).heap.size:=λm os dk hd=>by
  have e1:=hworld m os dk.toList (by simpa using hd);simp only[CB]at e1;rw[e1];obtain⟨s1,s2,s3,s4,s5,s6⟩:=zC5 b t (dk.toList.map enc) 0 (w.drewN m) cur.toList (by simpa using hcur);refine⟨λb' o' hb'=>?_,?_⟩
  ·have hne:b'≠b:=λe=>hno o' (e▸hb');have hlt:=hi b' o' hb';refine⟨hb',λv hv=>?_,λks vs hm=>?_⟩
   ·simp only[World.cell?]at hv⊢;rw[zCx _ os (by rw[s3];exact hlt),s2 b' hne];exact hv
   refine hm.of_heap ?_;rw[zCx _ os (by rw[s3];exact hlt),s2 b' hne];rfl
  simp_all
 have hcmp:CmpLays1 Ap g cb.toArray enc (λx y:α=>cf x.1 y.1) b 0 xs.toArray.size w:=by
  intro m os dk hd x y;have hd':dk.size=n:=by simpa[hxl]using hd
  obtain⟨hfx,hsz⟩:=hfix m os dk hd';have hr2:RelT I (sortWorld enc w b 0 m dk os) noB (iD (x.1:Nat)::iD (y.1:Nat)::caps') (enc x::enc y::cb):=by
   simp only[RelT,Rel];exact⟨_,_,rfl,rfl,_,_,rfl,rfl,RelT.mono hfx noB noB (BeLe.refl _) _ _ hcb⟩
  have e1:(#[enc x,enc y]++cb.toArray)=(enc x::enc y::cb).toArray:=by apply Array.ext';simp
  rw[e1];refine(hcmp x.1 x.2 y.1 y.2 I _ _ hr2 (λb o h=>Nat.lt_of_lt_of_le (hi b o h) hsz) (hgl.mono hfx)).mono ?_;rintro e' w' ⟨v,I',γ,rfl,hx,_,_,_,_,_,_,_,_,hv,_⟩;simp only[Rel]at hv;grind [zW9]
 have hsz:xs.toArray.size=n:=by simp[hxl]
 have main:=Tryz.pdqsortCmpFunc_all enc (λx y:α=>cf x.1 y.1) g cb.toArray hO.swo b 0 c xs.toArray w eg hcmp ⟨hone,hH,hblk⟩ (n+1) 0 n lim xs.toArray w (by omega) rfl (SW.start hH) (BF _) (by omega) (by omega) hlim (.inl rfl);rw[hsz]at main;refine main.mono ?_;rintro x w' ⟨rfl,q,os,rfl⟩;obtain⟨hp,hso⟩:=pdq_sorts (ltOf λx y:α=>cf x.1 y.1) hO.swo xs.toArray 0 n lim Ab Ab (BF _) (by omega) (.inl rfl);generalize pdq (ltOf λx y:α=>cf x.1 y.1) xs.toArray 0 n lim Ab Ab=d' at*;have hd':d'.size=n:=by rw[hp.1,hsz]
 have hperm:d'.toList.Perm xs:=by
  have:=hp.2.2
  grind [Array.extract_size]
 have hl2:d'.toList.map (·.1)=zDp cf zs:=by
  refine hO.uniq ?_ ?_
  ·grind
  rw[CA,CC];intro i j hi' hj' hij;have hi2:i<d'.size:=by simpa using hi'
  have hj2:j<d'.size:=by simpa using hj'
  have:=hso i j (BF _) hij (by omega)
  rw[getElem!_pos d' j hj2,getElem!_pos d' i hi2]at this;simpa[ltOf]using this
 refine⟨rfl,d'.toList.map enc,q,os,?_,?_⟩
 ·simp_all
 rw[<-hl2];have:∀(l:List α),RelL I w noB (nsD (l.map (·.1))) (l.map enc):=by
  intro l;induction l with
  |nil=>simp only[BY,RelL]
  |cons x l ih=>
   simp only[Bs,RelL,Rel];exact⟨_,_,rfl,rfl,rfl,by simpa using ih⟩
 exact this _
end
section
open Go.RowKit
attribute [local irreducible] seqW awp zW zX zP Weak updS zZ retL Pure Acts rP setP setQ cP nP fr
set_option maxRecDepth 4096
theorem blen_c(n:Nat)(hn:n<18446744073709551616):Pure Ap 86 [.val (.int .u64 n)] [] (.val (.int .i64 (Bt n))):=
 zCl (us:=[.int .u64 n]) (λw=>(Tryz.bits_Len n w (by omega) (by omega)).mono λe w' h=>⟨by rw[h.1];simp,h.2.symm⟩)
theorem zBg(l:List (List Va))(k:Nat)(h:k<l.length):((l.map rowV).drop k).headD .unk=rowV (l.getD k []):=zA2 rowV l [] k h
def Ts:Par:=⟨λf=>f==144||f==157||f==162,λ_ _=>Ax,λk=>decide (k<3),λ_=>Ac,λ_=>Ac⟩
theorem Ts_ok:zBi Ap Ts:=by intro t n f h;cases h
theorem keep3{st:List Bk}(h:st.length=3):∀k,k<st.length->Ts.keep k=true:=λk hk=>by
 show decide (k<3)=Ab;rw[decide_eq_true_eq];omega
theorem keep3F:∀k,3<=k->Ts.keep k=false:=λk hk=>by
 show decide (k<3)=Ac;rw[decide_eq_false_iff_not];omega
theorem repL_ns(n:Nat):repL n [.val (.int .i64 0)]=nsD (Bx n 0):=by
 induction n with
 |zero=>rfl
 |succ n ih=>simp only[repL,List.replicate_succ,List.flatten_cons]at ih⊢;rw[ih];rfl
theorem set_ns(l:List Nat)(i k:Nat):(nsD l).set i (iD k)=nsD (l.set i k):=by simp
abbrev rowB(l:List D):Bk:=⟨l,29,1,Ab,Ac, .plain⟩
def Tq:Par:=⟨λf=>f==144,λ_ _=>Ax,λ_=>Ac,λ_=>Ac,λ_=>Ac⟩
theorem Tq_ok:zBi Ap Tq:=by intro t n f h;cases h
abbrev rwsD(l:List (Rw×Nat)):List D:=(l.map (·.1)).map rowV
abbrev vlsD(l:List (Rw×Nat)):List D:=(l.map (·.2)).map natD
theorem srtL_len{α:Type}[Inhabited α]{l:List (Rw×α)}(h:Ndk l):(srtL l).length=l.length:=by
 rw[<-zFy h,AN,(zB3 _ _).length_eq];simp
noncomputable abbrev Tc:Par:=TM Ap (λ_=>Ac) (λ_=>Ac)
abbrev mapI(K:List Rw):Bk:=⟨nsD (Av K.length),216,0,Ab,Ac, .map (K.map kyv)⟩
theorem mput_i(K:List Rw)(r:Rw)(h:r∉K):mput (mapI K) (K.map kyv) (kyv r) (iD K.length)=mapI (K++[r]):=by
 unfold mput;rw[zC6,zBk,if_neg h];simp[Ck]
def Sb:Sr Bool:=⟨or,and,Ab,by decide,by decide,by decide,by decide,by decide,by decide⟩
def g0(n:Nat):Bool:=decide (0<n)
theorem hmB:Hm Sn Sb g0 where
 add a b:=by
  show decide (0<a+b)=(decide (0<a)||decide (0<b))
  rw[<-Bool.decide_or,decide_eq_decide];omega
 mul a b:=by
  show decide (0<a*b)=(decide (0<a)&&decide (0<b))
  rw[<-Bool.decide_and,decide_eq_decide]
  constructor
  ·intro h
   exact⟨Nat.pos_of_mul_pos_right h,Nat.pos_of_mul_pos_left h⟩
  intro h
  exact Nat.mul_pos h.1 h.2
 one:=rfl
def bz(f:Fa Bool):Nat:=1
theorem zMd(f:Fa Bool):1<=bz f:=AY _
theorem zTf{c:Rw->Rw->Int}(f g:Fa Bool)(os:List (Fa Bool)):bz (fmul c Sb f g os)<=bz f*bz g:=AY _
theorem fsum_bz{c:Rw->Rw->Int}(v:Nat)(f:Fa Bool):bz (fsum c Sb v f)<=bz f:=AY _
def okB(_:Bool):Prop:=True
theorem bz_ok{f:Fa Bool}(h:bz f<=Bz):∀p∈f.l,okB p.2:=λ_ _=>trivial
theorem sum_okB{f:Fa Bool}(h:bz f<=Bz)(φ:Rw->Rw)(i:Nat):∀x∈(sumT Sb.add [] ((f.l.map λp=>(φ p.1,p.2)).take i)).map (·.2),okB x:=λ_ _=>trivial
theorem zadB(w:Bool):Sb.add Ac w=w:=rfl
theorem zokB:okB false:=trivial
abbrev booD:D:= .ifc 129 (.agg [])
theorem zHq(l:List Bool)(i:Nat)(h:i<l.length):((l.map bD).drop i).headD .unk=bD (l.getD i Ac):=by
 rw[zA2 bD l Ac i h]
theorem bzero_c(z:Bool)(hz:z=Ac):Pure Ap 204 [.agg []] [] (bD z):=by
 subst hz;refine zG zAm mixed Tryz.func204 rfl ?_;refine zB<|zA rfl<|v0s<|veT<|zB<|zA rfl<|veT<|zJ<|vret (True)<|.inr rfl
theorem bone_c(o:Bool)(ho:o=Ab):Pure Ap 203 [.agg []] [] (bD o):=by
 subst ho;refine zG zAm mixed Tryz.func203 rfl ?_;refine zB<|zA rfl<|v0s<|veT<|zB<|zA rfl<|veT<|zJ<|vret (True)<|.inr rfl
theorem badd_c(a b:Bool)(ha:okB a)(hb:okB b):Pure Ap 201 [.agg [],bD a,bD b] [] (bD (Sb.add a b)):=by
 cases a
 ·cases b
  ·refine zG zAm mixed Cd rfl ?_;refine zB<|zA rfl<|v0s<|veT<|zB<|zA rfl<|veT<|zJ<|vret (True)<|.inr rfl
  refine zG zAm mixed Cd rfl ?_;refine zB<|zA rfl<|v0s<|veT<|zB<|zA rfl<|veT<|zJ<|vret (True)<|.inr rfl
 cases b
 ·refine zG zAm mixed Cd rfl ?_;refine zB<|zA rfl<|v0s<|veT<|zB<|zA rfl<|veT<|zJ<|vret (True)<|.inr rfl
 refine zG zAm mixed Cd rfl ?_;refine zB<|zA rfl<|v0s<|veT<|zB<|zA rfl<|veT<|zJ<|vret (True)<|.inr rfl
theorem bmul_c(a b:Bool)(ha:okB a)(hb:okB b):Pure Ap 202 [.agg [],bD a,bD b] [] (bD (Sb.mul a b)):=by
 cases a
 ·cases b
  ·refine zG zAm mixed Ce rfl ?_;refine zB<|zA rfl<|v0s<|veT<|zB<|zA rfl<|veT<|zJ<|vret (True)<|.inr rfl
  refine zG zAm mixed Ce rfl ?_;refine zB<|zA rfl<|v0s<|veT<|zB<|zA rfl<|veT<|zJ<|vret (True)<|.inr rfl
 cases b
 ·refine zG zAm mixed Ce rfl ?_;refine zB<|zA rfl<|v0s<|veT<|zB<|zA rfl<|veT<|zJ<|vret (True)<|.inr rfl
 refine zG zAm mixed Ce rfl ?_;refine zB<|zA rfl<|v0s<|veT<|zB<|zA rfl<|veT<|zJ<|vret (True)<|.inr rfl
end
section
open Go.RowKit
theorem an_bit{a b:Nat}(ha:a<4294967296)(hb:b<4294967296)(i:Nat):((Au 32 (a:Int)&&&~~~Au 32 (b:Int)).toNat).testBit i=(a.testBit i&&!b.testBit i):=by
 have e:∀{c:Nat},c<4294967296->(Au 32 (c:Int)).getLsbD i=c.testBit i:=λ{c} hc=>by
  grind
 grind
theorem an_eq{a b d:Nat}(ha:a<4294967296)(hb:b<4294967296)(h:∀i,d.testBit i=(a.testBit i&&!b.testBit i)):(Au 32 (a:Int)&&&~~~Au 32 (b:Int)).toNat=d:=
 Nat.eq_of_testBit_eq λi=>by rw[an_bit ha hb,h]
theorem an_keep{n keep:Nat}(hn:n<=32)(hk:keep<4294967296):(Au 32 ((2^n-1:Nat):Int)&&&~~~Au 32 (keep:Int)).toNat=msk ((Av n).filter λv=>!keep.testBit v):=by
 have h2:2^n<=4294967296:=Nat.pow_le_pow_right (n:=2) (by omega) hn;refine an_eq (by omega) hk λi=>?_;rw[zBu,Nat.testBit_two_pow_sub_one,BI];simp
theorem an_less{E:List Nat}(hE:Asc E){v:Nat}(hv:v<32):(Au 32 ((msk E:Nat):Int)&&&~~~Au 32 ((2^v:Nat):Int)).toNat=msk (less E v):=by
 refine an_eq (zDg hE.2) (zF3 hv) λi=>?_;rw[zBu,zBu,Nat.testBit_two_pow,BI];simp only[Bg,B_,decide_eq_true_eq,decide_eq_false_iff_not,zDo];grind
theorem msk_ne{E:List Nat}(h:E≠[]):msk E≠0:=λe=>by
 cases E with
 |nil=>exact h rfl
 |cons v E=>
  have:=zBu (v::E) v
  rw[e,Nat.zero_testBit]at this;simp at this
theorem elim_len{α:Type}{c:Rw->Rw->Int}{S:Sr α}(v:Nat)(fs:List (Fa α)):(elim c S v fs).length<=fs.length:=by
 have hp:=(zDy v fs).length_eq;unfold elim;grind
def faT(a:List Nat×List Rw):Fa Bool:=⟨a.1,a.2.map λr=>(r,Ab)⟩
def SatA(A:List (List Nat×List Rw))(τ:Nat->Va):Prop:=∀a∈A,a.1.map τ∈a.2
theorem kv_T:∀(R:List Rw)(r:Rw),kv (R.map λr=>(r,Ab)) r=if r∈R then Ai Ab else Ax
 |[],r=>by simp[kv]
 | x ::R,r=>by
  have ih:=kv_T R r;show(if x=r then Ai Ab else kv (R.map λr=>(r,Ab)) r)=_;by_cases h:x=r
  ·rw[if_pos h,if_pos (by rw[h];exact BL ..)]
  rw[if_neg h,ih];by_cases h2:r∈R
  ·rw[if_pos h2,if_pos (Bu _ h2)]
  rw[if_neg h2,if_neg (λk=>by
   rcases A3.1 k with k|k
   ·exact h k.symm
   exact h2 k)]
theorem proF_T{τ:Nat->Va}:∀{A:List (List Nat×List Rw)},SatA A τ->proF Sb (A.map faT) τ=Ai Ab
 |[],_=>rfl
 |a::A,h=>by
  have h1:=h a (BL ..);have ih:=proF_T λb hb=>h b (Bu _ hb);show omul Sb.mul (kv (a.2.map λr=>(r,Ab)) (a.1.map τ)) (proF Sb (A.map faT) τ)=_;rw[ih,kv_T,if_pos h1];rfl
theorem proF_F{τ:Nat->Va}:∀{A:List (List Nat×List Rw)},¬SatA A τ->proF Sb (A.map faT) τ=Ax
 |[],h=>absurd (λa ha=>by cases ha) h
 |a::A,h=>by
  show omul Sb.mul (kv (a.2.map λr=>(r,Ab)) (a.1.map τ)) (proF Sb (A.map faT) τ)=_;rw[kv_T];by_cases h1:a.1.map τ∈a.2
  ·rw[if_pos h1,proF_F λk=>h λb hb=>by
    rcases A3.1 hb with rfl|hb
    ·exact h1
    exact k b hb];rfl
  rw[if_neg h1];rfl
def NT(x:Option Bool):Prop:=x=Ax\/x=Ai Ab
theorem osum_T:∀{l:List (Option Bool)},(∀x∈l,NT x)->NT (osum Sb l)/\(osum Sb l=Ai Ab↔Ai Ab∈l)
 |[],_=>⟨.inl rfl,by constructor<;>intro h<;>cases h⟩
 | x::l,h=>by
  obtain⟨h1,h2⟩:=osum_T λy hy=>h y (Bu _ hy);rw[zDe];rcases h x (BL ..)with rfl|rfl
  ·refine⟨h1,?_⟩;show osum Sb l=Ai Ab↔_;rw[h2,A3];exact⟨.inr,λk=>k.resolve_left (λe=>by cases e)⟩
  have e:oadd Sb.add (Ai Ab) (osum Sb l)=Ai true:=by
   rcases h1 with h1|h1<;>rw[h1]<;>rfl
  rw[e];exact⟨.inr rfl,λ_=>BL ..,λ_=>rfl⟩
theorem margs_T{Dm:List Va}:∀(vs:List Nat)(F:(Nat->Va)->Option Bool),vs.Nodup->(∀σ,NT (F σ))->∀σ,NT (zHf Sb Dm vs F σ)/\(zHf Sb Dm vs F σ=Ai Ab↔∃τ,(∀v,v∉vs->τ v=σ v)/\(∀v∈vs,τ v∈Dm)/\F τ=Ai Ab)
 |[],F,_,hF,σ=>⟨hF σ,λh=>⟨σ,λ_ _=>rfl,λv hv=>(by cases hv),h⟩,λ⟨τ,h1,_,h3⟩=>by
  have:τ=σ:=funext λv=>h1 v (λk=>by cases k);rw[this]at h3;exact h3⟩
 | v ::vs,F,hn,hF,σ=>by
  obtain⟨hv,hn⟩:=List.nodup_cons.1 hn;have hG:∀σ,NT (osum Sb (Dm.map λx=>F (upd σ v x)))/\(osum Sb (Dm.map λx=>F (upd σ v x))=Ai Ab↔∃x∈Dm,F (upd σ v x)=Ai Ab):=λσ=>by
   obtain⟨h1,h2⟩:=osum_T (l:=Dm.map λx=>F (upd σ v x)) λy hy=>by
    obtain⟨x,_,rfl⟩:=AG.1 hy;exact hF _
   exact⟨h1,by rw[h2,AG]⟩
  obtain⟨h1,h2⟩:=margs_T vs (λσ=>osum Sb (Dm.map λx=>F (upd σ v x))) hn (λσ=>(hG σ).1) σ;refine⟨h1,?_⟩;show zHf Sb Dm vs (λσ=>osum Sb (Dm.map λx=>F (upd σ v x))) σ=Ai Ab↔_;rw[h2];constructor
  ·rintro⟨τ,k1,k2,k3⟩;obtain⟨x,hx,k4⟩:=(hG τ).2.1 k3;refine⟨upd τ v x,λw hw=>?_,λw hw=>?_,k4⟩
   ·rw[A3,not_or]at hw;show(if w=v then x else τ w)=σ w;rw[if_neg hw.1];exact k1 w hw.2
   show(if w=v then x else τ w)∈Dm;split
   ·exact hx
   rename_i hne;exact k2 w ((A3.1 hw).resolve_left hne)
  rintro⟨τ,k1,k2,k3⟩;refine⟨upd τ v (σ v),λw hw=>?_,λw hw=>?_,(hG _).2.2 ⟨τ v,k2 v (BL ..),?_⟩⟩
  ·show(if w=v then σ v else τ w)=σ w;split
   ·rename_i e;rw[e]
   rename_i e;exact k1 w (λk=>(A3.1 k).elim e hw)
  ·show(if w=v then σ v else τ w)∈Dm;rw[if_neg (λe=>hv (by rw[e]at hw;exact hw))];exact k2 w (Bu _ hw)
  have e:upd (upd τ v (σ v)) v (τ v)=τ:=funext λw=>by
   show(if w=v then τ v else if w=v then σ v else τ w)=τ w;split
   ·rename_i e;rw[e]
   rfl
  rw[e];exact k3
section
variable {pop : Nat → Nat} {n : Nat} {Dm : List Va} {A : List (List Nat × List Rw)} (hD : Dm.Nodup) (hf : ∀ a ∈ A, FOk rcmp Dm (faT a)) (hlt : ∀ a ∈ A, ∀ v ∈ a.1, v < n) (hcv : ∀ v, v < n → ∃ a ∈ A, v ∈ a.1)
include hD hf hlt hcv
theorem marg_T(k:Nat)(σ:Nat->Va):NT (den (zEy pop rcmp Sb (A.map faT) ((Av n).filter λv=>!k.testBit v)) σ)/\(den (zEy pop rcmp Sb (A.map faT) ((Av n).filter λv=>!k.testBit v)) σ=Ai Ab↔∃τ,(∀v,v<n->k.testBit v=Ab->τ v=σ v)/\SatA A τ):=by
 have hEn:((Av n).filter λv=>!k.testBit v).Nodup:=Ca.filter _;have hok:∀g∈A.map faT,FOk rcmp Dm g:=λg hg=>by
  obtain⟨a,ha,rfl⟩:=AG.1 hg;exact hf a ha
 have hEm:∀v,v∈(Av n).filter (λv=>!k.testBit v)↔v<n/\k.testBit v=false:=λv=>by simp
 have hEc:∀v∈(Av n).filter (λv=>!k.testBit v),∃f∈A.map faT,v∈f.A:=λv hv=>by
  obtain⟨a,ha,h⟩:=hcv v ((hEm v).1 hv).1;exact⟨faT a,AG.2 ⟨a,ha,rfl⟩,h⟩
 rw[margP_den rcw hD hEn hok hEc];have hNT:∀σ,NT (proF Sb (A.map faT) σ):=λσ=>by
  by_cases h:SatA A σ
  ·exact .inr (proF_T h)
  exact .inl (proF_F h)
 obtain⟨h1,h2⟩:=margs_T (Dm:=Dm) _ _ hEn hNT σ;refine⟨h1,?_⟩;rw[h2];constructor
 ·rintro⟨τ,k1,_,k3⟩;refine⟨τ,λv hv hb=>k1 v (λhm=>?_),Bv λhs=>by rw[proF_F hs]at k3;cases k3⟩
  have:=((hEm v).1 hm).2
  rw[hb]at this;cases this
 rintro⟨τ,k1,k3⟩;refine⟨λv=>if v<n then τ v else σ v,λv hv=>?_,λv hv=>?_,proF_T λa ha=>?_⟩
 ·dsimp only;split
  ·rename_i hl;refine k1 v hl (Bv λhb=>hv ((hEm v).2 ⟨hl,by simpa using hb⟩))
  rfl
 ·have hl:=((hEm v).1 hv).1;obtain⟨a,ha,hva⟩:=hcv v hl
  have:=(hf a ha).dom (a.1.map τ,Ab) (AG.2 ⟨_,k3 a ha,rfl⟩) (τ v) (AG.2 ⟨v,hva,rfl⟩)
  dsimp only;rw[if_pos hl];exact this
 have e:a.1.map (λv=>if v<n then τ v else σ v)=a.1.map τ:=BM λv hv=>if_pos (hlt a ha v hv);rw[e];exact k3 a ha
theorem tot_T:((zEy pop rcmp Sb (A.map faT) ((Av n).filter λv=>!(0:Nat).testBit v)).l.map (·.2)).headD Ac=Ab↔∃τ,SatA A τ:=by
 have hEn:((Av n).filter λv=>!(0:Nat).testBit v).Nodup:=Ca.filter _;have hok:∀g∈A.map faT,FOk rcmp Dm g:=λg hg=>by
  obtain⟨a,ha,rfl⟩:=AG.1 hg;exact hf a ha
 have hEm:∀v,v∈(Av n).filter (λv=>!(0:Nat).testBit v)↔v<n:=λv=>by simp
 have hEc:∀v∈(Av n).filter (λv=>!(0:Nat).testBit v),∃f∈A.map faT,v∈f.A:=λv hv=>by
  obtain⟨a,ha,h⟩:=hcv v ((hEm v).1 hv);exact⟨faT a,AG.2 ⟨a,ha,rfl⟩,h⟩
 have hk:=zWn (pop:=pop) (S:=Sb) rcw hD hEn hok hEc;have hA:(zEy pop rcmp Sb (A.map faT) ((Av n).filter λv=>!(0:Nat).testBit v)).A=[]:=by
  rw[List.eq_nil_iff_forall_not_mem];intro w hw;obtain⟨⟨f,hf',h3⟩,h4⟩:=(margP_A (pop:=pop) (S:=Sb) rcw hD hEn hok hEc w).1 hw;obtain⟨a,ha,rfl⟩:=AG.1 hf';exact h4 ((hEm w).2 (hlt a ha w h3))
 obtain⟨h1,h2⟩:=marg_T hD hf hlt hcv 0 (λ_=>As);have h3:(∃τ:Nat->Va,(∀v,v<n->(0:Nat).testBit v=Ab->τ v=As)/\SatA A τ)↔∃τ,SatA A τ:=⟨λ⟨τ,_,h⟩=>⟨τ,h⟩,λ⟨τ,h⟩=>⟨τ,λv _ hb=>by simp at hb,h⟩⟩;rw[h3]at h2;rw[<-h2];unfold den;unfold den at h1;rw[hA]at h1⊢;have h1:NT (kv (zEy pop rcmp Sb (A.map faT) ((Av n).filter λv=>!(0:Nat).testBit v)).l []):=h1;show _↔kv (zEy pop rcmp Sb (A.map faT) ((Av n).filter λv=>!(0:Nat).testBit v)).l []=Ai Ab;generalize zEy pop rcmp Sb (A.map faT) ((Av n).filter λv=>!(0:Nat).testBit v)=m at*;cases hm:m.l with
 |nil=>exact⟨λh=>(by cases h),λh=>(by cases h)⟩
 |cons p l=>
  have hp:=hk.len p (by rw[hm];exact BL ..);rw[hA]at hp;have e:p.1=[]:=List.length_eq_zero_iff.1 hp;obtain⟨r,b⟩:=p;have e:r=[]:=e;subst e;show b=Ab↔(if([]:Rw)=[]then Ai b else _)=Ai Ab;rw[if_pos rfl];exact⟨λh=>by rw[h],λh=>B4.inj h⟩
theorem lst_T(h0:0<n):∃m:Fa Bool,m=zEy pop rcmp Sb (A.map faT) ((Av n).filter λv=>!(1:Nat).testBit v)/\FOk rcmp Dm m/\m.A=[0]/\∀x,[x]∈m.l.map (·.1)↔∃τ,τ 0=x/\SatA A τ:=by
 have hEn:((Av n).filter λv=>!(1:Nat).testBit v).Nodup:=Ca.filter _;have hok:∀g∈A.map faT,FOk rcmp Dm g:=λg hg=>by
  obtain⟨a,ha,rfl⟩:=AG.1 hg;exact hf a ha
 have hb:∀v,(1:Nat).testBit v=decide (v=0):=λv=>by
  cases v with
  |zero=>rfl
  |succ v=>rw[Nat.testBit_succ];simp
 have hEm:∀v,v∈(Av n).filter (λv=>!(1:Nat).testBit v)↔v<n/\v≠0:=λv=>by simp[hb]
 have hEc:∀v∈(Av n).filter (λv=>!(1:Nat).testBit v),∃f∈A.map faT,v∈f.A:=λv hv=>by
  obtain⟨a,ha,h⟩:=hcv v ((hEm v).1 hv).1;exact⟨faT a,AG.2 ⟨a,ha,rfl⟩,h⟩
 have hk:=zWn (pop:=pop) (S:=Sb) rcw hD hEn hok hEc;have hA:(zEy pop rcmp Sb (A.map faT) ((Av n).filter λv=>!(1:Nat).testBit v)).A=[0]:=by
  refine Asc.ext hk.asc ⟨CD ..,λv hv=>by rw[BV.1 hv];omega⟩ λw=>?_;rw[margP_A (pop:=pop) (S:=Sb) rcw hD hEn hok hEc,BV];constructor
  ·rintro⟨⟨f,hf',h3⟩,h4⟩;obtain⟨a,ha,rfl⟩:=AG.1 hf';exact Bv λhw=>h4 ((hEm w).2 ⟨hlt a ha w h3,hw⟩)
  rintro rfl;obtain⟨a,ha,h⟩:=hcv 0 h0;exact⟨⟨faT a,AG.2 ⟨a,ha,rfl⟩,h⟩,λh=>((hEm 0).1 h).2 rfl⟩
 refine⟨_,rfl,hk,hA,λx=>?_⟩;obtain⟨h1,h2⟩:=marg_T hD hf hlt hcv 1 (λ_=>x);have h3:(∃τ:Nat->Va,(∀v,v<n->(1:Nat).testBit v=Ab->τ v=x)/\SatA A τ)↔∃τ,τ 0=x/\SatA A τ:=⟨λ⟨τ,h,h'⟩=>⟨τ,h 0 h0 (by rw[hb];rfl),h'⟩,λ⟨τ,h,h'⟩=>⟨τ,λv _ hv=>by
  rw[hb]at hv;rw[of_decide_eq_true hv];exact h,h'⟩⟩
 rw[h3]at h2;rw[<-h2];unfold den;unfold den at h1;rw[hA]at h1⊢;show _↔kv _ [x]=Ai Ab;have h1:NT (kv (zEy pop rcmp Sb (A.map faT) ((Av n).filter λv=>!(1:Nat).testBit v)).l [x]):=h1;generalize zEy pop rcmp Sb (A.map faT) ((Av n).filter λv=>!(1:Nat).testBit v)=m at*;rcases h1 with h|h
 ·rw[h];exact⟨λk=>absurd k (zLp.1 h),λk=>(by cases k)⟩
 rw[h];exact⟨λ_=>rfl,λ_=>Bv λk=>by rw[zLp.2 k]at h;cases h⟩
end
def selC(i:Nat)(v:Va)(R:List Rw):List Rw:=R.filter λr=>decide (r.getD i As=v)
def rstF(p:Rw):List Nat->Nat->List Rw->List Nat×List Nat×List Rw
 |[],_,R=>([],[],R)
 |v::V,i,R=>if p.length<=v then((v-p.length)::(rstF p V (i+1) R).1,i::(rstF p V (i+1) R).2.1,(rstF p V (i+1) R).2.2)else rstF p V (i+1) (selC i (p.getD v As) R)
def shf(p:Rw)(τ:Nat->Va)(v:Nat):Va:=if v<p.length then p.getD v As else τ (v-p.length)
theorem zK2(p:Rw):∀(V:List Nat)(i:Nat)(R:List Rw)(r:Rw),r∈(rstF p V i R).2.2->r∈R
 |[],_,_,_,h=>h
 |v::V,i,R,r,h=>by
  unfold rstF at h;split at h
  ·exact zK2 p V (i+1) R r h
  exact(Bq.1 (zK2 p V (i+1) _ r h)).1
theorem zNu(p:Rw):∀(V:List Nat)(i:Nat)(R:List Rw),(rstF p V i R).2.2.Sublist R
 |[],_,_=>List.Sublist.refl _
 |v::V,i,R=>by
  unfold rstF;split
  ·exact zNu p V (i+1) R
  exact(zNu p V (i+1) _).trans List.filter_sublist
theorem zG6(p:Rw):∀(V:List Nat)(i:Nat)(R:List Rw),(rstF p V i R).1=(V.filter λv=>decide (p.length<=v)).map λv=>v-p.length
 |[],_,_=>rfl
 |v::V,i,R=>by
  unfold rstF;by_cases h:p.length<=v
  ·rw[if_pos h,B6,if_pos (decide_eq_true h),Bs,zG6 p V (i+1) R]
  rw[if_neg h,B6,if_neg (by simpa using h),zG6 p V (i+1) _]
theorem zNv(p:Rw):∀(V:List Nat)(i:Nat)(R:List Rw),(rstF p V i R).2.1.length=(rstF p V i R).1.length
 |[],_,_=>rfl
 |v::V,i,R=>by
  unfold rstF;split
  ·rw[Bh,Bh,zNv p V]
  exact zNv p V _ _
theorem zKd(p:Rw):∀(V:List Nat)(i:Nat)(R:List Rw),∀c∈(rstF p V i R).2.1,i<=c/\c<i+V.length
 |[],_,_,c,h=>by cases h
 | v::V,i,R,c,h=>by
  unfold rstF at h;rw[Bh];split at h
  ·rcases A3.1 h with rfl|h
   ·omega
   have:=zKd p V _ _ c h;omega
  have:=zKd p V _ _ c h;omega
theorem zKc(p:Rw)(τ:Nat->Va)(r:Rw):∀(V:List Nat)(i:Nat)(R:List Rw),r.length=i+V.length->((r∈(rstF p V i R).2.2/\(rstF p V i R).2.1.map (λc=>r.getD c As)=(rstF p V i R).1.map τ)↔r∈R/\r.drop i=V.map (shf p τ))
 |[],i,R,h=>by
  rw[By,Nat.add_zero]at h;show(r∈R/\[]=[])↔r∈R/\r.drop i=[];rw[List.drop_of_length_le (by omega)]
 | v::V,i,R,h=>by
  rw[Bh]at h;have hi:i<r.length:=by omega
  have hd:r.drop i=r.getD i As::r.drop (i+1):=by
   rw[List.drop_eq_getElem_cons hi,AC,AD hi];rfl
  rw[hd,Bs,BP.injEq];unfold rstF;by_cases hv:p.length<=v
  ·have e:shf p τ v=τ (v-p.length):=if_neg (by omega);rw[if_pos hv,Bs,Bs,BP.injEq,e];have ih:=zKc p τ r V (i+1) R (by omega);constructor
   ·rintro⟨h1,h2,h3⟩;obtain⟨h4,h5⟩:=ih.1 ⟨h1,h3⟩;exact⟨h4,h2,h5⟩
   rintro⟨h1,h2,h3⟩;obtain⟨h4,h5⟩:=ih.2 ⟨h1,h3⟩;exact⟨h4,h2,h5⟩
  have e:shf p τ v=p.getD v default:=if_pos (by omega);rw[if_neg hv,e,zKc p τ r V (i+1) _ (by omega)];unfold selC;rw[Bq,decide_eq_true_eq];constructor
  ·rintro⟨⟨h1,h2⟩,h3⟩;exact⟨h1,h2,h3⟩
  rintro⟨h1,h2,h3⟩;exact⟨⟨h1,h2⟩,h3⟩
end
section
open Go.RowKit
attribute [local irreducible] seqW awp zW zX zP Weak updS zZ retL Pure Acts rP setP setQ cP nP fr
set_option maxRecDepth 4096
theorem zVh(a b:Va):Pure Ap 80 [vaD a,iD 0,vaD b] [] (if vok a=Ab/\vok b=Ab then .tup [bD (decide (vcmp a b=0)),iD 0]else .tup [bD Ac,iD 4]):=by
 have hva:=zNl a;have hvb:=zNl b;have hcm:=zH4 a b;cases ha:vok a
 ·rw[ha]at hva;rw[if_neg (λh=>by cases h.1)];refine zG zAm mixed Tryz.func80 rfl<|zB<|zA rfl<|v0s<|veT<|zB<|zB<|zA rfl<|veT<|vf<|zK<|zC<|zD<|zB<|zB<|zA rfl<|vr 1 (3<=3)<|vc (hva)<|veT<|vt<|zB<|zA rfl<|veT<|zJ<|zH<|vret (True)<|.inr rfl
 rw[ha]at hva;cases hb:vok b
 ·rw[hb]at hvb;rw[if_neg (λh=>by cases h.2)];refine zG zAm mixed Tryz.func80 rfl<|zB<|zA rfl<|v0s<|veT<|zB<|zB<|zA rfl<|veT<|vf<|zK<|zC<|zD<|zB<|zB<|zA rfl<|vr 1 (3<=3)<|vc (hva)<|vr 3 (3<=3)<|vc (hvb)<|veT<|vt<|zB<|zA rfl<|veT<|zJ<|zH<|vret (True)<|.inr rfl
 rw[hb]at hvb;rw[if_pos ⟨rfl,rfl⟩];refine zG zAm mixed Tryz.func80 rfl<|zB<|zA rfl<|v0s<|veT<|zB<|zB<|zA rfl<|veT<|vf<|zK<|zC<|zD<|zB<|zB<|zA rfl<|vr 1 (3<=3)<|vc (hva)<|vr 3 (3<=3)<|vc (hvb)<|veT<|vf<|zK<|zC<|zD<|zB<|zA rfl<|vr 2 (3<=3/\3<=3)<|vc (hcm)<|veT<|zB<|zB<|zA rfl<|veT<|zF<|zB<|zA rfl<|veT<|vt<|zB<|zA rfl<|veT<|zJ<|zN<|zH<|vret (True)<|.inr rfl
theorem sel1_c(x:Rw)(col:Nat)(v:Va)(h:col<x.length)(hx:vok (x.getD col As)=Ab)(hv:vok v=Ab)(b:Bool)(hb:decide (vcmp (x.getD col As) v=0)=b):Pure Ap 82 [rowV x, .ptr [iD (col:Nat)], .ptr [iD 0], .ptr (vaC v)] [] (bD b):=by
 have hh:=zVh (x.getD col As) v;rw[if_pos ⟨hx,hv⟩,hb]at hh;have hg:=zHx x col h;have hne:=zEk x (by omega);have hln:=zAp x;generalize x.getD col As=w at*;obtain⟨k,z,s⟩:=w;refine zG zAm mixed Tryz.func82 rfl<|zB<|zA rfl<|v0s<|veT<|zB<|vd [0,1,2,3,4,5,6,7,8,9,10,11]<|vr 3 (0<1/\ix (col:Int) (Aa x:Int) (zL x≠[]))<|vs 11 (A8<|Ag (AP (col:Int)*3)<|zL x) (A8 (iD k::iD z::strD s::zL (Ag (col+1) x))) (hd:=by simp(disch:=omega) only[BJ,BZ,Cp,hg])<|vr 3 (3<=Aa (iD k::iD z::strD s::zL (Ag (col+1) x))/\0<1/\3<=3)<|vc (hh)<|ve (0<2/\1<2)<|zB<|zA rfl<|veT<|zJ<|vret (True)<|.inr rfl
abbrev selK(col:Nat)(v:Va):D:= .clo (.func 82) [] [.ptr [iD (col:Nat)], .ptr [iD 0], .ptr (vaC v)]
abbrev relK(ar:Int)(x:D):Bk:=⟨[iD ar,x],43,0,Ac,Ac, .plain⟩
theorem zZw(col:Nat)(v:Va)(R:List Rw)(r:Rw):selC col v (R++[r])=if r.getD col As=v then selC col v R++[r]else selC col v R:=by
 unfold selC;rw[Cb];by_cases h:r.getD col As=v
 ·rw[if_pos h,B6,if_pos (decide_eq_true h)];rfl
 rw[if_neg h,B6,if_neg (by simpa using h)];simp
set_option maxHeartbeats 2000000 in
theorem filter_c(ar:Int)(R:List Rw)(col:Nat)(v:Va)(hb:R.length<=65536)(hl:∀r∈R,col<r.length/\vok (r.getD col As)=Ab)(hv:vok v=Ab):Pure Ap 81 [relD ar R,selK col v] [] (relD ar (selC col v R)):=by
 refine zG zAm mixed Tryz.func81 rfl<|zB<|zA rfl<|v0s<|veT<|zB<|zA rfl<|veT<|zB<|zB<|zA rfl<|ve (True/\0<1)<|zF<|zAw (λ(i:Nat)(a:List Rw)=>fr 33 [(1,selK col v),(2,Ao 0 0),(4,Ao 1 0),(5,Af 2 0 (Aa a) (Aa a) Ab),(9,iD (Aa R:Int)),(10,iD (i:Int))]) (λ(i:Nat)(a:List Rw)=>[relK ar<|.row (R.map rowV) R.length,relK 0 nl,⟨a.map rowV,29,1,Ab,Ac,.plain⟩]) (λi a=>R.length-i) (λ(i:Nat)(a:List Rw)=>i<=R.length/\a=selC col v (R.take i)) 0 [] ?_ ?_ ?_
 ·exact⟨by omega,rfl⟩
 ·refine vk 2
 rintro i a ⟨h1,h2⟩;have hal:a.length<=65536:=by
  rw[h2];unfold selC
  have:=Bd (λr:Rw=>decide (r.getD col As=v)) (R.take i)
  rw[CE]at this;omega
 rcases AM i R.length with h3|h3
 ·have hx:=zBm R i (h:=h3);have hne:R.map rowV≠[]:=zAb;have hm:=zAf R [] i h3;obtain⟨hc1,hc2⟩:=hl _ hm;have hsn:=zZw col v (R.take i) (R.getD i []);have htk:R.take (i+1)=R.take i++[R.getD i []]:=by
   rw[Bb h3,AC,AD h3];rfl
  rw[<-htk,<-h2]at hsn;generalize R.getD i []=r at*;have hal2:(a.map rowV).length=a.length:=AN ..
  by_cases hq:r.getD col As=v
  ·rw[if_pos hq]at hsn;have hs1:=sel1_c r col v hc1 hc2 hv Ab (decide_eq_true ((zBv _ _).2.1.2 hq));refine zB<|zA rfl<|v0s<|veT<|zB<|vT ((i:Int)<(Aa R:Int))<|zK<|zC<|zD<|zB<|zF<|zB<|zA rfl<|veT<|zB<|zA rfl<|vr 5 (True/\0<1/\ix (i:Int) (Aa R:Int) (Ad rowV R≠[]))<|vp 17 (i) (Ad rowV R)<|vr 1 (0<Aa (Ag i<|Ad rowV R))<|vsh 18 hx<|vc (hs1)<|veT<|vt<|zA rfl<|vr 5 (True/\0<1/\ix (i:Int) (Aa R:Int) (Ad rowV R≠[]))<|vp 24 (i) (Ad rowV R)<|vr 1 (0<Aa (Ag i<|Ad rowV R))<|vsh 25 hx<|vr 3 (((1=1/\1<=1/\True)/\0<1/\1=1/\1<=16777216/\1<=9223372036854775807)/\AZ (Ak (Ad rowV a) 29 1 Ab Ac Am)=Ab/\Aa (Ad rowV a)=Aa a*1/\Aa a=Aa a*1/\AK (Ak (Ad rowV a) 29 1 Ab Ac Am)=29/\AL (Ak (Ad rowV a) 29 1 Ab Ac Am)=1/\1=1/\0<1/\0<24/\29=29/\(Aa a+1)*24<=140737488355328/\1=1/\AS (Ay<|Ak (Ad rowV a) 29 1 Ab Ac Am)=Ac/\(Ac=Ac\/AT (Ay<|Ak (Ad rowV a) 29 1 Ab Ac Am)=Ab))<|vs 5 (Af 2 0 (Aa a+1) ((Aa a+1)*1) Ab) (Af 2 0 (Aa a+1) (Aa a+1) Ab) (hd:=by simp(disch:=omega) only[A2])<|vnil<|zE<|zC<|zD<|zA rfl<|vr 2 (i6 ((i:Int)+(1:Int)))<|vnil<|zC<|⟨i+1,a++[r],⟨by omega,hsn.symm⟩,by omega,?_⟩;rw[Co,A7];refine vk 3
  rw[if_neg hq]at hsn;have hs1:=sel1_c r col v hc1 hc2 hv Ac (decide_eq_false λh=>hq ((zBv _ _).2.1.1 h));refine zB<|zA rfl<|v0s<|veT<|zB<|vT ((i:Int)<(Aa R:Int))<|zK<|zC<|zD<|zB<|zF<|zB<|zA rfl<|veT<|zB<|zA rfl<|vr 5 (True/\0<1/\ix (i:Int) (Aa R:Int) (Ad rowV R≠[]))<|vp 17 (i) (Ad rowV R)<|vr 1 (0<Aa (Ag i<|Ad rowV R))<|vsh 18 hx<|vc (hs1)<|veT<|vf<|zK<|zE<|zC<|zD<|zA rfl<|vr 2 (i6 ((i:Int)+(1:Int)))<|vnil<|zC<|⟨i+1,a,⟨by omega,hsn.symm⟩,by omega,?_⟩;refine vk 3
 rw[AJ h3]at h2;subst h2;have ht:(Ad rowV (selC col v R)).take (selC col v R).length=Ad rowV (selC col v R):=AJ (by simp);refine zB<|zA rfl<|v0s<|veT<|zB<|vF ((i:Int)<(Aa R:Int))<|zV<|zM<|zM<|zQ rfl<|zC<|zD<|zB<|zA rfl<|ve (True/\0<2/\((1=1/\1<=2/\1=1/\2<=2/\True)/\Ab=Ab)/\Ac=Ac/\Ab=Ab/\2=2/\2<=2)<|zJ<|zAy (2<=2) (AF [iD ar,Ae (An (Aa<|selC col v R)<|Ag 0<|Ad rowV<|selC col v R)<|Aa<|selC col v R]) (AF [Aj<|Al Bo ar,Ae (Ad rowV<|selC col v R)<|Aa<|selC col v R]) (.inr rfl) (by simp(disch:=omega) only[AV,ht]) rfl (hc:=by omega)
theorem select_c(ar:Nat)(R:List Rw)(col:Nat)(v:Va)(hb:R.length<=65536)(hc:col<ar)(hl:∀r∈R,r.length=ar/\r.all vok=Ab):Pure Ap 60 [relD (ar:Nat) R,iD (col:Nat),iD 0,vaD v] [] (if vok v=Ab then .tup [relD (ar:Nat) (selC col v R),iD 0]else .tup [relD 0 [],iD 4]):=by
 have hh:=zVh v v;have hrv:∀r∈R,col<r.length/\vok (r.getD col As)=true:=λr hr=>by
  obtain⟨h1,h2⟩:=hl r hr;refine⟨by omega,?_⟩;rw[AC,AD (by omega)];exact A6.1 h2 _ (A0 _)
 cases hv:vok v
 ·rw[hv,if_neg (λh=>by cases h.1)]at hh;rw[if_neg (λh=>by cases h)];refine zG zAm mixed Tryz.func60 rfl<|zB<|zA rfl<|v0s<|veT<|zB<|zB<|zA rfl<|vew [] [(2,Ac)] (0<1/\decide ((col:Int)<0)=Ac/\0<1/\True/\0<2)<|vF ((col:Int)>=(ar:Int))<|zK<|zC<|zD<|zB<|zB<|zA rfl<|vr 3 (3<=3/\0<1/\3<=3)<|vc (hh)<|ve (0<2/\1<2)<|zB<|zA rfl<|veT<|vt<|zB<|zA rfl<|ve ((True/\Ab=Ab)/\Ac=Ac/\Ab=Ab/\2=2/\2<=2)<|zJ<|zH<|vret (2<=2)<|.inr rfl
 have e0:vcmp v v=0:=(zBv v v).2.1.2 rfl;rw[hv,if_pos ⟨rfl,rfl⟩,e0]at hh;rw[if_pos rfl];have hf:=filter_c (ar:Nat) R col v hb hrv hv;refine zG zAm mixed Tryz.func60 rfl<|zB<|zA rfl<|v0s<|veT<|zB<|zB<|zA rfl<|vew [] [(2,Ac)] (0<1/\decide ((col:Int)<0)=Ac/\0<1/\True/\0<2)<|vF ((col:Int)>=(ar:Int))<|zK<|zC<|zD<|zB<|zB<|zA rfl<|vr 3 (3<=3/\0<1/\3<=3)<|vc (hh)<|ve (0<2/\1<2)<|zB<|zA rfl<|veT<|vf<|zK<|zC<|zD<|zB<|zA rfl<|vr 2 (2<=2)<|vc (hf)<|ve (Ac=Ac/\Ab=Ab/\2=2/\2<=2)<|zJ<|vret (2<=2)<|.inr rfl
end
abbrev Tri:=List (List Va×List Nat)
def szT:Tri->Nat
 |[]=>0
 |l::_=>l.1.length
def adT:List Va->Nat->Tri->Tri
 |v::x,0,l::t=>(l.1++[v],l.2++[szT t])::adT x 0 t
 |v::x,f+1,l::t=>l::adT x f t
 |_,_,t=>t
def finT:Tri->Tri
 |[]=>[]
 |l::t=>(l.1,l.2++[szT t])::finT t
def rws:Tri->Nat->Nat->List (List Va)
 |[],_,_=>[[]]
 |l::t,a,b=>(List.range' a (b-a)).flatMap λi=>(rws t (l.2.getD i 0) (l.2.getD (i+1) 0)).map (l.1.getD i As::·)
def shr:List Va->List Va->Nat
 |a::x,b::y=>if vcmp a b=0 then shr x y+1 else 0
 |_,_=>0
def bldT:List Va->List (List Va)->Tri->Tri
 |_,[],t=>t
 |last,x::L,t=>bldT x L (adT x (shr last x) t)
def trieT(n:Nat)(L:List (List Va)):Tri:=finT (bldT [] L (Bx n ([],[])))
def Sib:Tri->Nat->Nat->Prop
 |[],_,_=>True
 |l::t,a,b=>a<b/\b<=l.1.length/\b<l.2.length/\(∀i j,a<=i->i<j->j<b->vcmp (l.1.getD i As) (l.1.getD j As)<0)/\∀i,a<=i->i<b->Sib t (l.2.getD i 0) (l.2.getD (i+1) 0)
def Rsc(L:List (List Va)):Prop:=L.Pairwise λx y=>rcmp x y<0
section
open Go.RowKit
theorem rle_tr{a b c:Rw}(h1:rcmp a b<=0)(h2:rcmp b c<=0):rcmp a c<=0:=by
 rcases Int.lt_or_eq_of_le h1 with h1|h1;all_goals grind [Int.lt_or_eq_of_le,Int.le_of_lt,zGp,zBy]
theorem zQx:∀{L:List Rw},(∀j,0<j->j<L.length->rcmp (L.getD (j-1) []) (L.getD j [])<=0)->L.Pairwise λa b=>rcmp a b<=0
 |[],_=>Bw.nil
 |[a],_=>CD _ _
 | a::b::L,h=>by
  have ih:(b::L).Pairwise λa b=>rcmp a b<=0:=zQx λj h0 hj=>by
   have:=h (j+1) (by omega) (by simpa using hj)
   rw[Nat.add_sub_cancel]at this;obtain⟨i,rfl⟩:∃i,j=i+1:=⟨j-1,by omega⟩;simpa using this
  have h0:rcmp a b<=0:=by simpa using h 1 (by omega) (by simp)
  refine BG.2 ⟨λx hx=>?_,ih⟩;rcases A3.1 hx with rfl|hx
  ·exact h0
  exact rle_tr h0 ((BG.1 ih).1 x hx)
theorem srtB_pw{L:List Rw}(h:srtB L=Ab):L.Pairwise λa b=>rcmp a b<=0:=zQx λj h0 hj=>by
 have h1:=A6.1 h j (BX.2 hj);unfold zXw at h1;rw[decide_eq_false (by omega),Bool.false_or]at h1;have h2:¬rcmp (L.getD j []) (L.getD (j-1) [])<0:=by simpa using h1
 have h3:=(zBy (L.getD (j-1) []) (L.getD j [])).2.2;omega
theorem zZc:∀{L:List Rw}{p:Rw},(p::L).Pairwise (λa b=>rcmp a b<=0)->Rsc (p::uqA p L)
 |[],p,_=>CD _ _
 | b::L,p,h=>by
  obtain⟨h1,h2⟩:=BG.1 h;have ih:=zZc h2;rw[uqA];split
  ·grind
  rename_i e;have hb:rcmp p b<0:=by
   grind [rcmp,zBy]
  refine BG.2 ⟨λx hx=>?_,ih⟩;rcases A3.1 hx with rfl|hx
  ·exact hb
  exact zGp p b x hb ((BG.1 ih).1 x hx)
theorem uq_rsc{L:List Rw}(h:L.Pairwise λa b=>rcmp a b<=0):Rsc (uq L):=by
 cases L with
 |nil=>exact Bw.nil
 |cons a L=>exact zZc h
theorem zVv(L:List Rw):Rsc (relR L):=by
 grind [relR,uq_rsc,srtB_pw,zJs]
theorem zS4{x:Rw}:∀{L:List Rw}{p:Rw},x∈p::L->x∈p::uqA p L
 |[],p,h=>h
 | b::L,p,h=>by
  rw[uqA];split
  ·rename_i e;subst e;exact zS4 (by simpa using h)
  rcases A3.1 h with rfl|h
  ·simp
  exact Bu _ (zS4 h)
theorem zHe{x:Rw}{L:List Rw}:x∈relR L↔x∈L:=by
 have key:∀M:List Rw,x∈uq M↔x∈M:=λM=>⟨zZb,λh=>by
  cases M with
  |nil=>cases h
  |cons a M=>exact zS4 h⟩
 grind [relR,zB2]
def zBb(p:Rw)(a:List Nat×List Rw):List Nat×List Rw:=((rstF p a.1 0 a.2).1,relR ((rstF p a.1 0 a.2).2.2.map λr=>zR r (rstF p a.1 0 a.2).2.1))
theorem zF1{p:Rw}{A:List (List Nat×List Rw)}(hl:∀a∈A,∀r∈a.2,r.length=a.1.length)(τ:Nat->Va):SatA (A.map (zBb p)) τ↔SatA A (shf p τ):=by
 have key:∀a∈A,((zBb p a).1.map τ∈(zBb p a).2↔a.1.map (shf p τ)∈a.2):=λa ha=>by
  unfold zBb;rw[zHe,AG];constructor
  ·rintro⟨r,hr,e⟩;have hr2:=zK2 p _ _ _ _ hr;obtain⟨h1,h2⟩:=(zKc p τ r a.1 0 a.2 (by rw[hl a ha r hr2];omega)).1 ⟨hr,e⟩;rw[AV]at h2;rw[<-h2];exact h1
  intro h;have hlr:=hl a ha _ h;obtain⟨h1,h2⟩:=(zKc p τ (a.1.map (shf p τ)) a.1 0 a.2 (by rw[hlr];omega)).2 ⟨h,AV⟩;exact⟨_,h1,h2⟩
 constructor
 ·intro h a ha;exact(key a ha).1 (h (zBb p a) (AG.2 ⟨a,ha,rfl⟩))
 intro h b hb;obtain⟨a,ha,rfl⟩:=AG.1 hb;exact(key a ha).2 (h a ha)
def renA(f:Nat->Nat)(a:List Nat×List Rw):List Nat×List Rw:=(a.1.map f,a.2)
theorem sat_ren{A:List (List Nat×List Rw)}{f g:Nat->Nat}(h:∀a∈A,∀v∈a.1,g (f v)=v):(∃τ,SatA (A.map (renA f)) τ)↔∃τ,SatA A τ:=by
 constructor
 ·rintro⟨τ,hτ⟩;refine⟨λv=>τ (f v),λa ha=>?_⟩
  have:=hτ (renA f a) (AG.2 ⟨a,ha,rfl⟩)
  unfold renA at this;rw[BE]at this;exact this
 rintro⟨τ,hτ⟩;refine⟨λv=>τ (g v),λb hb=>?_⟩;obtain⟨a,ha,rfl⟩:=AG.1 hb;have e:(renA f a).1.map (λv=>τ (g v))=a.1.map τ:=by
  unfold renA;rw[BE];exact BM λv hv=>by
   show τ (g (f v))=τ v;rw[h a ha v hv]
 rw[e];exact hτ a ha
def Ans(n:Nat)(A:List (List Nat×List Rw))(p:Rw):Prop:=∃y:Rw,y.length=n/\y.take p.length=p/\SatA A λv=>y.getD v As
theorem zGw{n:Nat}{A:List (List Nat×List Rw)}{p:Rw}(hp:p.length<=n)(hlt:∀a∈A,∀v∈a.1,v<n):Ans n A p↔∃τ,SatA A (shf p τ):=by
 constructor
 ·rintro⟨y,hy,ht,hs⟩;refine⟨λv=>y.getD (v+p.length) As,?_⟩;have e:shf p (λv=>y.getD (v+p.length) As)=λv=>y.getD v default:=funext λv=>by
   unfold shf;split
   ·rename_i h;rw[<-ht,AC,BC,if_pos h,AC]
   show y.getD (v-p.length+p.length) As=_;rw[Nat.sub_add_cancel (by omega)]
  rw[e];exact hs
 rintro⟨τ,hs⟩;have hget:∀v,v<n->((Av n).map (shf p τ)).getD v As=shf p τ v:=λv hv=>by
  rw[AC,B1,List.getElem?_range hv];rfl
 refine⟨(Av n).map (shf p τ),by simp,?_,λa ha=>?_⟩
 ·apply BH (by simp;omega);intro i h1 h2;rw[List.getElem_take,List.getElem_map,List.getElem_range];unfold shf;rw[if_pos h2,AC,AD h2];rfl
 have e:a.1.map (λv=>((Av n).map (shf p τ)).getD v As)=a.1.map (shf p τ):=BM λv hv=>hget v (hlt a ha v hv);rw[e];exact hs a ha
theorem zLk{U:List Nat}(h:Asc U):mem32 (msk U)=U:=by
 refine Asc.ext ⟨(List.pairwise_lt_range (n:=32)).filter _,λv hv=>?_⟩ h λv=>?_
 ·have:=(Bq.1 hv).1;simpa using this
 simp only[mem32,Bq,zBu,decide_eq_true_eq,BX];exact⟨λh=>h.2,λhv=>⟨h.2 v hv,hv⟩⟩
theorem zB1{A:List Nat}(h:Asc A):A.length<=32:=by
 rw[<-zLk h];exact A1 (Bd _ _) (by simp)
theorem asc_less{A:List Nat}(h:Asc A)(p:Nat->Bool):Asc (A.filter p):=⟨h.1.filter _,λv hv=>h.2 v (Bq.1 hv).1⟩
theorem zXi(p:Nat->Bool)(A:List Nat):(zCd p A).map (λj=>A.getD j 0)=A.filter p:=by
 have e:A=(Av A.length).map (λj=>A.getD j 0):=by
  apply BH (by simp);grind
 conv=>rhs;rw[e]
 rw[List.filter_map];rfl
theorem zKk{p:Nat->Bool}{A:List Nat}{j:Nat}:j∈zCd p A↔j<A.length/\p (A.getD j 0)=true:=by simp[zCd]
theorem zPx(p:Nat->Bool)(A:List Nat):(zCd p A).length<=A.length:=A1 (Bd _ _) (by simp)
theorem zHb{A:List Nat}(hA:A.Nodup)(p:Nat->Bool)(x:List Va):zR x (zCd p A)=(A.filter p).map (asg A x):=by
 rw[<-zXi,BE];refine BM λj hj=>?_;grind [zKk,only,asg,AD,List.Nodup.idxOf_getElem]
theorem filt_eq{A B:List Nat}(hA:Asc A)(hB:Asc B){p q:Nat->Bool}(h:∀v,(v∈A/\p v=Ab)↔(v∈B/\q v=Ab)):A.filter p=B.filter q:=by grind [Asc.ext,asc_less]
theorem zP3(A B:List Nat)(v:Nat):(msk A&&&msk B).testBit v=(decide (v∈A)&&decide (v∈B)):=by grind [zBu]
theorem key_mt{A B:List Nat}(hA:Asc A)(hB:Asc B)(x y:List Va):zR y (zCd (λv=>(msk A&&&msk B).testBit v) B)=zR x (zCd (λv=>(msk A&&&msk B).testBit v) A)↔mt A x B y=true:=by
 rw[zHb hA.nd,zHb hB.nd,filt_eq hB hA (p:=λv=>(msk A&&&msk B).testBit v) (q:=λv=>(msk A&&&msk B).testBit v) (λv=>by rw[zP3];simp only[Bg,decide_eq_true_eq];constructor<;>(rintro⟨h1,h2,h3⟩;exact⟨by assumption,h2,h3⟩))];rw[zDr];simp only[mt,A6,Bq,zP3,Bg,decide_eq_true_eq];grind
def posL(L:List Rw)(r:Rw):List Nat:=(Av L.length).filter λk=>decide (L.getD k []=r)
theorem posn_get{α:Type}[Inhabited α](l:List α)(key:α->Rw)(r:Rw)(hd:∀k,k<l.length->(l.map key).getD k []=key (l.getD k As)):(posL (l.map key) r).map (λk=>l.getD k As)=l.filter λq=>decide (key q=r):=by
 have e:l=(Av l.length).map (λj=>l.getD j As):=by
  apply BH (by simp);grind
 grind [posL,AN,B7,only]
theorem pos_succ(L:List Rw)(i:Nat)(h:i<L.length)(r:Rw):posL (L.take (i+1)) r=posL (L.take i) r++if L.getD i []=r then[i]else[]:=by
 grind [posL,Ck,B7,only]
theorem pos_lt{L:List Rw}{r:Rw}{k:Nat}(h:k∈posL L r):k<L.length:=by
 have:=(Bq.1 h).1;simpa using this
theorem zN3{L:List Rw}{r:Rw}(h:r∉L):posL L r=[]:=by
 grind [posL,List.filter_eq_nil_iff,AD,A0]
abbrev Fn:Type:=List Nat×List (Rw×Nat)
theorem allK_nd(L:List Rw):(allK L).Nodup:=by
 have key:∀(L K:List Rw),K.Nodup->(L.foldl addK K).Nodup:=by
  intro L;induction L<;>grind [addK,List.nodup_append,only,BV]
 exact key L [] List.nodup_nil
theorem zSg(L:List Rw)(r:Rw):allK (L++[r])=addK (allK L) r:=by simp[allK]
theorem zEv(L:List Rw)(r s:Rw):posL (L++[r]) s=posL L s++if r=s then[L.length]else[]:=by
 have h:=pos_succ (L++[r]) L.length (by simp) s;grind
mutual
/-- does the data name blocks below m alone? -/
def rwG(m:Nat):D->Bool
 | .own j _=>decide (j<m)
 | .osl j _ _ _ _=>decide (j<m)
 | .osr j _ _ _ _ _=>decide (j<m)
 | .mref j=>decide (j<m)
 | .agg cs=>rBL m cs
 | .tup cs=>rBL m cs
 | .clo _ x y=>rBL m x&&rBL m y
 | .ifc _ d=>rwG m d
 |_=>Ab
def rBL(m:Nat):List D->Bool
 |[]=>Ab
 |d::ds=>rwG m d&&rBL m ds
end
mutual
theorem zSy{m k:Nat}(hk:m<=k):∀d:D,rwG m d=Ab->refs k d=Ac
 | .own j o,h=>by simp only[rwG,decide_eq_true_eq]at h;simp only[refs,beq_eq_false_iff_ne];omega
 | .osl j _ _ _ _,h=>by simp only[rwG,decide_eq_true_eq]at h;simp only[refs,beq_eq_false_iff_ne];omega
 | .osr j _ _ _ _ _,h=>by simp only[rwG,decide_eq_true_eq]at h;simp only[refs,beq_eq_false_iff_ne];omega
 | .mref j,h=>by simp only[rwG,decide_eq_true_eq]at h;simp only[refs,beq_eq_false_iff_ne];omega
 | .agg cs,h=>by simp only[rwG]at h;simp only[refs];exact zEu hk cs h
 | .tup cs,h=>by simp only[rwG]at h;simp only[refs];exact zEu hk cs h
 | .clo _ x y,h=>by
  simp only[rwG,Bg]at h;simp only[refs,zEu hk x h.1,zEu hk y h.2,Bool.or_false]
 | .ifc _ d,h=>by simp only[rwG]at h;simp only[refs];exact zSy hk d h
 | .unk,_| .val _,_| .row _ _,_| .ptr _,_| .mfz _ _,_| .fx _,_=>by simp only[refs]
theorem zEu{m k:Nat}(hk:m<=k):∀ds:List D,rBL m ds=Ab->zBd k ds=Ac
 |[],_=>by simp only[zBd]
 |d::ds,h=>by
  simp only[rBL,Bg]at h;simp only[zBd,zSy hk d h.1,zEu hk ds h.2,Bool.or_false]
end
theorem zKh{k:Nat}{d:D}(h:refs k d=Ac):zA6 k d=d:=by unfold zA6;rw[h];rfl
theorem zPg{m k:Nat}(hk:m<=k):∀{ds:List D},rBL m ds=Ab->ds.map (zA6 k)=ds
 |[],_=>rfl
 |d::ds,h=>by
  simp only[rBL,Bg]at h;rw[Bs,zKh (zSy hk d h.1),zPg hk h.2]
def bBL(m:Nat)(bs:List Bk):Bool:=bs.all λe=>e.nob||rBL m e.cells
def zCc(L:List Rw):List Nat->List Rw->List D
 |n::ns,r::K=> .osl n 0 (posL L r).length (posL L r).length Ab::zCc L ns K
 |_,_=>[]
abbrev gArr(it:TypeId)(L:List Rw)(r:Rw):Bk:=⟨nsD (posL L r),it,1,Ab,Ac, .plain⟩
structure Grp(m:Nat)(mt it:TypeId)(L:List Rw)(base st:List Bk)(ns:List Nat):Prop where
 pre:st.take m=base
 mp:st[m]?=Ai ⟨zCc L ns (allK L),mt,0,Ac,Ac, .map ((allK L).map kyv)⟩
 len:ns.length=(allK L).length
 nd:ns.Nodup
 at_:∀(j k:Nat)(r:Rw),ns[j]?=Ai k->(allK L)[j]?=Ai r->m<k/\st[k]?=Ai (gArr it L r)
theorem zDa{L:List Rw}:∀{ns:List Nat}{K:List Rw}(j:Nat),(zCc L ns K)[j]?=match ns[j]?,K[j]? with
  |some n,Ai r=>Ai (.osl n 0 (posL L r).length (posL L r).length Ab)
  |_,_=>Ax
 |[],K,j=>by simp[zCc]
 |n::ns,[],j=>by
  grind [only,zCc]
 |n::ns,r::K,0=>by simp[zCc]
 |n::ns,r::K,j+1=>by simp only[zCc,List.getElem?_cons_succ];exact zDa j
theorem zC9{L:List Rw}:∀{ns:List Nat}{K:List Rw},ns.length=K.length->(zCc L ns K).length=K.length
 |[],[],_=>rfl
 |n::ns,r::K,h=>by simp only[zCc,Bh];rw[zC9 (by simpa using h)]
section
variable {P : Program} {T : Par} {ops : Array Oper} {dr : Bool} {l : List Oper} {sl : List D} {st base : List Bk} {K : List D → List Bk → Prop} {m : Nat} {mt it : TypeId} {L : List Rw} {ns : List Nat}
theorem Grp.lt(h:Grp m mt it L base st ns):m<st.length:=(Br.1 h.mp).1
theorem Grp.more(h:Grp m mt it L base st ns)(hb:bBL m base=Ab){r:Rw}(hr:r∈allK L){k:Nat}(hk:ns[(allK L).idxOf r]?=Ai k)(tmp:Bk)(ht:tmp.nob=Ab){b' e':Bk}(hb':b'=gArr it (L++[r]) r)
  (he':e'=⟨((zCc L ns (allK L)).map (zA6 k)).set ((allK L).idxOf r) (.osl k 0 (posL (L++[r]) r).length (posL (L++[r]) r).length Ab),mt,0,Ac,Ac, .map ((allK L).map kyv)⟩):
  Grp m mt it (L++[r]) base ((((st++[tmp]).map (zCg k)).set k b').set m e') ns:=by
 subst hb' he';have hj:=BR.2 hr;have hrr:(allK L)[(allK L).idxOf r]?=Ai r:=by rw[AD hj];simp
 obtain⟨hmk,hkst⟩:=h.at_ _ k r hk hrr;have hall:allK (L++[r])=allK L:=by rw[zSg,addK,if_pos hr]
 have hml:=h.lt;have hkl:k<st.length:=(Br.1 hkst).1;have hget:∀i,i<st.length->i≠m->i≠k->((((st++[tmp]).map (zCg k)).set k (gArr it (L++[r]) r)).set m ⟨((zCc L ns (allK L)).map (zA6 k)).set ((allK L).idxOf r) (.osl k 0 (posL (L++[r]) r).length (posL (L++[r]) r).length Ab),mt,0,Ac,Ac, .map ((allK L).map kyv)⟩)[i]?=(st[i]?).map (zCg k):=λi hi h1 h2=>by
  grind
 refine⟨?_,?_,by rw[hall];exact h.len,h.nd,λj n s hn hs=>?_⟩
 ·apply Cf;intro i;rw[BC];split
  ·rename_i hi;rw[hget i (by omega) (by omega) (by omega)];have:base[i]?=st[i]?:=by rw[<-h.pre,BC,if_pos hi]
   rw[this];cases e:st[i]? with
   |none=>rfl
   | some x=>
    simp only[CF,B4.injEq];have hx:x∈base:=B5 (this.trans e)
    have:=A6.1 hb x hx
    simp only[BW]at this;unfold zCg;split
    ·rfl
    rename_i hn;rw[zPg (m:=m) (by omega) (this.resolve_left hn)]
  rename_i hi;rw[<-h.pre,BC,if_neg hi]
 ·rw [List.getElem?_set_self (by simp;omega),hall];congr 2;apply Cf;intro i;rw[zDa,List.getElem?_set,B1,zDa];have hcl:((zCc L ns (allK L)).map (zA6 k)).length=(allK L).length:=by rw[AN,zC9 h.len]
  by_cases hi:(allK L).idxOf r=i
  ·grind
  rw [if_neg hi];cases e1:ns[i]? with
  |none=>rfl
  | some n=>
   cases e2:(allK L)[i]? with
   |none=>rfl
   | some s=>
    have hne:n≠k:=λe=>by
     subst e;have h1:=(Br.1 e1);have h2:=(Br.1 hk);exact hi ((Cz h.nd).1 (h2.2.trans h1.2.symm))
    have hsr:r≠s:=λe=>by
     grind [Br,allK_nd]
    grind [only,zKh,refs,zEv]
 rw[hall]at hs;obtain⟨h1,h2⟩:=h.at_ j n s hn hs;refine⟨h1,?_⟩;by_cases hnk:n=k
 ·subst hnk;have:s=r:=by
   obtain⟨g1,g2⟩:=Br.1 hn;obtain⟨g3,g4⟩:=Br.1 hk;have e:j=(allK L).idxOf r:=(Cz h.nd).1 (g2.trans g4.symm);grind
  grind
 have hnl:n<st.length:=(Br.1 h2).1;rw[hget n hnl (by omega) hnk,h2];have hsr:r≠s:=λe=>by
  subst e;obtain⟨g1,g2⟩:=Br.1 hs;have e:(allK L).idxOf r=j:=by rw[<-g2];exact(allK_nd L).idxOf_getElem j g1
  grind
 simp only[CF,B4.injEq];unfold zCg gArr;rw[zEv,if_neg hsr,BS];rfl
theorem Grp.new(h:Grp m mt it L base st ns){r:Rw}(hr:r∉allK L)(tmp:Bk){b' e':Bk}(hb':b'=gArr it (L++[r]) r)
  (he':e'=⟨zCc L ns (allK L)++[.osl (st.length+1) 0 1 1 Ab],mt,0,Ac,Ac, .map ((allK L++[r]).map kyv)⟩):
  Grp m mt it (L++[r]) base ((st++[tmp]++[b']).set m e') (ns++[st.length+1]):=by
 subst hb' he';have hall:allK (L++[r])=allK L++[r]:=by rw[zSg,addK,if_neg hr]
 have hml:=h.lt;have hrL:r∉L:=λhm=>hr ((zKq L r).2 hm);have hns:∀n∈ns,m<n/\n<st.length:=λn hn=>by
  obtain⟨j,hj,rfl⟩:=Cl hn;obtain⟨h1,h2⟩:=h.at_ j ns[j] _ (AD hj) (AD (by rw[<-h.len];exact hj));grind
 have hne:∀s∈allK L,r≠s:=λs hs e=>hr (e▸hs);refine⟨?_,?_,by rw[hall];simp[h.len],?_,λj n s hn hs=>?_⟩
 ·rw[<-h.pre,List.take_set_of_le (AY _),BQ,List.take_append_of_le_length (by omega)]
 ·rw[List.getElem?_set_self (by simp;omega),hall];congr 2;apply Cf;intro i;rw[zDa];rcases Nat.lt_trichotomy i ns.length with hi|hi|hi
  ·have hi2:i<(allK L).length:=by rw[<-h.len];exact hi
   grind [BN,zC9,zDa,AD,only,zEv,A0]
  ·subst hi;have hp:posL (L++[r]) r=[L.length]:=by rw[zEv,if_pos rfl,zN3 hrL];rfl
   rw[B8 (by rw[zC9 h.len,h.len];exact AY _),zC9 h.len,B8 (AY _),B8 (by rw[h.len];exact AY _),h.len];simp[hp]
  have hle:=h.len;grind [List.getElem?_eq_none,A7,zC9]
 ·rw[List.nodup_append];refine⟨h.nd,by simp,λx hx y hy=>?_⟩;grind
 rw[hall]at hs;rcases Nat.lt_trichotomy j ns.length with hj|hj|hj
 ·have hj2:j<(allK L).length:=by rw[<-h.len];exact hj
  rw[BN hj]at hn;rw[BN hj2]at hs;obtain⟨h1,h2⟩:=h.at_ j n s hn hs;have h3:=(hns n (B5 hn)).2;refine⟨h1,?_⟩;rw[List.getElem?_set_ne (by omega),BQ,BN h3,h2];unfold gArr;grind [zEv,B5]
 ·subst hj;rw[B8 (AY _)]at hn;rw[B8 (by rw[h.len];exact AY _),h.len]at hs;grind
 grind
end
section
variable (A B : List Nat) (lb : List (Rw × Nat)) (ok : Rw → Bool)
variable {A B lb ok}
end
def zYf(L:List Rw):List D:=(allK L).map λr=> .row (nsD (posL L r)) (posL L r).length
theorem look_g(L:List Rw)(r:Rw):zEz Ac nl ((allK L).map kyv) (zYf L) (kyv r)=if r∈L then .row (nsD (posL L r)) (posL L r).length else nl:=by
 unfold zEz zYf;rw[zC6,zBk];grind [zKq,BR,ctD,allK]
end
section
open Go.RowKit
set_option maxRecDepth 4096
abbrev FnB:Type:=List Nat×List (Rw×Bool)
def zCy(U:List Nat)(o:FnB):List Nat×List (List Va):=(zCd (λv=>(msk o.1&&&msk U).testBit v) U,allK ((o.2.map (·.1)).map λr=>zR r (zCd (λv=>(msk o.1&&&msk U).testBit v) o.1)))
def faNB(o:FnB):Fa Bool:=⟨o.1,o.2⟩
theorem flt_okB{U:List Nat}(hU:Asc U){o:FnB}(ho:Asc o.1)(s:List Va):decide (zR s (zCy U o).1∈(zCy U o).2)=okO U s (faNB o):=by
 rw[BI];simp only[zCy,decide_eq_true_eq,zKq,AG,BE,okO,Cj,A6,faNB,Function.comp];have e:U.filter (λv=>(msk o.1&&&msk U).testBit v)=o.1.filter (λv=>(msk o.1&&&msk U).testBit v):=filt_eq hU ho λv=>by
  rw[zP3];simp only[Bg,decide_eq_true_eq];constructor
  ·rintro⟨h1,h2,h3⟩;exact⟨h2,h2,h3⟩
  rintro⟨h1,h2,h3⟩;exact⟨h3,h2,h3⟩
 have key:∀q:Rw×Bool,zR q.1 (zCd (λv=>(msk o.1&&&msk U).testBit v) o.1)=zR s (zCd (λv=>(msk o.1&&&msk U).testBit v) U)↔∀v∈o.1,v∈U->asg o.1 q.1 v=asg U s v:=by
  intro q;rw[zHb ho.nd,zHb hU.nd,e,zDr];simp only[Bq,zP3,Bg,decide_eq_true_eq];constructor
  ·intro h v hv hu;exact h v ⟨hv,hv,hu⟩
  rintro h v ⟨hv,_,hu⟩;exact h v hv hu
 constructor
 ·rintro⟨q,hq,h⟩;exact⟨q,hq,λv hv=>decide_eq_true ((key q).1 h v hv)⟩
 rintro⟨q,hq,h⟩;exact⟨q,hq,(key q).2 λv hv=>of_decide_eq_true (h v hv)⟩
section
variable (A B : List Nat) (lb : List (Rw × Bool)) (ok : Rw → Bool)
def zEq(p:Rw×Bool):List (Rw×Bool):=lb.filter λq=>mt A p.1 B q.1
def prQB(p q:Rw×Bool):Rw×Bool:=(mg A p.1 B q.1,Sb.mul p.2 q.2)
def zCv(p:Rw×Bool)(l:List (Rw×Bool)):List (Rw×Bool):=(l.map (prQB A B p)).filter λs=>ok s.1
theorem zLb(la:List (Rw×Bool)):(zDd Sb.mul A la B lb).filter (λp=>ok p.1)=la.flatMap λp=>zCv A B ok p (zEq A B lb p):=by
 unfold zDd zCv zEq prQB;rw[List.filter_flatMap]
variable {A B lb ok}
theorem zS0(p:Rw×Bool)(l:List (Rw×Bool))(t:Nat)(h:t<l.length):zCv A B ok p (l.take (t+1))=zCv A B ok p (l.take t)++if ok (mg A p.1 B (l.getD t As).1)then[prQB A B p (l.getD t As)]else[]:=by
 unfold zCv;rw[Bb h,Co,Cb,AC,AD h];congr 1;simp only[Bs,BY,B6,List.filter_nil,Cy];rfl
theorem zMw(p:Rw×Bool)(l:List (Rw×Bool)):(zCv A B ok p l).length<=l.length:=by
 unfold zCv;exact A1 (Bd _ _) (by simp)
theorem zM7(la:List (Rw×Bool)):∀i,((la.take i).flatMap λp=>zCv A B ok p (zEq A B lb p)).length<=i*lb.length:=by
 induction la with
 |nil=>intro i;simp
 | cons p la ih=>
  intro i;cases i with
  |zero=>simp
  |succ i=>
   rw[Cn,List.flatMap_cons,A7,Nat.succ_mul];have h1:=zMw (A:=A) (B:=B) (ok:=ok) p (zEq A B lb p);have h2:(zEq A B lb p).length<=lb.length:=Bd _ _
   have:=ih i
   omega
theorem zTg(la:List (Rw×Bool))(i:Nat)(h:i<la.length):(la.take (i+1)).flatMap (λp=>zCv A B ok p (zEq A B lb p))=(la.take i).flatMap (λp=>zCv A B ok p (zEq A B lb p))++zCv A B ok (la.getD i As) (zEq A B lb (la.getD i As)):=by
 rw[Bb h,List.flatMap_append,AC,AD h];simp
theorem pos_selB(hA:Asc A)(hB:Asc B)(p:Rw×Bool):(posL ((lb.map (·.1)).map λr=>zR r (zCd (λv=>(msk A&&&msk B).testBit v) B)) (zR p.1 (zCd (λv=>(msk A&&&msk B).testBit v) A))).map (λk=>lb.getD k As)=zEq A B lb p:=by
 have h:=posn_get lb (λq=>zR q.1 (zCd (λv=>(msk A&&&msk B).testBit v) B)) (zR p.1 (zCd (λv=>(msk A&&&msk B).testBit v) A)) (λk hk=>by simp[AC,hk]);rw[BE];refine Eq.trans h ?_;unfold zEq;refine B7 λq _=>?_;rw[BI,decide_eq_true_eq];exact key_mt hA hB p.1 q.1
end
end
section
open Go.RowKit
attribute [local irreducible] seqW awp zW zX zP Weak updS zZ retL Pure Acts rP setP setQ cP nP fr
set_option maxRecDepth 4096
set_option maxRecDepth 4096
abbrev fB1B(a b c:D):Bk:=⟨[a,b,c],133,0,Ac,Ac, .plain⟩
set_option maxHeartbeats 1000000 in
theorem zJj(A:List Nat)(n:Nat)(hn:A.length=n)(hl:n<=1000)(hA:∀v∈A,v<32)(x y:List D)(k j:Nat):Pure Ap 122 [.agg [.row (nsD A) n, .row x k, .row y j]] [] (u32D (msk A)):=by
 subst hn;have hlt:∀i,msk (A.take i)<4294967296:=λi=>zDg λv hv=>hA v (List.mem_of_mem_take hv);refine zG zAm mixed Tryz.func122 rfl<|zB<|zA rfl<|v0s<|veT<|zB<|zA rfl<|veT<|zB<|zB<|zA rfl<|ve (True/\0<3)<|zF<|zS (λ(i:Nat)=>fr 19 [(2,Aj<|Al AQ (0:Int)),(3,u32D<|msk<|An i A),(7,Ae (nsD A)<|Aa A),(8,iD (Aa A:Int)),(9,iD (i:Int))]) (λi=>[fB1B (.row (nsD A) A.length) (.row x k)<|.row y j]) (λi=>A.length-i) (λi=>i<=A.length) 0 ?_ ?_ ?_
 ·omega
 ·refine vk 1
 rintro i h1;have hi:=hlt i;rcases AM i A.length with h2|h2
 ·have h3:=hA _ (zF8 A i h2);have h4:=zF3 h3;have h5:=zLe hi h4;refine zB<|zA rfl<|v0s<|veT<|zB<|vT ((i:Int)<(Aa A:Int))<|zK<|zC<|zD<|zB<|zF<|zB<|zA rfl<|vr 1 (ix (i:Int) (Aa A:Int) (nsD A≠[])) ?_ ⟨(by omega),⟨(by omega),(by exact zAb)⟩⟩;refine vp 11 (i) (nsD A)<|vr 1 (0<Aa (Ag i<|nsD A))<|vs 12 (AR (Ag i<|nsD A) Uk) (iD (↑(Ar A i 0):Int)) (hd:=by simp(disch:=omega) only[zAv])<|veT<|zA rfl<|vr 3 ((0:Int)<=(↑(Ar A i 0):Int))<|vs 15 (Aj<|Al AQ<|A4 AQ ((1:Int)*(2:Int)^min (AP (↑(Ar A i 0):Int)) 32)) (dig ((2:Nat)^Ar A i 0)) (hd:=by simp(disch:=omega) only[BJ,zEp])<|vrT 1<|vs 16 (Aj<|Al AQ<|A4 AQ (↑(AU (Au 32 (↑(msk<|An i A):Int)|||Au 32 (↑((2:Nat)^Ar A i 0):Int))):Int)) (dig (msk (An i A)|||(2:Nat)^Ar A i 0)) (hd:=by simp(disch:=omega) only[zMo,zA5])<|vrT 1<|vnil<|zE<|zC<|zD<|zA rfl<|vr 2 (i6 ((i:Int)+(1:Int)))<|vnil<|zC<|⟨i+1,by omega,by omega,?_⟩;rw[zWe A i h2];refine vk 1
 refine zB<|zA rfl<|v0s<|veT<|zB<|vF ((i:Int)<(Aa A:Int))<|zV<|zM<|zM<|zQ rfl<|zC<|zD<|zB<|zA rfl<|veT<|zJ<|vre (True) (dig<|msk<|An i A) (.inr rfl) ?_;rw[AJ h2]
end
section
open Go.RowKit
attribute [local irreducible] seqW awp zW zX zP Weak updS zZ retL Pure Acts rP setP setQ cP nP fr
set_option maxRecDepth 4096
theorem less_cB(rows:List (List Va))(n:Nat)(x y:D)(hn:rows.length=n)(i j:Nat)(hi:i<n)(hj:j<n)(hl:∀r∈rows,r.length<=1000000):Pure Ap 145 [iD i,iD j, .ptr [x, .row (rows.map rowV) n,y]] [] (iD (zBj rows i j)):=by
 subst hn;have g:∀i,i<rows.length->(rows.getD i []).length<=1000000:=λi hi=>by
  rw[AC,AD hi];exact hl _ (A0 hi)
 have g1:=g i hi;have g2:=g j hj;refine zG Ts_ok mixed Tryz.func145 rfl<|zB<|zA rfl<|v0s<|veT<|zB<|vd [0,2,5,7,1,3,4,6,8,9,10,11]<|vr 6 (True/\True/\0<2/\ix (i:Int) (Aa rows:Int) (Ad rowV rows≠[])) (vp 9 (i) (Ad rowV rows)<|vr 1 (0<Aa (Ag i<|Ad rowV rows))<|vs 10 (AR (Ag i<|Ad rowV rows) Uk) (rowV<|Ar rows i []) (hd:=by simp(disch:=omega) only[zBg])<|vr 2 (0<2/\ix (j:Int) (Aa rows:Int) (Ad rowV rows≠[])) (vp 14 (j) (Ad rowV rows)<|vr 1 (0<Aa (Ag j<|Ad rowV rows))<|vs 15 (AR (Ag j<|Ad rowV rows) Uk) (rowV<|Ar rows j []) (hd:=by simp(disch:=omega) only[zBg]) ?_) ⟨(by omega),⟨(by omega),⟨(by omega),(by exact zAb)⟩⟩⟩) ⟨trivial,trivial,(by omega),⟨(by omega),⟨(by omega),(by exact zAb)⟩⟩⟩;refine vca [Ae (zL<|Ar rows i [])<|Aa<|Ar rows i [],Ae (zL<|Ar rows j [])<|Aa<|Ar rows j []] (by exact zD5 _ _ _ _ rfl rfl (by omega) (by omega))<|veT<|zJ<|vret (True)<|.inr rfl
theorem zS8(b0 b1 b2:Bk)(c:List D):Acts Ap 162 [.osl 2 0 0 0 Ab, .val (.int .i64 0), .val (.int .i64 0), .clo (.func 145) [] [.own 0 0]] [b0,b1,b2] [] (.tup []) [b0,b1,b2]:=by
 refine zAk Ts_ok mixed Tryz.func162 rfl (keep3 rfl)<|zB<|zA rfl<|v0s<|ve (i6 ((0:Int)+(1:Int)))<|zF<|zS (λ(i:Nat)=>fr 53 [(0,Af 2 0 0 0 Ab),(1,iD 0),(2,iD 0),(3,Bm (Fn.func (145:FuncId)) [] [Ao 0 0]),(8,iD 1)]) (λ(i:Nat)=>[b0,b1,b2]) (λ(i:Nat)=>0) (λ(i:Nat)=>True) 0 ?_ ?_ ?_
 ·trivial
 ·refine vk 3 ?_;exact keep3F
 rintro i-
 refine zB<|zB<|zA rfl<|v0s<|veT<|vf<|zV<|zM<|zM<|zQ rfl<|zAj (True) [] (.inl rfl) ?_;exact⟨by kernel_rfl,by kernel_rfl⟩
theorem pdq0B(b0 b1 b2:Bk)(c:List D)(lim:Int):Acts Ap 157 [.osl 2 0 0 0 Ab, .val (.int .i64 0), .val (.int .i64 0), .val (.int .i64 lim), .clo (.func 145) [] [.own 0 0]] [b0,b1,b2] [] (.tup []) [b0,b1,b2]:=by
 refine zAk Ts_ok mixed Tryz.func157 rfl (keep3 rfl)<|zB<|zA rfl<|v0s<|veT<|zB<|zA rfl<|veT<|zF<|zS (λ(i:Nat)=>fr 148 [(0,Af 2 0 0 0 Ab),(1,iD 0),(2,iD 0),(3,iD lim),(4,Bm (Fn.func (145:FuncId)) [] [Ao 0 0]),(10,bD Ab),(11,bD Ab)]) (λ(i:Nat)=>[b0,b1,b2]) (λ(i:Nat)=>0) (λ(i:Nat)=>True) 0 ?_ ?_ ?_
 ·trivial
 ·refine vk 3 ?_;exact keep3F
 rintro i-
 refine zF<|zB<|zA rfl<|v0s<|ve (i6 ((0:Int)-(0:Int)))<|zB<|zB<|zA rfl<|veT<|vt<|zB<|zA rfl<|vrT 4<|vnt [b0,b1,b2]<|zAx [] [] [Af 2 0 0 0 Ab,iD 0,iD 0,Bm (Fn.func 145) [] [Ao 0 0]] [Af 2 0 0 0 Ab,iD 0,iD 0,Bm (Fn.func 145) [] [Ao 0 0]] (Bc _) (by exact zS8 _ _ _ []) ?_;refine v0s<|veT<|zJ<|zH<|zN<|zH<|zN ?_;refine zAj (True) [] (.inr rfl) ?_;exact⟨by kernel_rfl,by kernel_rfl⟩
set_option maxHeartbeats 1000000 in
theorem zSu(A:List D)(a:Nat)(ys:List D)(m:Nat)(rows:List (List Va))(n:Nat)(b1:Bk)(hn:rows.length=n)(hb:n<=1000000)(hl:∀r∈rows,r.length<=1000000)(hd:rows.Nodup):Acts Ap 144 [.osl 2 0 n n Ab, .clo (.func 145) [] [.own 0 0]] [fB1B (.row A a) (.row (rows.map rowV) n) (.row ys m),b1,intB (nsD (Av n))] [] (.tup []) [⟨[.row A a, .row (rows.map rowV) n, .row ys m],133,0,Ac,if n=0 then Ac else Ab, .plain⟩,b1,intB (nsD (zDp (zBj rows) (Av n)))]:=by
 have hlim:Bt n<4611686018427387904:=Nat.lt_of_le_of_lt (Lib.bitLen_le n 62 (by omega) (by omega)) (by omega);rcases Cg n with h0|hpos
 ·subst h0;refine zAk Ts_ok mixed Tryz.func144 rfl (keep3 rfl)<|zB<|zA rfl<|v0s<|veT<|zA rfl<|vr 4 (u6 (↑(0:Nat):Int))<|vc (blen_c 0 (by omega))<|vrT 1<|vnt [fB1B (Ae A a) (Ae (Ad rowV rows) 0)<|Ae ys m,b1,intB<|nsD<|Av 0]<|zAx [] [] [Af 2 0 0 0 Ab,iD 0,iD (↑(0:Nat):Int),iD (↑(0:Nat):Int),Bm (Fn.func 145) [] [Ao 0 0]] [Af 2 0 0 0 Ab,iD 0,iD (↑(0:Nat):Int),iD (↑(0:Nat):Int),Bm (Fn.func 145) [] [Ao 0 0]] (Bc _) (by exact pdq0B _ _ _ [] _) ?_;refine vnil<|zAj (True) [] (.inl rfl) ?_;exact⟨rfl,by simp[zDp]⟩
 have ho:=zZ1 hd;rw[hn]at ho;have hp:=pdq_ints (st:=[fB1B (.row A a) (.row (rows.map rowV) n) (.row ys m),b1,intB (nsD (Av n))]) (k:=2) (lim:=Bt n) (wh:=Ab) (cf:=zBj rows) (g:=145) (caps:=[.own 0 0]) (caps':=[.ptr [.row A a, .row (rows.map rowV) n, .row ys m]]) (ks:=[0]) rfl rfl rfl rfl rfl (by simp) hb hpos hlim rfl (by decide) (enters_of Tryz.func145 (by kernel_rfl) rfl) ho
  (λx hx y hy=>less_cB rows n _ _ hn x y (by simpa using hx) (by simpa using hy) hl)
 refine zAk Ts_ok mixed Tryz.func144 rfl (keep3 rfl)<|zB<|zA rfl<|v0s<|veT<|zA rfl<|vr 4 (u6 (n:Int))<|vc (blen_c n (by omega))<|vrT 1<|vnt [fB1B (Ae A a) (Ae (Ad rowV rows) n)<|Ae ys m,b1,intB<|nsD<|Av n]<|zAx [] [] [Af 2 0 n n Ab,iD 0,iD (n:Int),iD (↑(Bt n):Int),Bm (Fn.func 145) [] [Ao 0 0]] [Af 2 0 n n Ab,iD 0,iD (n:Int),iD (↑(Bt n):Int),Bm (Fn.func 145) [] [Ao 0 0]] (Bc _) (by exact hp) ?_;refine vnil<|zAj (True) [] (.inl rfl) ?_;refine⟨rfl,?_⟩;first|(rw[if_neg (by omega)];done)|(rw[if_neg (by omega)];rfl)
abbrev zDf(l:List D):Bk:=⟨l,4,1,Ab,Ac, .plain⟩
set_option maxHeartbeats 2000000 in
theorem sortedWB(A:List Nat)(a:Nat)(rows:List (List Va))(vals:List Bool)(n:Nat)(hn:rows.length=n)(hm:vals.length=n)(hb:n<=1000000)(hl:∀r∈rows,r.length<=1000000)(hd:rows.Nodup):
  Pure Ap 132 [.agg [.row (nsD A) a, .row (rows.map rowV) n, .row (vals.map bD) n]] [] (.agg [.row (nsD A) a, .row (((zDp (zBj rows) (Av n)).map λi=>rows.getD i []).map rowV) n, .row (((zDp (zBj rows) (Av n)).map λi=>vals.getD i Ac).map bD) n]):=by
 have hs:=zSu (nsD A) a (vals.map bD) n rows n (fB1B nl nl nl) hn hb hl hd;refine zG Tq_ok mixed Tryz.func132 rfl<|zB<|zA rfl<|v0s<|veT<|zB<|zA rfl<|vr 5 (True/\0<2/\(0:Int)<=(n:Int)/\(n:Int)<=(n:Int)/\(↑(8:Nat):Int)*(n:Int)<=(281474976710656:Int)/\(n:Int)<=(281474976710656:Int)/\0<1/\1=1)<|vs 3 (Af 2 0 (AP (n:Int)) (AP (n:Int)*1) Ab) (Af 2 0 n n Ab) (hd:=by simp(disch:=omega) only[BJ,A2])<|veT<|zB<|zB<|zA rfl<|veT<|zF<|zAw (λ(i:Nat)(c:List Nat)=>fr 56 [(1,Ao 0 0),(2,Ao 1 0),(3,Af 2 0 n n Ab),(13,iD (n:Int)),(14,iD (i:Int))]) (λ(i:Nat)(c:List Nat)=>[fB1B (.row (nsD A) a) (.row (rows.map rowV) n)<|.row (vals.map bD) n,fB1B nl nl nl,intB<|nsD c]) (λi c=>n-i) (λ(i:Nat)(c:List Nat)=>i<=n/\c.length=n/\c.take i=(Av n).take i) 0 (Bx n 0) ?_ ?_ ?_
 ·exact⟨by omega,by simp,by simp⟩
 ·refine wkn (fr 56 [(1,Ao 0 0),(2,Ao 1 0),(3,Af 2 0 n n Ab),(13,iD (↑n:Int)),(14,iD 0)]) [Ak [Ae (nsD A) a,Ae (Ad rowV rows) n,Ae (Ad bD vals) n] 133 0 Ac Ac Am,Ak [nl,nl,nl] 133 0 Ac Ac Am,Ak (repL n [iD 0]) 3 1 Ab Ac (kdOf Ac)] (zGz [(1,1),(2,1),(3,1),(13,1),(14,1)] (Ao 0 0=Ao 0 0/\Ao 1 0=Ao 1 0/\Af 2 0 n n Ab=Af 2 0 n n Ab/\iD (↑n:Int)=iD (↑n:Int)/\iD 0=iD (↑(0:Nat):Int)) 3 [] (by kernel_rfl) ⟨rfl,rfl,rfl,rfl,(by kernel_rfl)⟩ (by kernel_rfl) (λ_ _=>rfl) (by simp[updB,repL_ns,zEb]))
 rintro i c ⟨h1,h2,h3⟩;rcases AM i n with h4|h4
 ·refine zB<|zA rfl<|v0s<|veT<|zB<|vT ((i:Int)<(n:Int))<|zK<|zC<|zD<|zB<|zF<|zB<|zA rfl<|veT<|zA rfl<|vr 4 ((0:Int)<=(i:Int)/\(i:Int)<(n:Int))<|vo 20 2 (i)<|vr 1 (A5 (intB<|nsD c)=Ac/\Ab=Ab/\1=1/\i+1<=Aa (Az<|intB<|nsD c)/\¬2∈[])<|vnil<|zE<|zC<|zD<|zA rfl<|vr 2 (i6 ((i:Int)+(1:Int)))<|vnil<|zC<|⟨i+1,c.set i i,⟨by omega,by simpa using h2,?_⟩,by omega,?_⟩
  ·have:=zVs 0 (a:=c) (b:=Av n) (i:=i) (by omega) (by simpa using h4) h3
   rwa[show(Av n).getD i 0=i by simp[AC,h4]]at this
  rw[<-set_ns];refine vk 3
 have e:c=Av n:=by
  have e1:i=n:=by omega
  rw[e1,AJ (by omega),AJ (by simp)]at h3;exact h3
 subst e;refine zB<|zA rfl<|v0s<|veT<|zB<|vF ((i:Int)<(n:Int))<|zV<|zM<|zM<|zQ rfl<|zC<|zD<|zB<|zA rfl<|vrT 2<|vnt [fB1B (Ae (nsD A) a) (Ae (Ad rowV rows) n)<|Ae (Ad bD vals) n,fB1B nl nl nl,intB<|nsD<|Av n]<|zAx [] [] [Af 2 0 n n Ab,Bm (Fn.func 145) [] [Ao 0 0]] [Af 2 0 n n Ab,Bm (Fn.func 145) [] [Ao 0 0]] (Bc _) (by exact hs) ?_;refine v0s<|veT<|zB<|zA rfl<|vr 5 (True/\0<3/\((1=1/\1<=3/\True)/\Ab=Ab)/\Ac=Ac/\Ab=Ab/\3=3/\3<=3)<|vnil<|zC<|vnn (fr 56 [(1,Ao 0 0),(2,Ao 1 0),(3,Af 2 0 n n Ab),(5,Ao 3 0),(25,Ao 0 0),(26,Ae (nsD A) a),(27,AF [Ae (nsD A) a,nl,nl])]) [Ak [Ae (nsD A) a,Ae (Ad rowV rows) n,Ae (Ad bD vals) n] 133 0 Ac (if n=0 then Ac else Ab) Am,Ak [nl,nl,nl] 133 0 Ac Ac Am,Ak (nsD<|zDp (zBj rows)<|Av n) 3 1 Ab Ac Am,Ak [Ae (nsD A) a,nl,nl] 133 0 Ac Ac Am]<|zB9 ((BB (j:=3) (i:=1) (rowB []) rfl rfl rfl rfl).trans<|BB (j:=3) (i:=2) (zDf []) rfl rfl rfl rfl) ?_;refine zB<|zB<|zA rfl<|v0s<|veT<|zF ?_;have hol:(zDp (zBj rows) (Av n)).length=n:=by rw[(zB3 _ _).length_eq];simp
 have hom:∀i∈zDp (zBj rows) (Av n),i<n:=λi h=>by
  have:=(zB3 _ _).mem_iff.1 h
  simpa using this
 generalize zDp (zBj rows) (Av n)=od at*;refine zS (λ(t:Nat)=>fr 56 [(1,Ao 0 0),(2,Ao 1 0),(5,Ao 3 0),(28,Af 2 0 n n Ab),(29,iD (n:Int)),(30,iD (t:Int))]) (λ(t:Nat)=>[⟨[.row (nsD A) a,.row (rows.map rowV) n,.row (vals.map bD) n],133,0,Ac,if n=0 then Ac else Ab,.plain⟩,fB1B nl nl nl,intB<|nsD od,fB1B (.row (nsD A) a) (.osl 4 0 t t Ab)<|.osl 5 0 t t Ab,rowB<|((od.take t).map λi=>rows.getD i []).map rowV,zDf<|((od.take t).map λi=>vals.getD i Ac).map bD]) (λt=>n-t) (λ(t:Nat)=>t<=n) 0 ?_ ?_ ?_
 ·omega
 ·refine vk 6
 rintro t h5;rcases AM t n with h6|h6
 ·have hi:=hom _ (zF8 od t (by omega));have e0:od.take (t+1)=od.take t++[od.getD t 0]:=by
   rw[Bb (by omega),AC,AD (by omega)];rfl
  have e1:((od.take (t+1)).map λi=>rows.getD i []).map rowV=((od.take t).map λi=>rows.getD i []).map rowV++[rowV (rows.getD (od.getD t 0) [])]:=by rw[e0];simp
  have e2:((od.take (t+1)).map λi=>vals.getD i Ac).map bD=((od.take t).map λi=>vals.getD i Ac).map bD++[bD (vals.getD (od.getD t 0) Ac)]:=by rw[e0];simp
  focus
   refine zB<|zA rfl<|v0s<|veT<|zB<|vT ((t:Int)<(n:Int))<|zK<|zC<|zD<|zB<|zF<|zB<|zA rfl<|vr 1 ((0:Int)<=(t:Int)/\(t:Int)<(n:Int))<|vo 32 2 (t)<|vr 1 (0<Aa (Ag t<|Az<|intB<|nsD od))<|vs 33 (AR (Ag t<|Az<|intB<|nsD od) Uk) (iD (↑(Ar od t 0):Int)) (hd:=by simp(disch:=omega) only[zAv])<|veT<|zB<|vd [0,2,4,1,3,5,6,7,8,9,10]<|vr 6 (True/\True/\0<2/\0<2/\ix (↑(Ar od t 0):Int) (n:Int) (Ad rowV rows≠[])) (vp 39 (Ar od t 0) (Ad rowV rows) ?_) ⟨trivial,trivial,(by omega),(by omega),⟨(by omega),⟨(by omega),(by exact zAb)⟩⟩⟩;refine vwh 1 [] [] (0<Aa (Ag (Ar od t 0)<|Ad rowV rows)) ?_ ?_;rotate_left;refine vs 40 (AR (Ag (Ar od t 0)<|Ad rowV rows) Uk) (rowV<|Ar rows (Ar od t 0) []) (hd:=by simp(disch:=omega) only[zBg])<|vr 4 (((1=1/\1<=1/\True)/\0<1/\1=1/\1<=16777216/\1<=9223372036854775807)/\(AZ (rowB<|Ad rowV<|Ad (λ(i:Nat)=>Ar rows i [])<|An t od)=Ab/\Aa (Az<|rowB<|Ad rowV<|Ad (λ(i:Nat)=>Ar rows i [])<|An t od)=t*1/\t=t*1/\AK (rowB<|Ad rowV<|Ad (λ(i:Nat)=>Ar rows i [])<|An t od)=29/\AL (rowB<|Ad rowV<|Ad (λ(i:Nat)=>Ar rows i [])<|An t od)=1/\1=1/\0<1/\0<24/\29=29/\(t+1)*24<=140737488355328/\1=1/\AS (Ay<|rowB<|Ad rowV<|Ad (λ(i:Nat)=>Ar rows i [])<|An t od)=Ac/\(Ac=Ac\/AT (Ay<|rowB<|Ad rowV<|Ad (λ(i:Nat)=>Ar rows i [])<|An t od)=Ab))/\True/\A5 (Ak [Ae (nsD A) a,Uk,Af 5 0 t t Ab] 133 0 Ac Ac Am)=Ac/\Ab=Ab/\1=1/\2<=3)<|vb 3 (Ak [Ae (nsD A) a,Af 4 0 (t+1) ((t+1)*1) Ab,Af 5 0 t t Ab] (AK<|Ak [Ae (nsD A) a,Uk,Af 5 0 t t Ab] 133 0 Ac Ac Am) (AL<|Ak [Ae (nsD A) a,Uk,Af 5 0 t t Ab] 133 0 Ac Ac Am) Ac Ac<|Ay<|Ak [Ae (nsD A) a,Uk,Af 5 0 t t Ab] 133 0 Ac Ac Am) (Ak [Ae (nsD A) a,Af 4 0 (t+1) (t+1) Ab,Af 5 0 t t Ab] 133 0 Ac Ac Am) (hd:=by simp(disch:=omega) only[A2])<|veT<|vd [0,2,4,1,3,5,6,7,8,9,10]<|vr 6 (True/\True/\0<1/\0<1/\ix (↑(Ar od t 0):Int) (n:Int) (Ad bD vals≠[])) ?_ ⟨trivial,trivial,(by omega),(by omega),⟨(by omega),⟨(by omega),(by exact zAb)⟩⟩⟩;refine vp 49 (Ar od t 0) (Ad bD vals)<|vwh 1 [] [] (0<Aa (Ag (Ar od t 0)<|Ad bD vals)) ?_ ?_;rotate_left;refine vs 50 (AR (Ag (Ar od t 0)<|Ad bD vals) Uk) (bD<|Ar vals (Ar od t 0) Ac) (hd:=by simp(disch:=omega) only[zHq])<|vr 4 (((1=1/\1<=1/\True)/\0<1/\1=1/\1<=16777216/\1<=9223372036854775807)/\(AZ (Ak (Ad bD<|Ad (λ(i:Nat)=>Ar vals i Ac)<|An t od) 4 1 Ab Ac Am)=Ab/\Aa (Ad bD<|Ad (λ(i:Nat)=>Ar vals i Ac)<|An t od)=t*1/\t=t*1/\AK (Ak (Ad bD<|Ad (λ(i:Nat)=>Ar vals i Ac)<|An t od) 4 1 Ab Ac Am)=4/\AL (Ak (Ad bD<|Ad (λ(i:Nat)=>Ar vals i Ac)<|An t od) 4 1 Ab Ac Am)=1/\1=1/\0<1/\0<1/\4=4/\(t+1)*1<=140737488355328/\1=1/\AS (Ay<|Ak (Ad bD<|Ad (λ(i:Nat)=>Ar vals i Ac)<|An t od) 4 1 Ab Ac Am)=Ac/\(Ac=Ac\/AT (Ay<|Ak (Ad bD<|Ad (λ(i:Nat)=>Ar vals i Ac)<|An t od) 4 1 Ab Ac Am)=Ab))/\True/\A5 (Ak [Ae (nsD A) a,Af 4 0 (t+1) (t+1) Ab,Uk] 133 0 Ac Ac Am)=Ac/\Ab=Ab/\1=1/\3<=3)<|vb 3 (Ak [Ae (nsD A) a,Af 4 0 (t+1) (t+1) Ab,Af 5 0 (t+1) ((t+1)*1) Ab] (AK<|Ak [Ae (nsD A) a,Af 4 0 (t+1) (t+1) Ab,Uk] 133 0 Ac Ac Am) (AL<|Ak [Ae (nsD A) a,Af 4 0 (t+1) (t+1) Ab,Uk] 133 0 Ac Ac Am) Ac Ac<|Ay<|Ak [Ae (nsD A) a,Af 4 0 (t+1) (t+1) Ab,Uk] 133 0 Ac Ac Am) (Ak [Ae (nsD A) a,Af 4 0 (t+1) (t+1) Ab,Af 5 0 (t+1) (t+1) Ab] 133 0 Ac Ac Am) (hd:=by simp(disch:=omega) only[A2])<|vnil<|zE<|zC<|zD<|zA rfl<|vr 2 (i6 ((t:Int)+(1:Int)))<|vnil<|zC ?_;rotate_left
  ·rw[Ch,AN];omega
  ·rw[Ch,AN];omega
  refine⟨t+1,by omega,by omega,?_⟩;rw[e1,e2];refine vk 6
 refine zB<|zA rfl<|v0s<|veT<|zB<|vF ((t:Int)<(n:Int))<|zV<|zM<|zM<|zQ rfl<|zC<|zD<|zB<|zA rfl<|ve (3<=3/\Ac=Ac/\Ab=Ab/\3=3/\3<=3)<|zJ<|zAy (3<=3) (AF [Ae (nsD A) a,Ae (An t<|Ag 0<|Az<|rowB<|Ad rowV<|Ad (λ(i:Nat)=>Ar rows i [])<|An t od) t,Ae (An t<|Ag 0<|Az<|zDf<|Ad bD<|Ad (λ(i:Nat)=>Ar vals i Ac)<|An t od) t]) (AF [Ae (nsD A) a,Ae (An t<|Ad rowV<|Ad (λ(i:Nat)=>Ar rows i [])<|An t od) t,Ae (An t<|Ad bD<|Ad (λ(i:Nat)=>Ar vals i Ac)<|An t od) t]) (.inr rfl) (by simp(disch:=omega) only[AV]) ?_ (hc:=by omega);have e:t=n:=by omega
 subst e;rw[AJ (by omega:od.length<=t),AJ (by simp[hol]),AJ (by simp[hol])]
abbrev zAh(l:List (Rw×Bool)):List D:=(l.map (·.1)).map rowV
abbrev zAn(l:List (Rw×Bool)):List D:=(l.map (·.2)).map bD
abbrev fcDB(A:List Nat)(l:List (Rw×Bool)):D:= .agg [.row (nsD A) A.length, .row (zAh l) l.length, .row (zAn l) l.length]
theorem zQj(A:List Nat)(l:List (Rw×Bool))(hb:l.length<=1000000)(hl:∀p∈l,p.1.length<=1000000)(hd:Ndk l):Pure Ap 132 [fcDB A l] [] (fcDB A (srtL l)):=by
 have h:=sortedWB A A.length (l.map (·.1)) (l.map (·.2)) l.length (by simp) (by simp) hb (λr hr=>by
  obtain⟨p,hp,rfl⟩:=AG.1 hr;exact hl p hp) (show(l.map (·.1)).Nodup from hd)
 have hi:∀i∈zDp (zBj (l.map (·.1))) (Av l.length),i<l.length:=λi h=>by
  have:=(zB3 _ _).mem_iff.1 h
  simpa using this
 have e1:(zDp (zBj (l.map (·.1))) (Av l.length)).map (λi=>(l.map (·.1)).getD i [])=(srtL l).map (·.1):=by
  rw[<-zFy hd,BE];refine BM λi hh=>?_;simp[AC,hi i hh]
 have e2:(zDp (zBj (l.map (·.1))) (Av l.length)).map (λi=>(l.map (·.2)).getD i Ac)=(srtL l).map (·.2):=by
  rw[<-zFy hd,BE];refine BM λi hh=>?_;simp[AC,hi i hh]
 rw[e1,e2]at h;have e3:=srtL_len hd;show Pure Ap _ _ [] (.agg [.row (nsD A) A.length, .row (zAh (srtL l)) (srtL l).length, .row (zAn (srtL l)) (srtL l).length]);rw[e3];exact h
set_option maxHeartbeats 1000000 in
theorem zTh(A U:List Nat)(a u nv:Nat)(ha:A.length=a)(hu:U.length=u)(la:a<=32)(lu:u<=32)(hA:∀v∈A,v<32)(hU:∀v∈U,v<32)(rows:List (List Va))(n:Nat)(hn:rows.length=n)(ln:n<=1000000)(hr:∀r∈rows,r.length=a)(hv:∀r∈rows,∀v∈r,Vs v)(y:List D)(m:Nat)(hm:m<4294967296):
  Pure Ap 127 [.agg [.row (nsD A) a, .row (rows.map rowV) n, .row y nv], .row (nsD U) u,u32D m] [] (.agg (flC (zCd (λv=>(msk A&&&m).testBit v) U,allK (rows.map λr=>zR r (zCd (λv=>(msk A&&&m).testBit v) A))))):=by
 subst hn ha hu;have hma:=zDg hA;have h1:=zJj A _ rfl (by omega) hA (rows.map rowV) y rows.length nv;have h5:=and_lt (b:=m) hma;have h2:=zHv U U _ rfl (by omega) hU _ h5;have h3:=zHv A A _ rfl (by omega) hA _ h5;refine zG zAm mixed Tryz.func127 rfl<|zB<|zA rfl<|v0s<|veT<|zB<|zA rfl<|vr 1 (3<=3)<|vc (h1)<|vrT 2<|vs 15 (Aj<|Al AQ<|A4 AQ (↑(AU (Au 32 (↑(msk A):Int)&&&Au 32 (m:Int))):Int)) (dig (msk A&&&m)) (hd:=by simp(disch:=omega) only[zMf,zA5])<|veT<|zB<|zA rfl<|vrT 2<|vc (h2)<|ve (True/\((1=1/\1<=2/\1=1/\2<=2/\True)/\Ab=Ab)/\Ac=Ac/\Ab=Ab/\2=2/\2<=2)<|zB<|zA rfl<|vr 3 (True/\0<3)<|vc (h3)<|veT<|zB<|zB<|zA rfl<|ve (True/\0<2)<|zF ?_;obtain⟨cA,hcA⟩:∃cA,cA=zCd (λv=>(msk A&&&m).testBit v) A:=⟨_,rfl⟩;obtain⟨cU,hcU⟩:∃cU,cU=zCd (λv=>(msk A&&&m).testBit v) U:=⟨_,rfl⟩;have hcl:∀c∈cA,c<A.length:=λc h=>by
  rw[hcA]at h;simpa using(Bq.1 h).1
 have hcn:cA.length<=1000:=by rw[hcA];exact A1 (Bd _ _) (by simp;omega)
 rw[<-hcA,<-hcU];refine zS (λ(i:Nat)=>fr 39 [(6,Ao 1 0),(8,Ao 3 0),(9,Ae (nsD cA)<|Aa cA),(26,Ae (Ad rowV rows)<|Aa rows),(27,iD (Aa rows:Int)),(28,iD (i:Int))]) (λi=>[fB1B (.row (nsD A) A.length) (.row (rows.map rowV) rows.length)<|.row y nv,flB1 nl<|.val<|.map Ax,mapB<|allK<|(rows.map λr=>zR r cA).take i,flB1 (.row (nsD cU) cU.length)<|.mref 2]) (λi=>rows.length-i) (λi=>i<=rows.length) 0 ?_ ?_ ?_
 ·omega
 ·refine vk 4
 rintro i h6;rcases AM i rows.length with h7|h7
 ·have hd:((rows.map rowV).drop i).headD .unk=rowV (rows.getD i []):=zA2 rowV rows [] i h7;have hm:rows.getD i []∈rows:=by rw[AC,AD h7];exact A0 h7
  have hk:=key_c (rows.getD i []) cA _ _ rfl rfl (by rw[hr _ hm];omega) (by omega) (by rw[hr _ hm];exact hcl) (hv _ hm);have hs:=allK_succ (rows.map λr=>zR r cA) i (by simpa using h7);rw[show(rows.map λr=>zR r cA).getD i []=zR (rows.getD i []) cA by simp[AC,h7]]at hs;generalize allK ((rows.map λr=>zR r cA).take i)=K at*;focus
   refine zB (zA rfl (v0s (veT (zB (vT ((i:Int)<(Aa rows:Int)) (zK (zC (zD (zB (zF (zB (zA rfl (vr 1 (ix (i:Int) (Aa rows:Int) (Ad rowV rows≠[])) ?_ ⟨(by omega),⟨(by omega),(by exact zAb)⟩⟩)))))))))))));refine vp 30 (i) (Ad rowV rows) (vr 1 (0<Aa (Ag i (Ad rowV rows))) (vsh 31 hd (veT (vd [0,2,3,1,4,5] (vr 4 (True/\0<1) (vc (hk) (vwh 1 [] [] (A5 (mapB K)=Ac/\zT (A9 (A_ Ba "string" 1 16 Ab 8 8 (Ai (AO (AW #[]))) Ab #[])) (AO (bs (idR (zR (Ar rows i []) cA))))=Ab/\BK (Ad kyv K) (zT (A9 (A_ Ba "string" 1 16 Ab 8 8 (Ai (AO (AW #[]))) Ab #[])))=Ab/\¬2∈[]) ?_ ?_)))))));rotate_left;refine vnil (zE (zC (zD (zA rfl (vr 2 (i6 ((i:Int)+(1:Int))) (vnil (zC ?_)))))));rotate_left
  ·exact⟨rfl,rfl,zFp _,by simp⟩
  refine⟨i+1,by omega,by omega,?_⟩;rw[hs];have hmp:=mput_b K (zR (rows.getD i []) cA);refine wkn (fr 39 [(6,Ao 1 0),(8,Ao 3 0),(9,Ae (nsD cA) (Aa cA)),(11,Ae (zL (Ar rows i [])) (Aa (Ar rows i []))),(26,Ae (Ad rowV rows) (Aa rows)),(27,iD (Aa rows:Int)),(28,iD (↑(i+1):Int)),(32,Ao 3 1),(33,D.mref 2),(34,Ae (zL (Ar rows i [])) (Aa (Ar rows i []))),(35,Ae (nsD cA) (Aa cA)),(36,Aj (AO (bs (idR (zR (Ar rows i []) cA))))),(37,iD (↑(i+1):Int))]) [fB1B (Ae (nsD A) (Aa A)) (Ae (Ad rowV rows) (Aa rows)) (Ae y nv),flB1 nl (Aj (Value.map Ax)),mput (mapB K) (Ad kyv K) (AO (bs (idR (zR (Ar rows i []) cA)))) (bD Ab),flB1 (Ae (nsD cU) (Aa cU)) (D.mref 2)] ?_;rw[hmp];refine vk 4
 refine zB<|zA rfl<|v0s<|veT<|zB<|vF ((i:Int)<(Aa rows:Int))<|zV<|zM<|zM<|zQ rfl<|zC<|zD<|zB<|zA rfl<|ve (2<=2/\Ac=Ac/\Ab=Ab/\2=2/\2<=2)<|zJ<|vre (2<=2) (AF [Ae (nsD cU)<|Aa cU,D.mfz (Ad kyv<|allK<|An i<|Ad (λ(r:List Va)=>zR r cA) rows)<|Ad (λ(x:List Va)=>bD Ab)<|allK<|An i<|Ad (λ(r:List Va)=>zR r cA) rows]) (.inr rfl) ?_;rw[AJ (by simp;omega)]
end
section
open Go.RowKit
section
variable {T : Par} {sl : List D} {st : List Bk}
theorem Weak.frzSlot{s:Nat}{d x:D}{ks:List Nat}(hs:sl[s]?=Ai d)(hx:frz Ab st zAu d=Ai (x,ks)):Weak T sl st (sl.set s x) (zAo st ks):=by
 intro β I w tm h;obtain⟨v,hv,hr⟩:=h.rel.get s _ hs;have hfr:=zBq h.sr.weak _ _ _ _ v hx hr;have h0:=h.fzAll ks;refine⟨β,fixI I β st ks,⟨?_,h0.sr,h0.inj,h0.fz,h0.dom,h0.imb,h0.gl⟩,Stp.fzAll h ks,Kp.refl _ _⟩;refine RelT.of_get (by rw[CG,h0.rel.length]) λi d' u hd hu=>?_;rw[List.getElem?_set]at hd;split at hd
 ·grind [Rel.no]
 obtain⟨u',g1,g2⟩:=h0.rel.get i d' hd;rw[hu]at g1;cases g1;exact g2
theorem frz_osl{st:List Bk}{n k off l m:Nat}{wh:Bool}{e:Bk}(h:st[k]?=Ai e)(hm:e.kd.isMap=Ac)(hn:e.nob=Ab):frz Ab st (n+1) (.osl k off l m wh)=Ai (.row ((e.cells.drop off).take m) l,[k]):=by
 grind [only,frz,BT]
end
theorem getDD_ne{sl:List D}{i j:Nat}(d:D)(h:j≠i):(sl.set i d).getD j .unk=sl.getD j .unk:=by
 grind
theorem zE2{sl:List D}{i:Nat}(d:D)(h:i<sl.length):(sl.set i d).getD i .unk=d:=by
 grind
section
variable {P : Program} {T : Par} {ops : Array Oper} {dr : Bool} {l : List Oper} {sl : List D} {st base : List Bk} {K : List D → List Bk → Prop} {m : Nat} {mt it kt tS : TypeId} {L : List Rw} {ns : List Nat} {inf : TypeInfo}
structure GTy(P:Program)(T:Par)(mt kt tS it:TypeId)(inf:TypeInfo):Prop where
 hmt:P.underlying mt=Ai (.map kt tS)
 hkt:P.underlying kt=Ai .string
 hts:P.underlying tS=Ai (.slice it)
 hzv:zeroV P tS=Ai nl
 hsz:tySz P it=Ai 1
 hzd:zH3 P it=Ai [iD 0]
 hif:P.info? it=Ai inf
 hi1:inf.size=1
 hi8:inf.bytes=8
 hsh:T.sh it=Ac
theorem st_group(ty:GTy P T mt kt tS it inf)(hkp:∀k,m<k->T.keep k=Ac){r:Rw}{i:Nat}(hi:i=L.length)(hil:i<=1000000){o1 o2 o3 o4 o5:Oper}{a1 a2 a3 b1 b2 s1 s2 s3 s4:Nat}
  (g1:o1.guard=Ax)(g2:o2.guard=Ax)(g3:o3.guard=Ax)(g4:o4.guard=Ax)(g5:o5.guard=Ax)
  (p1:o1.op= .lookup mt (.tmp a1) (.tmp a2) Ac)(p2:o2.op= .move (.tmp a3))(p3:o3.op= .buildSlice tS 1 #[(0, .tmp s2)])(p4:o4.op= .call {callee:= .builtin .append,args:=#[.tmp s1, .tmp s3],argTypes:=#[tS,tS]})(p5:o5.op= .mapUpdate mt (.tmp b1) (.tmp b2) (.tmp s4))
  (d1:o1.dst=Ai s1)(d2:o2.dst=Ai s2)(d3:o3.dst=Ai s3)(d4:o4.dst=Ai s4)(d5:o5.dst=Ax)
  (hlen:(decide (s1<sl.length)&&decide (s2<sl.length)&&decide (s3<sl.length)&&decide (s4<sl.length))=Ab)(hne:(s1≠s2/\s1≠s3/\s1≠s4/\s2≠s3/\s2≠s4/\s3≠s4)/\(a3≠s1/\b1≠s1/\b1≠s2/\b1≠s3/\b1≠s4/\b2≠s1/\b2≠s2/\b2≠s3/\b2≠s4))
  (v1:sl.getD a1 .unk= .mref m)(v2:sl.getD a2 .unk= .val (kyv r))(v3:sl.getD a3 .unk=iD i)(v4:sl.getD b1 .unk= .mref m)(v5:sl.getD b2 .unk= .val (kyv r))
  (hrb:rBL (m+1) sl=Ab)(hbb:bBL m base=Ab)(hG:Grp m mt it L base st ns)
  (next:∀st' ns' e1 e3 e4,Grp m mt it (L++[r]) base st' ns'->seqW P T ops dr l ((((sl.set s1 e1).set s2 (iD i)).set s3 e3).set s4 e4) st' K):
  seqW P T ops dr (o1::o2::o3::o4::o5::l) sl st K:=by
 simp only[Bg,decide_eq_true_eq]at hlen;obtain⟨⟨⟨l1,l2⟩,l3⟩,l4⟩:=hlen;obtain⟨⟨n1,n2,n3,n4,n5,n6⟩,m1,m2,m3,m4,m5,m6,m7,m8,m9⟩:=hne;have hml:=hG.lt;have hpl:(posL L r).length<=1000000:=by
  grind [posL,A1,Bd]
 have hkeyf:(zT .string (kyv r)=Ab/\((allK L).map kyv).all (zT .string)=Ab):=⟨rfl,zFp _⟩;have e1:aeff P T o1.op o1.type (evD sl) st= .get (zT .string (kyv r)=Ab/\((allK L).map kyv).all (zT .string)=Ab) (zEz Ac nl ((allK L).map kyv) (zCc L ns (allK L)) (kyv r)):=by
  rw[p1];simp only[aeff,evD,v1,v2,zJn,ty.hmt,hG.mp,zFu,ty.hkt,ty.hzv]
 refine zCt g1<|go_get e1 (by rw[p1];rfl) hkeyf rfl ?_;rw[d1];simp only[putD];generalize hd1:zEz Ac nl ((allK L).map kyv) (zCc L ns (allK L)) (kyv r)=D1;have e2:aeff P T o2.op o2.type (evD (sl.set s1 D1)) st= .lit True (iD i):=by
  grind [only,aeff,evD,getDD_ne]
 refine zCt g2<|go_lit e2 (by rw[p2];rfl) trivial rfl ?_;rw[d2];simp only[putD];have e3:aeff P T o3.op o3.type (evD ((sl.set s1 D1).set s2 (iD i))) st= .new (True/\0<1/\1=1/\1*1<=16777216/\1<=9223372036854775807) ⟨[iD i],it,1,Ab,Ac, .plain⟩ (.osl st.length 0 1 (1*1) Ab) []:=by
  rw[p3];have hev:evD ((sl.set s1 D1).set s2 (iD i)) (.tmp s2)=iD i:=by
   grind [only,evD,zE2]
  have hes:zGj P T tS=false:=by simp only[zGj,ty.hts,ty.hsh]
  simp only[aeff,hes,BT,if_false,Bs,BY,hev,zCs,ty.hts,ty.hsz,ty.hzd];simp[zF9,frz,zAu,zH1,repL,setAt,zGg,cellsOf,zFm];rfl
 refine zCt g3<|go_new e3 (by rw[p3];rfl) (by decide) rfl rfl ?_;rw[d3];simp only[putD,zAo,Ci,A2];generalize htmp:(⟨[iD i],it,1,Ab,Ac, .plain⟩:Bk)=tmp;have htn:tmp.nob=true:=by rw[<-htmp];rfl
 have hs3:(((sl.set s1 D1).set s2 (iD i)).set s3 (.osl st.length 0 1 1 Ab)).getD s3 .unk= .osl st.length 0 1 1 true:=zE2 _ (by simpa using l3);have hs1:(((sl.set s1 D1).set s2 (iD i)).set s3 (.osl st.length 0 1 1 Ab)).getD s1 .unk=D1:=by
  grind
 have hnew:(st++[tmp])[st.length]?=Ai tmp:=by simp
 have hsrc:zEn Ac (st++[tmp]) (.osl st.length 0 1 1 Ab)=Ai ([iD i],1):=by
  simp only[zEn,hnew];rw[<-htmp];rfl
 have hsh:zGj P T tS=false:=by simp only[zGj,ty.hts,ty.hsh]
 have hmu:∀(sl':List D)(st':List Bk)(e:Bk)(d:D),sl'.getD b1 .unk= .mref m->sl'.getD b2 .unk= .val (kyv r)->sl'.getD s4 .unk=d->st'[m]?=Ai e->e.kd= .map ((allK L).map kyv)->e.nob=Ac->e.fz=Ac->
   aeff P T o5.op o5.type (evD sl') st'= .put (e.fz=Ac/\zT .string (kyv r)=Ab/\((allK L).map kyv).all (zT .string)=Ab) m (mput e ((allK L).map kyv) (kyv r) d) []:=λsl' st' e d q1 q2 q3 q4 q5 q6 q7=>by
  rw[p5];simp only[aeff,evD,q1,q2,q3,zCr,ty.hmt,q4,ty.hkt,q5,q6,BT,if_false]
 by_cases hr:r∈allK L
 ·have hj:=BR.2 hr;obtain⟨k,hk⟩:∃k,ns[(allK L).idxOf r]?=Ai k:=⟨ns[(allK L).idxOf r]'(by rw[hG.len];exact hj),AD _⟩
  have hrr:(allK L)[(allK L).idxOf r]?=Ai r:=by rw[AD hj];simp
  obtain⟨hmk,hkst⟩:=hG.at_ _ k r hk hrr;have hkl:k<st.length:=(Br.1 hkst).1;have hD1:D1= .osl k 0 (posL L r).length (posL L r).length true:=by
   grind [zEz,zC6,zBk,only,ctD,BT,zDa]
  subst hD1;have hkst2:(st++[tmp])[k]?=Ai (gArr it L r):=by rw[BN hkl];exact hkst
  have e4:aeff P T o4.op o4.type (evD (((sl.set s1 (.osl k 0 (posL L r).length (posL L r).length Ab)).set s2 (iD i)).set s3 (.osl st.length 0 1 1 Ab))) (st++[tmp])= .app ((gArr it L r).arr=Ab/\(gArr it L r).cells.length=(posL L r).length*inf.size/\(posL L r).length=(posL L r).length*inf.size/\(gArr it L r).ty=it/\(gArr it L r).sz=inf.size/\[iD i].length=1*inf.size/\0<inf.size/\0<inf.bytes/\it=it/\((posL L r).length+1)*inf.bytes<=140737488355328/\[iD 0].length=inf.size/\(gArr it L r).kd.isMap=Ac/\(Ac=Ac\/(gArr it L r).kd.isSh=Ab))
    k {gArr it L r with cells:=if(gArr it L r).nob then(gArr it L r).cells++[iD i]else((gArr it L r).cells++[iD i]).map (zA6 k)} (.osl k 0 ((posL L r).length+1) (((posL L r).length+1)*inf.size) Ab):=by
   rw[p4];simp only[aeff,evD,hs1,hs3,unB,hsh,zFv,ty.hts,ty.hif,ty.hzd,hsrc,aApp,hkst2]
  have hnb:(gArr it L r).nob=true:=rfl;rw[hnb,if_pos rfl,ty.hi1,A2]at e4;refine zCt g4<|go_app e4 (by rw[p4];rfl) (hkp k hmk) ?_ rfl rfl ?_
  ·rw[ty.hi8];exact⟨rfl,by simp,by omega,rfl,rfl,rfl,by decide,by decide,rfl,by omega,rfl,rfl, .inl rfl⟩
  rw[d4];simp only[putD];have hsl:(((sl.set s1 (.osl k 0 (posL L r).length (posL L r).length Ab)).set s2 (iD i)).set s3 (.osl st.length 0 1 1 Ab)).map (zA6 k)=((sl.set s1 .unk).set s2 (iD i)).set s3 (.osl st.length 0 1 1 Ab):=by
   rw[List.map_set,List.map_set,List.map_set,zPg (m:=m+1) (by omega) hrb];have q1:zA6 k (.osl k 0 (posL L r).length (posL L r).length Ab)= .unk:=by unfold zA6;simp[refs]
   have q2:zA6 k (iD i)=iD i:=zKh rfl;grind [zA6,zKh,only,refs]
  rw[hsl];have hp1:(posL (L++[r]) r)=posL L r++[i]:=by rw[zEv,if_pos rfl,hi]
  have hb':({gArr it L r with cells:=(gArr it L r).cells++[iD i]}:Bk)=gArr it (L++[r]) r:=by
   grind
  rw[hb'];have hmp2:(((st++[tmp]).map (zCg k)).set k (gArr it (L++[r]) r))[m]?=Ai ⟨(zCc L ns (allK L)).map (zA6 k),mt,0,Ac,Ac, .map ((allK L).map kyv)⟩:=by
   rw[List.getElem?_set_ne (by omega),B1,BN hml,hG.mp];rfl
  refine zCt g5<|go_put (hmu _ _ _ _ ?_ ?_ (zE2 _ (by simpa using l4)) hmp2 rfl rfl rfl) (by rw[p5];rfl) ⟨rfl,hkeyf⟩ rfl rfl ?_
  ·grind
  ·grind
  rw[d5];simp only[putD,zAo,Ci];refine next _ ns _ _ _ (hG.more hbb hr hk tmp htn rfl ?_)
  simp_all [mput,zC6,zBk,only,A7,Bh,By,A2,Nat.zero_add]
 have hD1:D1=nl:=by
  rw[<-hd1];unfold zEz;rw[zC6,zBk,if_neg hr];rfl
 subst hD1;have e4:aeff P T o4.op o4.type (evD (((sl.set s1 nl).set s2 (iD i)).set s3 (.osl st.length 0 1 1 Ab))) (st++[tmp])= .new ([iD i].length=1*inf.size/\0<inf.size/\0<inf.bytes/\it=it/\1*inf.bytes<=140737488355328/\[iD 0].length=inf.size) ⟨[iD i],it,inf.size,Ab,Ac,kdOf Ac⟩ (.osl (st++[tmp]).length 0 1 (1*inf.size) Ab) []:=by
  rw[p4];simp only[aeff,evD,hs1,hs3,unB,hsh,zFv,ty.hts,ty.hif,ty.hzd,hsrc,aApp]
 rw[ty.hi1]at e4;refine zCt g4<|go_new e4 (by rw[p4];rfl) ?_ rfl rfl ?_
 ·rw[ty.hi8];grind
 rw[d4];simp only[putD,zAo,Ci];have hp1:(posL (L++[r]) r)=[i]:=by rw[zEv,if_pos rfl,hi,zN3 λh=>hr ((zKq L r).2 h)];rfl
 have hmp2:(st++[tmp]++[(⟨[iD i],it,1,Ab,Ac,kdOf Ac⟩:Bk)])[m]?=Ai ⟨zCc L ns (allK L),mt,0,Ac,Ac, .map ((allK L).map kyv)⟩:=by
  rw[BQ,BN hml,hG.mp]
 refine zCt g5<|go_put (hmu _ _ _ _ ?_ ?_ (zE2 _ (by simpa using l4)) hmp2 rfl rfl rfl) (by rw[p5];rfl) ⟨rfl,hkeyf⟩ rfl rfl ?_
 ·grind
 ·grind
 rw[d5];simp only[putD,zAo,Ci];refine next _ (ns++[st.length+1]) _ _ _ (hG.new hr tmp (b':=⟨[iD i],it,1,Ab,Ac,kdOf Ac⟩) ?_ ?_)
 ·show(⟨[iD i],it,1,Ab,Ac, .plain⟩:Bk)=⟨nsD (posL (L++[r]) r),it,1,Ab,Ac, .plain⟩;rw[hp1];rfl
 grind [mput,zC6,zBk]
theorem st_mv{o:Oper}{s:Nat}{x:Operand}(v:D)(g:o.guard=Ax)(p:o.op= .move x)(d:o.dst=Ai s)(hv:evD sl x=v)(next:seqW P T ops dr l (sl.set s v) st K):seqW P T ops dr (o::l) sl st K:=by
 have e:aeff P T o.op o.type (evD sl) st= .lit True v:=by rw[p,<-hv];rfl
 refine zCt g<|go_lit e (by rw[p];rfl) trivial rfl ?_;rw[d];exact next
theorem next_name{b:Code}{Q:Exit->List D->List Bk->Prop}(h:∀s0,s0=sl->zX P T b Q s0 st):zX P T b Q sl st:=h sl rfl
theorem next_back{b:Code}{Q:Exit->List D->List Bk->Prop}(dead:List Nat){sl':List D}(e:zZ sl dead=sl')(k:awp P T b Q sl' st):zX P T b Q sl st:=⟨_,_,Weak.slots (LeL.dead dead sl),e▸k⟩
theorem frz_mref{st:List Bk}{n k:Nat}{e:Bk}{ks:List Value}(h:st[k]?=Ai e)(hm:e.kd= .map ks)(hn:e.nob=Ac):frz Ab st (n+1) (.mref k)=(mapF (frz Ab st n) e.cells).map λx=>(.mfz ks x.1,k::x.2):=by
 grind [only,frz,BT]
theorem gfrz{L:List Rw}{it:TypeId}{st:List Bk}:∀(ns:List Nat)(K:List Rw),ns.length=K.length->(∀(j k:Nat)(r:Rw),ns[j]?=Ai k->K[j]?=Ai r->st[k]?=Ai (gArr it L r))->mapF (frz Ab st 8) (zCc L ns K)=Ai (K.map λr=> .row (nsD (posL L r)) (posL L r).length,ns)
 |[],[],_,_=>rfl
 | n::ns,r::K,h,ha=>by
  have h1:=ha 0 n r rfl rfl;have ih:=gfrz (L:=L) (it:=it) (st:=st) ns K (by simpa using h) λj k s h1 h2=>ha (j+1) k s (by simpa using h1) (by simpa using h2);have e:frz Ab st 8 (.osl n 0 (posL L r).length (posL L r).length Ab)=Ai (.row (nsD (posL L r)) (posL L r).length,[n]):=by
   have h2:=frz_osl (n:=7) (off:=0) (l:=(posL L r).length) (m:=(posL L r).length) (wh:=Ab) h1 rfl rfl;grind [zHd]
  grind [only,zCc,mapF]
theorem weak_grp(hkp:∀k,m<=k->T.keep k=Ac){s:Nat}(hs:sl[s]?=Ai (.mref m))(hrb:rBL m (sl.set s .unk)=Ab)(hbb:bBL m base=Ab)(hG:Grp m mt it L base st ns):Weak T sl st (sl.set s (.mfz ((allK L).map kyv) (zYf L))) base:=by
 have hml:=hG.lt;have hx:frz Ab st zAu (.mref m)=Ai (.mfz ((allK L).map kyv) (zYf L),m::ns):=by
  have h2:=frz_mref (n:=8) hG.mp rfl rfl;rw[gfrz ns (allK L) hG.len λj k r h1 h2=>(hG.at_ j k r h1 h2).2]at h2;exact h2
 refine(Weak.frzSlot hs hx).trans ?_;have htk:(zAo st (m::ns)).take m=base:=by
  rw[<-hG.pre];apply Cf;intro i;rw[BC,BC];split
  ·rename_i hi;rw[zBa];cases e:st[i]? with
   |none=>rfl
   | some x=>
    have hn:i∉m::ns:=by
     intro h;rcases A3.1 h with h|h
     ·omega
     obtain⟨j,hj,rfl⟩:=Cl h
     have:=(hG.at_ j ns[j] _ (AD hj) (AD (by rw[<-hG.len];exact hj))).1
     omega
    grind
  rfl
 rw[<-htk];refine Weak.cut m ?_ hkp;unfold zJw;simp only[A6,BX,Bg,B_,BW];intro i hi;have hset:∀(sl:List D)(s:Nat)(d:D),rwG m d=Ab->rBL m (sl.set s .unk)=Ab->rBL m (sl.set s d)=true:=by
  intro sl;induction sl with
  |nil=>intro s d _ h;simpa using h
  |cons a sl ih=>
   intro s d hd h;cases s<;>simp_all [only,List.set_cons_zero,rBL,Bg,List.set_cons_succ]
 refine⟨zEu (m:=m) (by omega) _ (hset sl s _ rfl hrb),λe he=>?_⟩;rw[htk]at he
 have:=A6.1 hbb e he
 simp only[BW]at this;exact this.imp id λh=>zEu (by omega) _ h
end
end
section
open Go.RowKit
attribute [local irreducible] seqW awp zW zX zP Weak updS zZ retL Pure Acts rP setP setQ cP nP fr
set_option maxRecDepth 4096
theorem vaB_app(l:List Va)(v:Va):zL (l++[v])=zL l++vaC v:=by grind [zNd,zL]
theorem zT7(l:List Va)(t:Nat)(h:l.length=t)(hb:t<=1000000):(vaB l).arr=Ab/\(vaB l).cells.length=t*3/\t*3=t*3/\(vaB l).ty=73/\(vaB l).sz=3/\3=3/\0<3/\0<32/\73=73/\(t+1)*32<=140737488355328/\3=3/\(vaB l).kd.isMap=Ac/\(Ac=Ac\/(vaB l).kd.isSh=Ab):=
 ⟨rfl,by rw[<-h];exact zAp l,rfl,rfl,rfl,rfl,by decide,by decide,rfl,by omega,rfl,rfl, .inl rfl⟩
theorem zG0(l:List Va)(v:Va):vaB (l++[v])=⟨zL l++vaC v,73,3,Ab,Ac, .plain⟩:=by rw[<-vaB_app]
set_option maxHeartbeats 4000000 in
theorem merge_c(A B:List Nat)(x y:List Va)(n a b:Nat)(hn:(un A B).length=n)(ha:A.length=a)(hb:B.length=b)(hx:x.length=a)(hy:y.length=b)(hA:Asc A)(hB:Asc B)(la:a<=32)(lb:b<=32)(ln:n<=32):
  Pure Ap 130 [.row (nsD (un A B)) n, .row (nsD A) a, .row (zL x) a, .row (nsD B) b, .row (zL y) b] [] (.row (zL (mg A x B y)) n):=by
 have hU:Asc (un A B):=zZe A B;have hAU:∀v∈A,v∈un A B:=λv h=>zE8.2 ⟨hA.2 v h, .inl h⟩;have hBU:∀v∈B,v∈un A B:=λv h=>zE8.2 ⟨hB.2 v h, .inr h⟩;have mgt:=mg_take A x B y;have hmem:∀v∈un A B,v∈A\/v∈B:=λv h=>(zE8.1 h).2;unfold mg;have sgA:∀v,v∈A->sg A x B y v=x.getD (cntL A v) default:=λv h=>by rw[sg,if_pos h,asg_cnt hA.1 x h]
 have sgB:∀v,v∉A->v∈B->sg A x B y v=y.getD (cntL B v) default:=λv h k=>by rw[sg,if_neg h,asg_cnt hB.1 y k]
 generalize sg A x B y=σ at*;generalize un A B=U at*;subst hn ha hb;refine zG zAm mixed Tryz.func130 rfl<|vAu<|vA<|ve ((0:Int)<=(0:Int)/\(0:Int)<=(Aa U:Int)/\(↑(32:Nat):Int)*(Aa U:Int)<=(281474976710656:Int)/\(Aa U:Int)<=(281474976710656:Int)/\0<3/\3=3)<|vAe<|zB<|vAe<|zF<|zAw (λ(t:Nat)(l:List Va)=>fr 73 [(1,Ae (nsD A)<|Aa A),(2,Ae (zL x)<|Aa A),(3,Ae (nsD B)<|Aa B),(4,Ae (zL y)<|Aa B),(10,nl),(11,Af 0 0 t (t*3) Ab),(12,iD (↑(cntL A<|bdU U t):Int)),(13,iD (↑(cntL B<|bdU U t):Int)),(21,Ae (nsD U)<|Aa U),(22,iD (Aa U:Int)),(23,iD (t:Int))]) (λt l=>[vaB l]) (λt l=>U.length-t) (λ(t:Nat)(l:List Va)=>t<=U.length/\l=(U.take t).map σ) 0 [] ?_ ?_ ?_
 ·grind
 ·refine wk 12 (iD 0) (iD (↑(cntL A (bdU U 0)):Int)) (by simp[updB,cntL0 hU hAU,cntL0 hU hBU]) (wk 13 (iD 0) (iD (↑(cntL B (bdU U 0)):Int)) (by simp[updB,cntL0 hU hAU,cntL0 hU hBU]) (vk 1))
 rintro t l ⟨h1,h2⟩;rcases AM t U.length with h3|h3
 ·have hv:=bdU_lt hU.2 h3;have hs:=zR5 hU hA.nd hAU h3;have hs':=zR5 hU hB.nd hBU h3;have hm:=mgt t h3;rw[<-h2]at hm;have hd:=bdU_getD h3;have hk:=hmem _ hv;have hll:l.length=t:=by rw[h2];simp;omega
  by_cases ha:bdU U t∈A
  ·obtain⟨p1,p2⟩:=zTr hA.1 ha;rw[sgA _ ha]at hm;rw[if_pos ha]at hs;by_cases hb:bdU U t∈B
   ·obtain⟨q1,q2⟩:=zTr hB.1 hb;rw[if_pos hb]at hs';generalize bdU U t=v at*;generalize cntL A v=i at*;generalize cntL B v=k at*;focus
     refine vAu<|zB<|vT ((t:Int)<↑(Aa U))<|vKB<|vA<|vr 1 (ix ↑t ↑(Aa U) (nsD U≠[])) ?_ ⟨(by omega),⟨(by omega),(by exact zAb)⟩⟩;refine vp 25 t (nsD U)<|vr 1 (0<Aa (Ag t<|nsD U))<|vs 26 (AR (Ag t<|nsD U) Uk) (iD v) (hd:=by simp(disch:=omega) only[zAv,hd])<|veT<|zB<|vd [0,1,2,3,4,5,6,7,9,12,13,14,15,16,17,18,19,21,8,10,11,24,20,22,23,25]<|vw 8 [] [(4,Ab)] (decide ((i:Int)<↑(Aa A))=Ab/\ix ↑i ↑(Aa A) (nsD A≠[])) (vp 34 i (nsD A)<|vw 9 [] [(16,Ab)] (decide ((k:Int)<↑(Aa B))=Ab/\ix ↑k ↑(Aa B) (nsD B≠[])) (vp 46 k (nsD B)<|vr 2 (0<Aa (Ag i<|nsD A))<|vs 35 (AR (Ag i<|nsD A) Uk) (iD v) (hd:=by simp(disch:=omega) only[zAv,p2])<|vr 4 (True/\0<Aa (Ag k<|nsD B))<|vs 47 (AR (Ag k<|nsD B) Uk) (iD v) (hd:=by simp(disch:=omega) only[zAv,q2]) ?_) ⟨(by exact decide_eq_true (by omega)),⟨(by omega),⟨(by omega),(by exact zAb)⟩⟩⟩) ⟨(by exact decide_eq_true (by omega)),⟨(by omega),⟨(by omega),(by exact zAb)⟩⟩⟩;refine veT<|zB<|vAe<|vEt ((v:Int)) ((v:Int))<|vA<|vr 5 (ix ↑i ↑(Aa A) (zL x≠[])/\3<=Aa (Ag (i*3)<|zL x)) (vs 56 (AF<|An 3<|Ag (i*3)<|zL x) (AF<|vaC<|Ar x i As) (hd:=by simp(disch:=omega) only[zCh]) ?_) ⟨⟨(by omega),⟨(by omega),(by exact zEk _ (by omega))⟩⟩,(by exact zDv _ _ (by omega))⟩;refine vewh [] [] (((3=3/\3<=3/\True)/\0<3/\3=3/\3<=16777216/\1<=9223372036854775807)/\AZ (vaB l)=Ab/\Aa (Az<|vaB l)=t*3/\t*3=t*3/\AK (vaB l)=73/\AL (vaB l)=3/\3=3/\0<3/\0<32/\73=73/\(t+1)*32<=140737488355328/\3=3/\AS (Ay<|vaB l)=Ac/\(Ac=Ac\/AT (Ay<|vaB l)=Ab)) ⟨⟨⟨(by kernel_rfl),⟨(by omega),trivial⟩⟩,(by omega)⟩,?_⟩ ?_;rotate_left;refine zA rfl<|ve (i6 (↑i+1))<|vAe<|vEt ((v:Int)) ((v:Int))<|zA rfl<|vr 3 (i6 (↑k+1))<|vnil<|zE<|vN<|zA rfl<|vr 2 (i6 (↑t+1))<|vnil<|zC ?_;rotate_left
    all_goals first|exact zT7 l t hll (by omega)|skip
    refine⟨t+1,l++[x.getD i As],⟨by omega,hm.symm⟩,by omega,?_⟩;rw[zG0];refine wk 12 (iD ↑(i+1)) (iD (↑(cntL A (bdU U (t+1))):Int)) (by(simp;omega)) (wk 13 (iD ↑(k+1)) (iD (↑(cntL B (bdU U (t+1))):Int)) (by(simp;omega)) (vk 1))
   rw[if_neg hb,Nat.add_zero]at hs';have q1:=cntL_no hb;generalize bdU U t=v at*;generalize cntL A v=i at*;generalize cntL B v=k at*;focus
    refine vAu<|zB<|vT ((t:Int)<↑(Aa U))<|vKB<|vA<|vr 1 (ix ↑t ↑(Aa U) (nsD U≠[])) ?_ ⟨(by omega),⟨(by omega),(by exact zAb)⟩⟩;refine vp 25 t (nsD U)<|vr 1 (0<Aa (Ag t<|nsD U))<|vs 26 (AR (Ag t<|nsD U) Uk) (iD v) (hd:=by simp(disch:=omega) only[zAv,hd])<|veT<|zB<|vd [0,1,2,3,4,5,6,7,9,12,13,14,15,16,17,18,19,21,8,10,11,24,20,22,23,25]<|vw 8 [] [(4,Ab)] (decide ((i:Int)<↑(Aa A))=Ab/\ix ↑i ↑(Aa A) (nsD A≠[])) (vp 34 i (nsD A)<|vrT 6 ?_) ⟨(by exact decide_eq_true (by omega)),⟨(by omega),⟨(by omega),(by exact zAb)⟩⟩⟩;refine vspD 43 ((k:Int)<↑(Aa B)) (λhc=>?_)<|λhc=>?_;refine vr 3 (ix ↑k ↑(Aa B) (nsD B≠[])) (vp 46 k (nsD B)<|vr 2 (0<Aa (Ag i<|nsD A))<|vs 35 (AR (Ag i<|nsD A) Uk) (iD v) (hd:=by simp(disch:=omega) only[zAv,p2])<|vr 4 (True/\0<Aa (Ag k<|nsD B))<|vs 47 (AR (Ag k<|nsD B) Uk) (iD ↑(Ar B k 0)) (hd:=by simp(disch:=omega) only[zAv])<|veT<|zB<|vAe<|vEt ((v:Int)) ((v:Int))<|vA ?_) ⟨(by omega),⟨(by omega),(by exact zAb)⟩⟩;refine vr 5 (ix ↑i ↑(Aa A) (zL x≠[])/\3<=Aa (Ag (i*3)<|zL x)) (vs 56 (AF<|An 3<|Ag (i*3)<|zL x) (AF<|vaC<|Ar x i As) (hd:=by simp(disch:=omega) only[zCh]) ?_) ⟨⟨(by omega),⟨(by omega),(by exact zEk _ (by omega))⟩⟩,(by exact zDv _ _ (by omega))⟩;refine vewh [] [] (((3=3/\3<=3/\True)/\0<3/\3=3/\3<=16777216/\1<=9223372036854775807)/\AZ (vaB l)=Ab/\Aa (Az<|vaB l)=t*3/\t*3=t*3/\AK (vaB l)=73/\AL (vaB l)=3/\3=3/\0<3/\0<32/\73=73/\(t+1)*32<=140737488355328/\3=3/\AS (Ay<|vaB l)=Ac/\(Ac=Ac\/AT (Ay<|vaB l)=Ab)) ⟨⟨⟨(by kernel_rfl),⟨(by omega),trivial⟩⟩,(by omega)⟩,?_⟩ ?_;rotate_left;refine zA rfl<|ve (i6 (↑i+1))<|vAe<|vEf ((↑(Ar B k 0):Int)) ((v:Int))<|zK<|zE<|vN<|zA rfl<|vr 2 (i6 (↑t+1))<|vnil<|zC ?_;rotate_left;refine vr 5 (0<Aa (Ag i<|nsD A))<|vs 35 (AR (Ag i<|nsD A) Uk) (iD v) (hd:=by simp(disch:=omega) only[zAv,p2])<|veT<|zB<|vAe<|vEt ((v:Int)) ((v:Int))<|vA<|vr 5 (ix ↑i ↑(Aa A) (zL x≠[])/\3<=Aa (Ag (i*3)<|zL x)) (vs 56 (AF<|An 3<|Ag (i*3)<|zL x) (AF<|vaC<|Ar x i As) (hd:=by simp(disch:=omega) only[zCh]) ?_) ⟨⟨(by omega),⟨(by omega),(by exact zEk _ (by omega))⟩⟩,(by exact zDv _ _ (by omega))⟩;refine vewh [] [] (((3=3/\3<=3/\True)/\0<3/\3=3/\3<=16777216/\1<=9223372036854775807)/\AZ (vaB l)=Ab/\Aa (Az<|vaB l)=t*3/\t*3=t*3/\AK (vaB l)=73/\AL (vaB l)=3/\3=3/\0<3/\0<32/\73=73/\(t+1)*32<=140737488355328/\3=3/\AS (Ay<|vaB l)=Ac/\(Ac=Ac\/AT (Ay<|vaB l)=Ab)) ⟨⟨⟨(by kernel_rfl),⟨(by omega),trivial⟩⟩,(by omega)⟩,?_⟩ ?_;rotate_left;refine zA rfl<|ve (i6 (↑i+1))<|vAe<|vf<|zK<|zE<|vN<|zA rfl<|vr 2 (i6 (↑t+1))<|vnil<|zC ?_;rotate_left
   all_goals first|exact zT7 l t hll (by omega)|skip
   all_goals first|(exfalso;omega)|skip
   all_goals first|(exfalso;exact q1 (by omega) (by assumption))|skip
   refine⟨t+1,l++[x.getD i As],⟨by omega,hm.symm⟩,by omega,?_⟩;rw[zG0];refine wk 12 (iD ↑(i+1)) (iD (↑(cntL A (bdU U (t+1))):Int)) (by(simp;omega)) (wk 13 (iD ↑k) (iD (↑(cntL B (bdU U (t+1))):Int)) (by(simp;omega)) (vk 1));refine⟨t+1,l++[x.getD i As],⟨by omega,hm.symm⟩,by omega,?_⟩;rw[zG0];refine wk 12 (iD ↑(i+1)) (iD (↑(cntL A (bdU U (t+1))):Int)) (by(simp;omega)) (wk 13 (iD ↑k) (iD (↑(cntL B (bdU U (t+1))):Int)) (by(simp;omega)) (vk 1))
  have p1:=cntL_no ha;have hb:=hk.resolve_left ha;obtain⟨q1,q2⟩:=zTr hB.1 hb;rw[sgB _ ha hb]at hm;rw[if_neg ha,Nat.add_zero]at hs;rw[if_pos hb]at hs';generalize bdU U t=v at*;generalize cntL A v=i at*;generalize cntL B v=k at*;focus
   refine vAu<|zB<|vT ((t:Int)<↑(Aa U))<|vKB<|vA<|vr 1 (ix ↑t ↑(Aa U) (nsD U≠[])) ?_ ⟨(by omega),⟨(by omega),(by exact zAb)⟩⟩;refine vp 25 t (nsD U)<|vr 1 (0<Aa (Ag t<|nsD U))<|vs 26 (AR (Ag t<|nsD U) Uk) (iD v) (hd:=by simp(disch:=omega) only[zAv,hd])<|veT<|zB<|vd [0,1,2,3,4,5,6,7,9,12,13,14,15,16,17,18,19,21,8,10,11,24,20,22,23,25]<|vrT 5<|vspD 31 ((i:Int)<↑(Aa A)) (λhc=>?_)<|λhc=>?_;refine vr 3 (ix ↑i ↑(Aa A) (nsD A≠[])) (vp 34 i (nsD A)<|vw 9 [] [(16,Ab)] (decide ((k:Int)<↑(Aa B))=Ab/\ix ↑k ↑(Aa B) (nsD B≠[])) (vp 46 k (nsD B)<|vr 2 (0<Aa (Ag i<|nsD A))<|vs 35 (AR (Ag i<|nsD A) Uk) (iD ↑(Ar A i 0)) (hd:=by simp(disch:=omega) only[zAv])<|vr 4 (True/\0<Aa (Ag k<|nsD B))<|vs 47 (AR (Ag k<|nsD B) Uk) (iD v) (hd:=by simp(disch:=omega) only[zAv,q2])<|veT<|zB<|vAe<|vEf ((↑(Ar A i 0):Int)) ((v:Int)) ?_) ⟨(by exact decide_eq_true (by omega)),⟨(by omega),⟨(by omega),(by exact zAb)⟩⟩⟩) ⟨(by omega),⟨(by omega),(by exact zAb)⟩⟩;refine zA rfl<|vr 5 (ix ↑k ↑(Aa B) (zL y≠[])/\3<=Aa (Ag (k*3)<|zL y)) (vs 65 (AF<|An 3<|Ag (k*3)<|zL y) (AF<|vaC<|Ar y k As) (hd:=by simp(disch:=omega) only[zCh]) ?_) ⟨⟨(by omega),⟨(by omega),(by exact zEk _ (by omega))⟩⟩,(by exact zDv _ _ (by omega))⟩;refine vewh [] [] (((3=3/\3<=3/\True)/\0<3/\3=3/\3<=16777216/\1<=9223372036854775807)/\AZ (vaB l)=Ab/\Aa (Az<|vaB l)=t*3/\t*3=t*3/\AK (vaB l)=73/\AL (vaB l)=3/\3=3/\0<3/\0<32/\73=73/\(t+1)*32<=140737488355328/\3=3/\AS (Ay<|vaB l)=Ac/\(Ac=Ac\/AT (Ay<|vaB l)=Ab)) ⟨⟨⟨(by kernel_rfl),⟨(by omega),trivial⟩⟩,(by omega)⟩,?_⟩ ?_;rotate_left;refine vAe<|vEt ((v:Int)) ((v:Int))<|zA rfl<|vr 3 (i6 (↑k+1))<|vnil<|zE<|vN<|zA rfl<|vr 2 (i6 (↑t+1))<|vnil<|zC ?_;rotate_left;refine vw 12 [] [(16,Ab)] (decide ((k:Int)<↑(Aa B))=Ab/\ix ↑k ↑(Aa B) (nsD B≠[])) (vp 46 k (nsD B)<|vr 6 (0<Aa (Ag k<|nsD B))<|vs 47 (AR (Ag k<|nsD B) Uk) (iD v) (hd:=by simp(disch:=omega) only[zAv,q2])<|veT<|zB<|vAe<|vf<|zA rfl<|vr 5 (ix ↑k ↑(Aa B) (zL y≠[])/\3<=Aa (Ag (k*3)<|zL y)) (vs 65 (AF<|An 3<|Ag (k*3)<|zL y) (AF<|vaC<|Ar y k As) (hd:=by simp(disch:=omega) only[zCh]) ?_) ⟨⟨(by omega),⟨(by omega),(by exact zEk _ (by omega))⟩⟩,(by exact zDv _ _ (by omega))⟩) ⟨(by exact decide_eq_true (by omega)),⟨(by omega),⟨(by omega),(by exact zAb)⟩⟩⟩;refine vewh [] [] (((3=3/\3<=3/\True)/\0<3/\3=3/\3<=16777216/\1<=9223372036854775807)/\AZ (vaB l)=Ab/\Aa (Az<|vaB l)=t*3/\t*3=t*3/\AK (vaB l)=73/\AL (vaB l)=3/\3=3/\0<3/\0<32/\73=73/\(t+1)*32<=140737488355328/\3=3/\AS (Ay<|vaB l)=Ac/\(Ac=Ac\/AT (Ay<|vaB l)=Ab)) ⟨⟨⟨(by kernel_rfl),⟨(by omega),trivial⟩⟩,(by omega)⟩,?_⟩ ?_;rotate_left;refine vAe<|vEt ((v:Int)) ((v:Int))<|zA rfl<|vr 3 (i6 (↑k+1))<|vnil<|zE<|vN<|zA rfl<|vr 2 (i6 (↑t+1))<|vnil<|zC ?_;rotate_left
  all_goals first|exact zT7 l t hll (by omega)|skip
  all_goals first|(exfalso;omega)|skip
  all_goals first|(exfalso;exact p1 (by omega) (by assumption))|skip
  refine⟨t+1,l++[y.getD k As],⟨by omega,hm.symm⟩,by omega,?_⟩;rw[zG0];refine wk 12 (iD ↑i) (iD (↑(cntL A (bdU U (t+1))):Int)) (by(simp;omega)) (wk 13 (iD ↑(k+1)) (iD (↑(cntL B (bdU U (t+1))):Int)) (by(simp;omega)) (vk 1));refine⟨t+1,l++[y.getD k As],⟨by omega,hm.symm⟩,by omega,?_⟩;rw[zG0];refine wk 12 (iD ↑i) (iD (↑(cntL A (bdU U (t+1))):Int)) (by(simp;omega)) (wk 13 (iD ↑(k+1)) (iD (↑(cntL B (bdU U (t+1))):Int)) (by(simp;omega)) (vk 1))
 refine vAu<|zB<|vF ((t:Int)<(Aa U:Int))<|vZ2<|vAe<|zJ<|zAy (True) (Ae (An (t*3)<|Ag 0<|Az<|vaB l) t) (Ae (An (t*3)<|zL l) t) (.inr rfl) (by simp(disch:=omega) only[AV]) ?_;grind [BO,zQf,AN]
abbrev fcC(f:Fn):List D:=[.row (nsD f.1) f.1.length, .row (rwsD f.2) f.2.length, .row (vlsD f.2) f.2.length]
structure FV(f:Fn):Prop where
 asc:Asc f.1
 len:∀p∈f.2,p.1.length=f.1.length
 vs:∀p∈f.2,∀x∈p.1,Vs x
 sz:f.2.length<=1000000
 sm:∀p∈f.2,Sm p.2
 nd:Ndk f.2
abbrev fltB(l:List D):Bk:=⟨l,196,2,Ab,Ac, .plain⟩
noncomputable def Tm:Par:=⟨λ_=>Ac,zLj Ap,λ_=>Ac,hvOf Ap,λt=>shOf Ap t||t==23⟩
theorem Tm_ok:zBi Ap Tm:=λt n f h v W=>zVe Ap (λ_=>Ac) (λ_=>Ac) t n f h v W
theorem gty:∃inf,GTy Ap Tm 199 9 23 3 inf:=by
 refine⟨(Ap.info? 3).getD As,by kernel_rfl,by kernel_rfl,by kernel_rfl,by kernel_rfl,by kernel_rfl,by kernel_rfl,by kernel_rfl,by kernel_rfl,by kernel_rfl,by kernel_rfl⟩
abbrev fcCB(f:FnB):List D:=[.row (nsD f.1) f.1.length, .row (zAh f.2) f.2.length, .row (zAn f.2) f.2.length]
theorem zPr(f:FnB):(fcCB f).length=3:=rfl
structure FVB(f:FnB):Prop where
 asc:Asc f.1
 len:∀p∈f.2,p.1.length=f.1.length
 vs:∀p∈f.2,∀x∈p.1,Vs x
 sz:f.2.length<=1000000
 sm:∀p∈f.2,okB p.2
 nd:Ndk f.2
theorem getD_fstB(l:List (Rw×Bool)){k:Nat}(h:k<l.length):(l.map (·.1)).getD k []=(l.getD k As).1:=by simp[AC,h]
theorem getD_sndB(l:List (Rw×Bool)){k:Nat}(h:k<l.length):(l.map (·.2)).getD k Ac=(l.getD k As).2:=by simp[AC,h]
set_option maxHeartbeats 8000000 in
theorem zS3(f g:FnB)(os:List FnB)(hf:FVB f)(hg:FVB g)(ho:∀o∈os,FVB o)(hl:os.length<=1000)(hsz:f.2.length*g.2.length<=1000000):
  Pure Ap 92 [booD,fcDB f.1 f.2,fcDB g.1 g.2, .row (os.flatMap fcCB) os.length] [] (fcDB (un f.1 g.1) (srtL ((zDd Sb.mul f.1 f.2 g.1 g.2).filter λp=>os.all λo=>okO (un f.1 g.1) p.1 (faNB o)))):=by
 obtain⟨A,la⟩:=f;obtain⟨B,lb⟩:=g;obtain⟨hA,al,av,as',am,nda⟩:=hf;obtain⟨hB,bl,bv,bs',bm,ndb⟩:=hg;simp only at hA al av as' am nda hB bl bv bs' bm ndb hsz⊢;have nA:=zB1 hA;have nB:=zB1 hB;have hmA:=zDg hA.2;have hmB:=zDg hB.2;have hmo:=zLe hmA hmB;have hma:=and_lt (b:=msk B) hmA;have sA:=zJj A _ rfl (by omega) hA.2 (zAh la) (zAn la) la.length la.length;have sB:=zJj B _ rfl (by omega) hB.2 (zAh lb) (zAn lb) lb.length lb.length;have hU:=zZe A B;have hmu:=msk_un hA.2 hB.2;have hmem:=zRc (msk A|||msk B) hmo;rw[hmu,zLk hU]at hmem;have nU:=zB1 hU;rw[hmu]at hmo;have cA:=zHv A A _ rfl (by omega) hA.2 (msk A&&&msk B) hma;have cB:=zHv B B _ rfl (by omega) hB.2 (msk A&&&msk B) hma;obtain⟨U,eU⟩:∃U,U=un A B:=⟨_,rfl⟩;rw[<-eU]at hU hmu hmem nU hmo⊢;refine zG (T:=Tm) Tm_ok mixed Tryz.func92 rfl<|zB<|zA rfl<|v0s<|veT<|zB<|vd [0,1,2,3,4,5]<|vr 1 (3<=3)<|vc (sA)<|vr 1 (3<=3)<|vc (sB)<|vrT 1<|vs 30 (Aj<|Al AQ<|A4 AQ (↑(AU (Au 32 (↑(msk A):Int)|||Au 32 (↑(msk B):Int))):Int)) (dig<|msk U) (hd:=by simp(disch:=omega) only[zMo,zA5,hmu])<|veT<|zB<|zA rfl<|vrT 1<|vc (hmem)<|ve (((1=1/\1<=3/\True)/\Ab=Ab)/\Ac=Ac/\Ab=Ab/\3=3/\3<=3)<|zB<|zA rfl<|veT<|zB<|zB<|zA rfl<|veT<|zF<|zS (λ(i:Nat)=>fr 147 [(0,booD),(5,Ao 0 0),(6,Ao 1 0),(8,Ao 2 0),(9,dig<|msk U),(10,Ao 3 0),(11,Af 4 0 i (i*2) Ab),(34,Ae (AH fcCB os)<|Aa os),(35,iD (Aa os:Int)),(36,iD (i:Int))]) (λ(i:Nat)=>[fB1B (.row (nsD A) A.length) (.row (zAh la) la.length)<|.row (zAn la) la.length,fB1B (.row (nsD B) B.length) (.row (zAh lb) lb.length)<|.row (zAn lb) lb.length,fB1B nl nl nl,fB1B (.row (nsD U) U.length) nl nl,fltB<|((os.take i).map (zCy U)).flatMap flC]) (λi=>os.length-i) (λ(i:Nat)=>i<=os.length) 0 ?_ ?_ ?_
 ·omega
 ·refine vk 4
 rintro i h1;rcases AM i os.length with h2|h2
 ·have hom:os.getD i As∈os:=by rw[AC,AD h2];exact A0 h2
  obtain⟨hO,ol,ov,os2,_,_⟩:=ho _ hom;have hg2:=zJ0 zPr os i h2;have hle:=zFe zPr os i h2;have hne:=zFd zPr (by decide) os;have he:((os.take (i+1)).map (zCy U)).flatMap flC=((os.take i).map (zCy U)).flatMap flC++flC (zCy U (os.getD i As)):=by
   rw[zA1 os i h2];simp
  have hlb:(((os.take i).map (zCy U)).flatMap flC).length=i*2:=by rw[zB5 zLw];simp;omega
  have nO:=zB1 hO;generalize os.getD i As=o at*;have hfo:=zTh o.1 U _ _ o.2.length rfl rfl nO nU hO.2 hU.2 (o.2.map (·.1)) _ (by simp) os2 (λr hr=>by
   obtain⟨p,hp,rfl⟩:=AG.1 hr;exact ol p hp) (λr hr=>by
   obtain⟨p,hp,rfl⟩:=AG.1 hr;exact ov p hp) (zAn o.2) (msk U) hmo
  refine zB<|zA rfl<|v0s<|veT<|zB<|vT ((i:Int)<(Aa os:Int))<|zK<|zC<|zD<|zB<|zF<|zB<|zA rfl<|vr 2 (ix (i:Int) (Aa os:Int) (AH fcCB os≠[])/\3<=Aa (Ag (i*3)<|AH fcCB os))<|vs 39 (AF<|An 3<|Ag (i*3)<|AH fcCB os) (AF<|fcCB o) (hd:=by simp(disch:=omega) only[hg2])<|ve (Ac=Ac/\Ab=Ab/\3=3/\3<=3)<|zA rfl<|vr 5 (3<=3/\True/\0<3)<|vc (hfo)<|vr 3 (((2=2/\2<=2/\True)/\0<2/\2=2/\2<=16777216/\1<=9223372036854775807)/\AZ (fltB<|AH flC<|Ad (zCy U)<|An i os)=Ab/\Aa (Az<|fltB<|AH flC<|Ad (zCy U)<|An i os)=i*2/\i*2=i*2/\AK (fltB<|AH flC<|Ad (zCy U)<|An i os)=196/\AL (fltB<|AH flC<|Ad (zCy U)<|An i os)=2/\2=2/\0<2/\0<32/\196=196/\(i+1)*32<=140737488355328/\2=2/\AS (Ay<|fltB<|AH flC<|Ad (zCy U)<|An i os)=Ac/\(Ac=Ac\/AT (Ay<|fltB<|AH flC<|Ad (zCy U)<|An i os)=Ab))<|vnil<|zE<|zC<|zD<|zA rfl<|vr 2 (i6 ((i:Int)+(1:Int)))<|vnil<|zC<|⟨i+1,by omega,by omega,?_⟩;rw[he];refine vk 5
 rw[AJ h2];obtain rfl:i=os.length:=by omega
 obtain⟨c1,ec1⟩:∃c,c=zCd (λv=>(msk A&&&msk B).testBit v) A:=⟨_,rfl⟩;obtain⟨c2,ec2⟩:∃c,c=zCd (λv=>(msk A&&&msk B).testBit v) B:=⟨_,rfl⟩;rw[<-ec1]at cA;rw[<-ec2]at cB;have hl1:∀c∈c1,c<A.length:=λc h=>by rw[ec1]at h;exact(zKk.1 h).1
 have hl2:∀c∈c2,c<B.length:=λc h=>by rw[ec2]at h;exact(zKk.1 h).1
 have hn1:c1.length<=32:=by rw[ec1];exact A1 (zPx _ _) nA
 have hn2:c2.length<=32:=by rw[ec2];exact A1 (zPx _ _) nB
 refine zB<|zA rfl<|v0s<|veT<|zB<|vF ((Aa os:Int)<(Aa os:Int))<|zV<|zM<|zM<|zQ rfl<|zC<|zD<|zB<|vd [0,1,2,3,4,5]<|vr 1 (3<=3)<|vc (sA)<|vr 1 (3<=3)<|vc (sB)<|vrT 1<|vs 53 (Aj<|Al AQ<|A4 AQ (↑(AU (Au 32 (↑(msk A):Int)&&&Au 32 (↑(msk B):Int))):Int)) (dig (msk A&&&msk B)) (hd:=by simp(disch:=omega) only[zMf,zA5])<|veT<|zB<|vd [0,2,4,6,1,3,5,7,8,9]<|vr 5 (True/\True/\0<3)<|vc (cA)<|vr 1 (0<3)<|vc (cB)<|veT<|zB<|zA rfl<|veT<|zB<|zB<|zA rfl<|ve (True/\0<2)<|zF ?_;obtain⟨inf,ty⟩:=gty;obtain⟨Lb,eLb⟩:∃L:List Rw,L=(lb.map (·.1)).map λr=>zR r c2:=⟨_,rfl⟩;have hLb:Lb.length=lb.length:=by rw[eLb];simp
 obtain⟨base,ebase⟩:∃base:List Bk,base=[fB1B (.row (nsD A) A.length) (.row (zAh la) la.length) (.row (zAn la) la.length),fB1B (.row (nsD B) B.length) (.row (zAh lb) lb.length) (.row (zAn lb) lb.length),fB1B nl nl nl,fB1B (.row (nsD U) U.length) nl nl,fltB ((os.map (zCy U)).flatMap flC)]:=⟨_,rfl⟩;have hbb:bBL 5 base=true:=by rw[ebase];rfl
 refine zBh (λ(k:Nat)(st:List Bk)(ns:List Nat)=>fr 147 [(0,booD),(5,Ao 0 0),(6,Ao 1 0),(8,Ao 2 0),(10,Ao 3 0),(11,Af 4 0 (Aa os) (Aa os*2) Ab),(15,Ae (nsD c1)<|Aa c1),(16,Ae (nsD c2)<|Aa c2),(17,D.mref 5),(64,Ae (zAh lb)<|Aa lb),(65,iD (Aa lb:Int)),(66,iD (k:Int))]) (λ(k:Nat)(st:List Bk)(ns:List Nat)=>st) (λk st ns=>lb.length-k) (λ(k:Nat)(st:List Bk)(ns:List Nat)=>k<=lb.length/\Grp 5 199 3 (Lb.take k) base st ns) 0 [fB1B (.row (nsD A) A.length) (.row (zAh la) la.length)<|.row (zAn la) la.length,fB1B (.row (nsD B) B.length) (.row (zAh lb) lb.length)<|.row (zAn lb) lb.length,fB1B nl nl nl,fB1B (.row (nsD U) U.length) nl nl,fltB<|(os.map (zCy U)).flatMap flC,⟨[],199,0,Ac,Ac,.map []⟩] [] ?_ ?_ ?_
 ·exact⟨by omega,⟨by rw[ebase];rfl,rfl,rfl,List.nodup_nil,λj k r h=>by simp at h⟩⟩
 ·refine vk 6
 rintro k st ns ⟨h3,hG⟩;rcases AM k lb.length with h4|h4
 ·have hne:zAh lb≠[]:=zAb (h:=by simp;omega);have hrow:(lb.map (·.1)).getD k []∈lb.map (·.1):=by
   rw[AC,AD (by simpa using h4)];exact A0 _
  obtain⟨p,hp,he⟩:=AG.1 hrow;have hlen2:=bl p hp;have hvs:=bv p hp;rw[he]at hlen2 hvs;have hx1:=zBg (lb.map (·.1)) k (by simpa using h4);have hts:Lb.take (k+1)=Lb.take k++[zR ((lb.map (·.1)).getD k []) c2]:=by
   rw[Bb (by omega)];congr 1;simp only[eLb,List.getElem_map,AC,B1,AD h4,CF,Cy]
  generalize (lb.map (·.1)).getD k []=row at*;have hk:=key_c row c2 _ _ rfl rfl (by omega) (by omega) (by rw[hlen2];exact hl2) hvs;refine zB<|zA rfl<|zSs [] [] [] (True) [(67,bD<|decide ((k:Int)<(Aa lb:Int)))] (by kernel_rfl) trivial ?_;refine zB<|vT ((k:Int)<(Aa lb:Int))<|zK<|zC<|zD<|zB<|zF<|zB<|zA rfl<|zKx 2 [] [] (ix (k:Int) (Aa lb:Int) (zAh lb≠[])) [(68,iD (k:Int)),(69,A8<|Ag (AP (k:Int)*1)<|zAh lb)] (by kernel_rfl) ⟨(by omega),⟨(by omega),(by assumption)⟩⟩ ?_;refine zZq 69 (A8<|Ag (AP (k:Int)*1)<|zAh lb) (A8<|Ag k<|zAh lb) (by kernel_rfl) (by simp(disch:=omega) only[BJ,A2]) (by kernel_rfl) ?_;refine zKx 1 [] [] (0<Aa (Ag k<|zAh lb)) [(70,AR (Ag k<|zAh lb) Uk)] (by kernel_rfl) (by(simp;omega)) ?_;refine zZq 70 (AR (Ag k<|zAh lb) Uk) (rowV row) (by kernel_rfl) (by simp(disch:=omega) only[hx1]) (by kernel_rfl) ?_;refine zSs [] [] [67,68,69,70] (True) [(18,iD (k:Int)),(19,Ae (zL row)<|Aa row)] (by kernel_rfl) trivial ?_;refine zB<|zA rfl<|zKx 2 [] [] (True) [(71,Ae (zL row)<|Aa row),(72,Ae (nsD c2)<|Aa c2)] (by kernel_rfl) trivial ?_;refine st_callr [Ae (zL row)<|Aa row,Ae (nsD c2)<|Aa c2] (by kernel_rfl) (by exact hk) ?_;refine zKx 1 [] [] (True) [(20,Aj<|AO<|bs<|idR<|zR row c2)] (by kernel_rfl) trivial ?_;refine zVr ?_ (by kernel_rfl);refine zC (next_name λs0 hs0=>?_);refine zD<|zA rfl<|st_mv (.mref 5) rfl rfl rfl (by rw[hs0];kernel_rfl)<|st_mv (.val<|kyv<|zR row c2) rfl rfl rfl (by rw[hs0];kernel_rfl)<|st_mv (.mref 5) rfl rfl rfl (by rw[hs0];kernel_rfl)<|st_mv (.val<|kyv<|zR row c2) rfl rfl rfl (by rw[hs0];kernel_rfl) ?_;refine st_group (m:=5) (L:=Lb.take k) (r:=zR row c2) (i:=k) (base:=base) (ns:=ns) (a1:=76) (a2:=77) (a3:=18) (b1:=74) (b2:=75) (s1:=78) (s2:=79) (s3:=80) (s4:=81) ty (λ_ _=>rfl) (by simp;omega) (by omega) rfl rfl rfl rfl rfl rfl rfl rfl rfl rfl rfl rfl rfl rfl rfl (by rw[hs0];kernel_rfl) (by decide) (by rw[hs0];kernel_rfl) (by rw[hs0];kernel_rfl) (by rw[hs0];kernel_rfl) (by rw[hs0];kernel_rfl) (by rw[hs0];kernel_rfl) (by rw[hs0];kernel_rfl) hbb hG ?_;intro st' ns' e1 e3 e4 hG';refine zVr ?_ (by kernel_rfl);refine zE<|zC<|next_back [74,75,76,77,78,79,80,81] (sl':=s0) (by rw[hs0];kernel_rfl) ?_;subst hs0;refine zA rfl<|zKx 2 [] [] (i6 ((k:Int)+(1:Int))) [(66,iD (↑(k+1):Int)),(82,iD (↑(k+1):Int))] (by kernel_rfl) (by omega) ?_;refine zVr ?_ (by kernel_rfl);refine zC<|⟨k+1,st',ns',⟨by omega,by rw[hts];exact hG'⟩,by omega,?_⟩;refine vkp [0,5,6,8,10,11,15,16,17,64,65,66]
 rw[AJ (by omega)]at hG;subst ebase;refine zB<|zA rfl<|zSs [] [] [] (True) [(67,bD<|decide ((k:Int)<(Aa lb:Int)))] (by kernel_rfl) trivial ?_;refine zB<|vF ((k:Int)<(Aa lb:Int))<|zV<|zM<|zM<|zQ rfl<|zC ?_;have hfl:=zFo zLw (os.map (zCy U)) os.length (by simp);refine zB9 ((weak_grp (m:=5) (s:=17) (λ_ _=>rfl) (by kernel_rfl) (by kernel_rfl) hbb hG).trans<|((BB (j:=3) (i:=1) (rowB []) rfl rfl rfl rfl).trans (BB (j:=3) (i:=2) (zDf []) rfl rfl rfl rfl)).trans<|Weak.osr (s:=11) (k:=4) (off:=0) (n:=os.length) (m:=os.length*2) (wh:=Ab) (cs:=(os.map (zCy U)).flatMap flC) (by kernel_rfl) (show Ai (Ae ((((os.map (zCy U)).flatMap flC).drop 0).take (os.length*2)) os.length,[4])=_ by rw[AV,hfl])) ?_;refine zB<|zB<|zA rfl<|v0s<|ve (True/\0<2)<|zF ?_;clear hG h3 h4;obtain⟨ok,eok⟩:∃ok:Rw->Bool,ok=λs=>os.all λo=>okO U s (faNB o):=⟨_,rfl⟩;have hpf:((zDd Sb.mul A la B lb).filter λp=>os.all λo=>okO U p.1 (faNB o))=la.flatMap λp=>zCv A B ok p (zEq A B lb p):=by
  rw[eok];exact zLb A B lb (λs=>os.all λo=>okO U s (faNB o)) la
 rw[hpf];refine zAw (λ(i:Nat)(O:List (Rw×Bool))=>fr 147 [(0,booD),(5,Ao 0 0),(6,Ao 1 0),(8,Ao 2 0),(10,Ao 3 0),(11,D.osr 4 0 (Aa os) (Aa os*2) Ab<|AH flC<|Ad (zCy U) os),(15,Ae (nsD c1)<|Aa c1),(17,D.mfz (Ad kyv<|allK Lb)<|zYf Lb),(84,Ae (zAh la)<|Aa la),(85,iD (Aa la:Int)),(86,iD (i:Int))]) (λ(i:Nat)(O:List (Rw×Bool))=>[fB1B (.row (nsD A) A.length) (.row (zAh la) la.length)<|.row (zAn la) la.length,fB1B (.row (nsD B) B.length) (.row (zAh lb) lb.length)<|.row (zAn lb) lb.length,fB1B nl nl nl,fB1B (.row (nsD U) U.length) (.osl 5 0 O.length O.length Ab)<|.osl 6 0 O.length O.length Ab,⟨(os.map (zCy U)).flatMap flC,196,2,Ab,Ab,.plain⟩,rowB<|zAh O,zDf<|zAn O]) (λi O=>la.length-i) (λ(i:Nat)(O:List (Rw×Bool))=>i<=la.length/\O=(la.take i).flatMap λp=>zCv A B ok p (zEq A B lb p)) 0 [] ?_ ?_ ?_
 ·exact⟨by omega,by simp⟩
 ·refine vk 7
 rintro i O ⟨h3,hO⟩;rcases AM i la.length with h4|h4
 ·have hne:zAh la≠[]:=zAb (h:=by simp;omega);have hne2:zAn la≠[]:=zAb (h:=by simp;omega);have hx1:=zBg (la.map (·.1)) i (by simpa using h4);have hx2:=zHq (la.map (·.2)) i (by simpa using h4);have hpm:la.getD i As∈la:=by rw[AC,AD h4];exact A0 h4
  have hr1:(la.map (·.1)).getD i []=(la.getD i As).1:=by simp[AC,h4]
  have hr2:(la.map (·.2)).getD i Ac=(la.getD i As).2:=by simp[AC,h4]
  have hfs:=zTg (A:=A) (B:=B) (lb:=lb) (ok:=ok) la i h4;have hOl:O.length<=i*lb.length:=by rw[hO];exact zM7 la i
  have hmul:(i+1)*lb.length<=la.length*lb.length:=Cr _ h4;rw[Nat.succ_mul]at hmul;rw[<-hO]at hfs;have hlen2:=al _ hpm;have hvs:=av _ hpm;have hsm:=am _ hpm;rw[hr1]at hx1;rw[hr2]at hx2;generalize la.getD i As=p at*;have hk:=key_c p.1 c1 _ _ rfl rfl (by omega) (by omega) (by rw[hlen2];exact hl1) hvs;have hlk:=look_g Lb (zR p.1 c1);have hps:=pos_selB (lb:=lb) hA hB p;rw[<-ec1,<-ec2,<-eLb]at hps;by_cases hin:zR p.1 c1∈Lb
  ·rw [if_pos hin]at hlk;have hposk:∀k∈posL Lb (zR p.1 c1),k<lb.length:=λk hk=>by rw[<-hLb];exact pos_lt hk
   generalize posL Lb (zR p.1 c1)=pos at*;focus
    refine zB (zA rfl (v0s (veT (zB (vT ((i:Int)<(Aa la:Int)) (zK (zC (zD (zB (zF (zB (zA rfl (vr 2 (ix (i:Int) (Aa la:Int) (zAh la≠[])) (vp 89 (i) (zAh la) (vr 1 (0<Aa (Ag i (zAh la))) (vsh 90 hx1 (veT (zB (zA rfl (vrT 3 (vc (hk) (vwh 1 [] [] (zT (A9 (A_ Ba "string" 1 16 Ab 8 8 (Ai (AO (AW #[]))) Ab #[])) (AO (bs (idR (zR (Bf p) c1))))=Ab/\BK (Ad kyv (allK Lb)) (zT (A9 (A_ Ba "string" 1 16 Ab 8 8 (Ai (AO (AW #[]))) Ab #[])))=Ab) ?_ ?_))))))))))))))))))))));rotate_left;refine vsh 95 hlk (veT (zF ?_));rotate_left
   ·exact⟨rfl,zFp _⟩
   have hsl:(zEq A B lb p).length=pos.length:=by rw[<-hps,AN]
   have hsb:(zEq A B lb p).length<=lb.length:=Bd _ _;have hts:=λt h=>zS0 (A:=A) (B:=B) (ok:=ok) p (zEq A B lb p) t h;refine zAw (λ(t:Nat)(R:List (Rw×Bool))=>fr 147 [(0,booD),(5,Ao 0 0),(6,Ao 1 0),(8,Ao 2 0),(10,Ao 3 0),(11,D.osr 4 0 (Aa os) (Aa os*2) Ab<|AH flC<|Ad (zCy U) os),(15,Ae (nsD c1)<|Aa c1),(17,D.mfz (Ad kyv<|allK Lb)<|zYf Lb),(21,iD (i:Int)),(22,Ae (zL<|Bf p)<|Aa<|Bf p),(84,Ae (zAh la)<|Aa la),(85,iD (Aa la:Int)),(86,iD (i:Int)),(95,Ae (nsD pos)<|Aa pos),(96,iD (Aa pos:Int)),(97,iD (t:Int))]) (λ(t:Nat)(R:List (Rw×Bool))=>[fB1B (.row (nsD A) A.length) (.row (zAh la) la.length)<|.row (zAn la) la.length,fB1B (.row (nsD B) B.length) (.row (zAh lb) lb.length)<|.row (zAn lb) lb.length,fB1B nl nl nl,fB1B (.row (nsD U) U.length) (.osl 5 0 R.length R.length Ab)<|.osl 6 0 R.length R.length Ab,⟨(os.map (zCy U)).flatMap flC,196,2,Ab,Ab,.plain⟩,rowB<|zAh R,zDf<|zAn R]) (λt R=>pos.length-t) (λ(t:Nat)(R:List (Rw×Bool))=>t<=pos.length/\R=O++zCv A B ok p ((zEq A B lb p).take t)) 0 O ?_ ?_ ?_
   ·exact⟨by omega,by simp[zCv]⟩
   ·refine vk 7
   rintro t R ⟨h5,hR⟩;have hRl:R.length<=O.length+t:=by
    have h6:=zMw (A:=A) (B:=B) (ok:=ok) p ((zEq A B lb p).take t);rw[hR,A7];simp only[CE]at h6;omega
   rcases AM t pos.length with h6|h6
   ·have hne3:zAh lb≠[]:=zAb (h:=by simp;omega);have hne4:zAn lb≠[]:=zAb (h:=by simp;omega);have hkm:=hposk _ (zF8 pos t h6);have hsg:(zEq A B lb p).getD t As=lb.getD (pos.getD t 0) default:=by
     rw[<-hps];simp[AC,h6]
    have hqm:lb.getD (pos.getD t 0) As∈lb:=by rw[AC,AD hkm];exact A0 hkm
    have hy1:=zBg (lb.map (·.1)) (pos.getD t 0) (by simpa using hkm);have hy2:=zHq (lb.map (·.2)) (pos.getD t 0) (by simpa using hkm);have hr3:=getD_fstB lb hkm;have hr4:=getD_sndB lb hkm;have hp1:0<((zAh lb).drop (pos.getD t 0)).length:=by rw[Ch,AN,AN];omega
    have hp2:0<((zAn lb).drop (pos.getD t 0)).length:=by rw[Ch,AN,AN];omega
    have ht1:=hts t (by omega);rw[hsg]at ht1;rw[hr3]at hy1;rw[hr4]at hy2;have hql:=bl _ hqm;have hqv:=bv _ hqm;have hqs:=bm _ hqm;have hz:=zAv pos t h6;generalize lb.getD (pos.getD t 0) As=q at*;have hmg:Pure Ap 130 [.row (nsD U) U.length, .row (nsD A) A.length, .row (zL p.1) p.1.length, .row (nsD B) B.length, .row (zL q.1) q.1.length] [] (.row (zL (mg A p.1 B q.1)) U.length):=by
     have h:=merge_c A B p.1 q.1 _ _ _ rfl rfl rfl hlen2 hql hA hB nA nB (by rw[<-eU];exact nU);rw[<-eU]at h;rw[hlen2,hql];exact h
    have hml:(mg A p.1 B q.1).length=U.length:=by rw[mg,AN,eU]
    have hmv:∀v∈mg A p.1 B q.1,Vs v:=λv hv=>by
     obtain⟨w,_,rfl⟩:=AG.1 hv;have gv:∀(C:List Nat)(x:List Va),(∀v∈x,Vs v)->Vs (asg C x w):=λC x hx=>by
      unfold asg;rw[AC];cases e:x[C.idxOf w]? with
      |none=>exact⟨by decide,by decide,by decide⟩
      |some u=>exact hx u (B5 e)
     unfold sg;split
     ·exact gv A _ hvs
     exact gv B _ hqv
    have hpa:=passes_c (os.map (zCy U)) _ rfl (by simp;omega) (mg A p.1 B q.1) _ hml (by omega) hmv (λf hf=>by
     obtain⟨o,ho',rfl⟩:=AG.1 hf;exact⟨by have:=zPx (λv=>(msk o.1&&&msk U).testBit v) U;simp only[zCy];omega,λc hc=>by rw[hml];exact(zKk.1 hc).1⟩)
    rw[AN,List.all_map]at hpa;have hoke:(os.all ((λf=>decide (zR (mg A p.1 B q.1) f.1∈f.2))∘zCy U))=ok (mg A p.1 B q.1):=by
     rw[eok];simp only[Function.comp_def];rw[BI,A6,A6];constructor
     ·intro h o ho';rw[<-flt_okB hU (ho o ho').asc];exact h o ho'
     intro h o ho';rw[flt_okB hU (ho o ho').asc];exact h o ho'
    rw[hoke]at hpa;have hmu2:=bmul_c p.2 q.2 hsm hqs;focus
     refine zB<|zA rfl<|v0s<|veT<|zB<|vT ((t:Int)<(Aa pos:Int))<|zK<|zC<|zD<|zB<|zF<|zB<|zA rfl<|vr 1 (ix (t:Int) (Aa pos:Int) (nsD pos≠[])) ?_ ⟨(by omega),⟨(by omega),(by exact zAb)⟩⟩;refine vp 99 (t) (nsD pos)<|vr 1 (0<Aa (Ag t<|nsD pos))<|vsh 100 hz<|veT<|zB<|vd [0,2,4,5,7,9,1,3,6,8,10,11,12,13]<|vr 11 (True/\True/\True/\True/\0<3/\0<3/\0<3/\0<2/\ix (↑(Ar pos t 0):Int) (Aa lb:Int) (zAh lb≠[]))<|vp 111 (Ar pos t 0) (zAh lb)<|vr 1 (0<Aa (Ag (Ar pos t 0)<|zAh lb))<|vsh 112 hy1<|vc (hmg)<|veT<|zB<|zA rfl<|vrT 2<|vc (hpa)<|veT<|zAr (t:=ok (mg A (Bf p) B (Bf q))) (by kernel_rfl) (λhc=>?_)<|λhc=>?_;refine zB<|zA rfl<|vr 7 (True/\0<2/\((1=1/\1<=1/\True)/\0<1/\1=1/\1<=16777216/\1<=9223372036854775807)/\(AZ (rowB<|zAh R)=Ab/\Aa (Az<|rowB<|zAh R)=Aa R*1/\Aa R=Aa R*1/\AK (rowB<|zAh R)=29/\AL (rowB<|zAh R)=1/\1=1/\0<1/\0<24/\29=29/\(Aa R+1)*24<=140737488355328/\1=1/\AS (Ay<|rowB<|zAh R)=Ac/\(Ac=Ac\/AT (Ay<|rowB<|zAh R)=Ab))/\True/\A5 (Ak [Ae (nsD U)<|Aa U,Uk,Af 6 0 (Aa R) (Aa R) Ab] 133 0 Ac Ac Am)=Ac/\Ab=Ab/\1=1/\2<=3)<|vb 3 (Ak [Ae (nsD U)<|Aa U,Af 5 0 (Aa R+1) ((Aa R+1)*1) Ab,Af 6 0 (Aa R) (Aa R) Ab] (AK<|Ak [Ae (nsD U)<|Aa U,Uk,Af 6 0 (Aa R) (Aa R) Ab] 133 0 Ac Ac Am) (AL<|Ak [Ae (nsD U)<|Aa U,Uk,Af 6 0 (Aa R) (Aa R) Ab] 133 0 Ac Ac Am) Ac Ac<|Ay<|Ak [Ae (nsD U)<|Aa U,Uk,Af 6 0 (Aa R) (Aa R) Ab] 133 0 Ac Ac Am) (Ak [Ae (nsD U)<|Aa U,Af 5 0 (Aa R+1) (Aa R+1) Ab,Af 6 0 (Aa R) (Aa R) Ab] 133 0 Ac Ac Am) (hd:=by simp(disch:=omega) only[A2])<|veT<|vd [0,2,3,5,8,10,13,14,15,1,4,6,7,9,11,12,16,17,18,19,20]<|vr 12 (True/\True/\True/\0<1/\0<1/\ix (i:Int) (Aa la:Int) (zAn la≠[]))<|vp 129 (i) (zAn la)<|vr 1 (0<Aa (Ag i<|zAn la))<|vsh 130 hx2<|vr 2 (0<1/\ix (↑(Ar pos t 0):Int) (Aa lb:Int) (zAn lb≠[])) ?_;refine vp 134 (Ar pos t 0) (zAn lb)<|vr 1 (0<Aa (Ag (Ar pos t 0)<|zAn lb))<|vsh 135 hy2<|vc (hmu2)<|vr 4 (((1=1/\1<=1/\True)/\0<1/\1=1/\1<=16777216/\1<=9223372036854775807)/\(AZ (Ak (zAn R) 4 1 Ab Ac Am)=Ab/\Aa (zAn R)=Aa R*1/\Aa R=Aa R*1/\AK (Ak (zAn R) 4 1 Ab Ac Am)=4/\AL (Ak (zAn R) 4 1 Ab Ac Am)=1/\1=1/\0<1/\0<1/\4=4/\(Aa R+1)*1<=140737488355328/\1=1/\AS (Ay<|Ak (zAn R) 4 1 Ab Ac Am)=Ac/\(Ac=Ac\/AT (Ay<|Ak (zAn R) 4 1 Ab Ac Am)=Ab))/\True/\A5 (Ak [Ae (nsD U)<|Aa U,Af 5 0 (Aa R+1) (Aa R+1) Ab,Uk] 133 0 Ac Ac Am)=Ac/\Ab=Ab/\1=1/\3<=3)<|vb 3 (Ak [Ae (nsD U)<|Aa U,Af 5 0 (Aa R+1) (Aa R+1) Ab,Af 6 0 (Aa R+1) ((Aa R+1)*1) Ab] (AK<|Ak [Ae (nsD U)<|Aa U,Af 5 0 (Aa R+1) (Aa R+1) Ab,Uk] 133 0 Ac Ac Am) (AL<|Ak [Ae (nsD U)<|Aa U,Af 5 0 (Aa R+1) (Aa R+1) Ab,Uk] 133 0 Ac Ac Am) Ac Ac<|Ay<|Ak [Ae (nsD U)<|Aa U,Af 5 0 (Aa R+1) (Aa R+1) Ab,Uk] 133 0 Ac Ac Am) (Ak [Ae (nsD U)<|Aa U,Af 5 0 (Aa R+1) (Aa R+1) Ab,Af 6 0 (Aa R+1) (Aa R+1) Ab] 133 0 Ac Ac Am) (hd:=by simp(disch:=omega) only[A2])<|vnil<|zE<|zC<|zD<|zA rfl<|vr 2 (i6 ((t:Int)+(1:Int)))<|vnil<|zC ?_;rotate_left;refine zK<|zE<|zC<|zD<|zA rfl<|vr 2 (i6 ((t:Int)+(1:Int)))<|vnil<|zC ?_;rotate_left
    ·rw[if_pos hc]at ht1;refine⟨t+1,R++[prQB A B p q],⟨by omega,?_⟩,by omega,?_⟩
     ·rw[ht1,<-BQ,<-hR]
     rw[show zAh (R++[prQB A B p q])=zAh R++[.row (zL (mg A p.1 B q.1)) U.length] by rw[<-hml];simp[prQB],show zAn (R++[prQB A B p q])=zAn R++[bD (Sb.mul p.2 q.2)] by simp[prQB],A7];refine vk 7
    rw[if_neg (by simpa using hc),BS]at ht1;refine⟨t+1,R,⟨by omega,by rw[ht1];exact hR⟩,by omega,?_⟩;refine vk 7
   rw[AJ (by omega)]at hR;refine zB<|zA rfl<|v0s<|veT<|zB<|vF ((t:Int)<(Aa pos:Int))<|zV<|zM<|zM<|zQ rfl<|zE<|zC<|zD<|zA rfl<|vr 2 (i6 ((i:Int)+(1:Int)))<|vnil<|zC<|⟨i+1,R,⟨by omega,by rw[hfs];exact hR⟩,by omega,?_⟩;refine vk 7
  rw[if_neg hin]at hlk;rw[zN3 hin]at hps;focus
   refine zB (zA rfl (v0s (veT (zB (vT ((i:Int)<(Aa la:Int)) (zK (zC (zD (zB (zF (zB (zA rfl (vr 2 (ix (i:Int) (Aa la:Int) (zAh la≠[])) (vp 89 (i) (zAh la) (vr 1 (0<Aa (Ag i (zAh la))) (vsh 90 hx1 (veT (zB (zA rfl (vrT 3 (vc (hk) (vwh 1 [] [] (zT (A9 (A_ Ba "string" 1 16 Ab 8 8 (Ai (AO (AW #[]))) Ab #[])) (AO (bs (idR (zR (Bf p) c1))))=Ab/\BK (Ad kyv (allK Lb)) (zT (A9 (A_ Ba "string" 1 16 Ab 8 8 (Ai (AO (AW #[]))) Ab #[])))=Ab) ?_ ?_))))))))))))))))))))));rotate_left;refine vsh 95 hlk (veT (zF (zA0 (zB (zA rfl (veT (zB (vf (zV (zM (zM (zQ rfl (zE (zC (zD (zA rfl (vr 2 (i6 ((i:Int)+(1:Int))) (vnil (zC ?_)))))))))))))))))));rotate_left
  ·exact⟨rfl,zFp _⟩
  refine⟨i+1,O,⟨by omega,?_⟩,by omega,?_⟩
  ·rw[hfs,<-hps];simp[zCv]
  refine vk 7
 have hO':O=la.flatMap λp=>zCv A B ok p (zEq A B lb p):=by rw[AJ (by omega)]at hO;exact hO
 rw[<-hO'];have hOl:O.length<=1000000:=by
  have h5:=zM7 (A:=A) (B:=B) (lb:=lb) (ok:=ok) la la.length;rw[BO,<-hO']at h5;omega
 have hOp:O=(zDd Sb.mul A la B lb).filter λp=>ok p.1:=by rw[hO',eok];exact(zLb A B lb (λs=>os.all λo=>okO U s (faNB o)) la).symm
 have hnd:Ndk O:=by rw[hOp];exact zJe ok (zHa hA hB nda ndb al bl)
 have hOr:∀p∈O,p.1.length=U.length:=λp hp=>by
  rw[hOp]at hp;obtain⟨x,_,y,_,_,h7,_⟩:=(zLa (s:=p.1) (u:=p.2)).1 (Bq.1 hp).1;rw[<-h7,mg,AN,eU]
 have hso:=zQj U O hOl (λp hp=>by rw[hOr p hp];omega) hnd;have hu1:=zHd U U.length rfl;have hu2:(zAh O).take O.length=zAh O:=AJ (by simp);have hu3:(zAn O).take O.length=zAn O:=AJ (by simp);clear hO hO' hOp hpf;refine zB<|zA rfl<|v0s<|veT<|zB<|vF ((i:Int)<(Aa la:Int))<|zV<|zM<|zM<|zQ rfl<|zC<|zD<|zB<|zA rfl<|vr 1 (3<=3)<|vcl [AF [Ae (nsD U)<|Aa U,Ae (An (Aa O)<|Ag 0<|Az<|rowB<|zAh O)<|Aa O,Ae (An (Aa O)<|Ag 0<|Az<|zDf<|zAn O)<|Aa O]] [AF [Ae (nsD U)<|Aa U,Ae (zAh O)<|Aa O,Ae (zAn O)<|Aa O]] (LeL.of_eq (by simp(disch:=omega) only[AV,hu3,hu2])) (by exact hso)<|ve (Ac=Ac/\Ab=Ab/\3=3/\3<=3)<|zJ<|vret (3<=3)<|.inr rfl
set_option maxHeartbeats 4000000 in
theorem zZk(A:List Nat)(l:List (Rw×Bool))(v:Int)(ha:A.length<=32)(hb:l.length<=1000000)(hl:∀p∈l,p.1.length=A.length)(hv:∀p∈l,∀x∈p.1,Vs x)(hs0:∀p∈l,okB p.2)(hs:∀i,∀x∈(sumT Sb.add [] ((l.map λp=>(zR p.1 (zCd (λu=>decide ((u:Int)≠v)) A),p.2)).take i)).map (·.2),okB x):
  Pure Ap 126 [booD,fcDB A l,iD v] [] (fcDB ((zCd (λu=>decide ((u:Int)≠v)) A).map λj=>A.getD j 0) (srtL (sumT Sb.add [] (l.map λp=>(zR p.1 (zCd (λu=>decide ((u:Int)≠v)) A),p.2))))):=by
 refine zG (T:=Tc) (zVe _ _ _) mixed Tryz.func126 rfl<|zB<|zA rfl<|v0s<|veT<|zB<|zA rfl<|veT<|zB<|zA rfl<|vrT 1<|vnil<|zC<|vnn (fr 108 [(0,booD),(2,iD v),(4,Ao 0 0),(6,Ao 1 0),(7,nl),(8,Ao 2 0)]) [Ak [Ae (nsD A)<|Aa A,Ae (zAh l)<|Aa l,Ae (zAn l)<|Aa l] 133 0 Ac Ac Am,Ak [nl,nl,nl] 133 0 Ac Ac Am,Ak [nl,nl,nl] 133 0 Ac Ac Am]<|zB9 (BB (j:=2) (i:=0) (intB []) rfl rfl rfl rfl) ?_;refine zB<|zB<|zA rfl<|v0s<|ve (True/\0<3)<|zF<|zAw (λ(i:Nat)(c:List Nat)=>fr 108 [(0,booD),(2,iD v),(4,Ao 0 0),(6,Ao 1 0),(7,Af 4 0 (Aa c) (Aa c) Ab),(8,Ao 2 0),(20,Ae (nsD A)<|Aa A),(21,iD (Aa A:Int)),(22,iD (i:Int))]) (λ(i:Nat)(c:List Nat)=>[fB1B (.row (nsD A) A.length) (.row (zAh l) l.length)<|.row (zAn l) l.length,fB1B nl nl nl,fB1B (.osl 3 0 c.length c.length Ab) nl nl,intB<|nsD (c.map λj=>A.getD j 0),intB<|nsD c]) (λi c=>A.length-i) (λ(i:Nat)(c:List Nat)=>i<=A.length/\c=((Av A.length).take i).filter λj=>decide (((A.getD j 0:Nat):Int)≠v)) 0 [] ?_ ?_ ?_
 ·exact⟨by omega,by simp⟩
 ·refine vk 4
 rintro i c ⟨h1,h2⟩;have hlen:c.length<=32:=by rw[h2];exact A1 (Bd _ _) (by simp;omega)
 rcases AM i A.length with h3|h3
 ·have h4:=zR4 (λu=>decide ((u:Int)≠v)) A i h3;rw[<-h2]at h4;focus
   refine zB<|zA rfl<|v0s<|veT<|zB<|vT ((i:Int)<(Aa A:Int))<|zK<|zC<|zD<|zB<|zF<|zB<|zA rfl<|vr 2 (ix (i:Int) (Aa A:Int) (nsD A≠[])) ?_ ⟨(by omega),⟨(by omega),(by exact zAb)⟩⟩;refine vp 25 (i) (nsD A)<|vr 1 (0<Aa (Ag i<|nsD A))<|vs 26 (AR (Ag i<|nsD A) Uk) (iD (↑(Ar A i 0):Int)) (hd:=by simp(disch:=omega) only[zAv])<|veT<|zB<|zA rfl<|veT<|zAr (t:=(↑(Ar A i 0):Int)!=v) (by kernel_rfl) (λhc=>?_)<|λhc=>?_;simp only[bne_iff_ne]at hc;refine zB<|zA rfl<|vr 5 (((1=1/\1<=1/\True)/\0<1/\1=1/\1<=16777216/\1<=9223372036854775807)/\AZ (intB<|nsD c)=Ab/\Aa (Az<|intB<|nsD c)=Aa c*1/\Aa c=Aa c*1/\AK (intB<|nsD c)=3/\AL (intB<|nsD c)=1/\1=1/\0<1/\0<8/\3=3/\(Aa c+1)*8<=140737488355328/\1=1/\AS (Ay<|intB<|nsD c)=Ac/\(Ac=Ac\/AT (Ay<|intB<|nsD c)=Ab))<|vs 7 (Af 4 0 (Aa c+1) ((Aa c+1)*1) Ab) (Af 4 0 (Aa c+1) (Aa c+1) Ab) (hd:=by simp(disch:=omega) only[A2])<|veT<|zA rfl<|vr 7 (True/\0<3/\((1=1/\1<=1/\True)/\0<1/\1=1/\1<=16777216/\1<=9223372036854775807)/\(AZ (Ak (nsD<|Ad (λ(j:Nat)=>Ar A j 0) c) 3 1 Ab Ac Am)=Ab/\Aa (nsD<|Ad (λ(j:Nat)=>Ar A j 0) c)=Aa c*1/\Aa c=Aa c*1/\AK (Ak (nsD<|Ad (λ(j:Nat)=>Ar A j 0) c) 3 1 Ab Ac Am)=3/\AL (Ak (nsD<|Ad (λ(j:Nat)=>Ar A j 0) c) 3 1 Ab Ac Am)=1/\1=1/\0<1/\0<8/\3=3/\(Aa c+1)*8<=140737488355328/\1=1/\AS (Ay<|Ak (nsD<|Ad (λ(j:Nat)=>Ar A j 0) c) 3 1 Ab Ac Am)=Ac/\(Ac=Ac\/AT (Ay<|Ak (nsD<|Ad (λ(j:Nat)=>Ar A j 0) c) 3 1 Ab Ac Am)=Ab))/\True/\Ac=Ac/\Ab=Ab/\1=1/\1<=3)<|vb 2 (Ak [Af 3 0 (Aa c+1) ((Aa c+1)*1) Ab,nl,nl] 133 0 Ac Ac<|Ay<|Ak [Uk,nl,nl] 133 0 Ac Ac Am) (Ak [Af 3 0 (Aa c+1) (Aa c+1) Ab,nl,nl] 133 0 Ac Ac Am) (hd:=by simp(disch:=omega) only[A2])<|vnil<|zE<|zC<|zD<|zA rfl<|vr 2 (i6 ((i:Int)+(1:Int)))<|vnil<|zC ?_;rotate_left;simp only[bne_eq_false_iff_eq]at hc;refine zK<|zE<|zC<|zD<|zA rfl<|vr 2 (i6 ((i:Int)+(1:Int)))<|vnil<|zC ?_;rotate_left
  ·rw[if_pos (by simpa using hc)]at h4;refine⟨i+1,c++[i],⟨by omega,h4.symm⟩,by omega,?_⟩;rw[show nsD ((c++[i]).map λj=>A.getD j 0)=nsD (c.map λj=>A.getD j 0)++[iD (A.getD i 0:Nat)] by simp,zS2,A7];refine vk 5
  rw[if_neg (by simpa using hc),BS]at h4;refine⟨i+1,c,⟨by omega,h4.symm⟩,by omega,?_⟩;refine vk 5
 have ec:c=zCd (λu=>decide ((u:Int)≠v)) A:=by
  rw[AJ (by simpa using h3)]at h2;exact h2
 rw[<-ec]at hs⊢;clear h1 h2;refine zB<|zA rfl<|v0s<|veT<|zB<|vF ((i:Int)<(Aa A:Int))<|zV<|zM<|zM<|zQ rfl<|zC<|zD<|zB<|zA rfl<|vrT 2<|vnil<|zC<|vnn (fr 108 [(0,booD),(2,iD v),(4,Ao 0 0),(6,Ao 1 0),(7,Af 4 0 (Aa c) (Aa c) Ab),(8,Ao 2 0),(11,D.mref 5),(20,Ae (nsD A)<|Aa A),(21,iD (Aa A:Int)),(22,iD (i:Int)),(23,bD<|decide ((i:Int)<(Aa A:Int))),(41,D.mref 5)]) [fB1B (Ae (nsD A)<|Aa A) (Ae (zAh l)<|Aa l)<|Ae (zAn l)<|Aa l,fB1B nl nl nl,fB1B (Af 3 0 (Aa c) (Aa c) Ab) nl nl,intB<|nsD<|Ad (λ(j:Nat)=>Ar A j 0) c,intB<|nsD c,Ak [] 216 0 Ab Ac<|Kd.map []] ?_;have hc0:=zHd c _ rfl;refine zB9 (((BB (j:=2) (i:=1) (rowB []) rfl rfl rfl rfl).trans (BB (j:=2) (i:=2) (zDf []) rfl rfl rfl rfl)).trans<|Weak.osr (s:=7) (k:=4) (off:=0) (n:=c.length) (m:=c.length) (wh:=Ab) (cs:=nsD c) (by kernel_rfl) (show Ai (Ae (((nsD c).drop 0).take c.length) c.length,[4])=_ by rw[AV,hc0])) ?_;refine zB<|zB<|zA rfl<|v0s<|ve (True/\0<2)<|zF ?_;obtain⟨z,hz⟩:∃z:Bool,z=false:=⟨_,rfl⟩;have hcl:∀j∈c,j<A.length:=λj h=>by
  rw[ec]at h;simpa using(Bq.1 h).1
 generalize hL:(l.map λp=>(zR p.1 c,p.2))=L at*;have hLl:L.length=l.length:=by rw[<-hL];simp
 have hLg:∀i,i<l.length->L.getD i As=(zR ((l.map (·.1)).getD i []) c,(l.map (·.2)).getD i Ac):=λi hi=>by
  rw[<-hL];simp[AC,hi]
 refine zBh (λ(i:Nat)(K:List Rw)(W:List Bool)=>fr 108 [(0,booD),(4,Ao 0 0),(6,Ao 1 0),(7,D.osr 4 0 (Aa c) (Aa c) Ab<|nsD c),(8,Ao 2 0),(11,D.mref 5),(43,Ae (zAh l)<|Aa l),(44,iD (Aa l:Int)),(45,iD (i:Int))]) (λ(i:Nat)(K:List Rw)(W:List Bool)=>[fB1B (.row (nsD A) A.length) (.row (zAh l) l.length)<|.row (zAn l) l.length,fB1B nl nl nl,fB1B (.osl 3 0 c.length c.length Ab) (.osl 6 0 W.length W.length Ab)<|.osl 7 0 W.length W.length Ab,intB<|nsD (c.map λj=>A.getD j 0),⟨nsD c,3,1,Ab,Ab,.plain⟩,mapI K,rowB<|K.map rowV,zDf<|W.map bD]) (λi K W=>l.length-i) (λ(i:Nat)(K:List Rw)(W:List Bool)=>i<=l.length/\K=(sumT Sb.add []<|L.take i).map (·.1)/\W=(sumT Sb.add []<|L.take i).map (·.2)) 0 [] [] ?_ ?_ ?_
 ·exact⟨by omega,by simp[sumT],by simp[sumT]⟩
 ·refine vk 8
 rintro i K W ⟨g1,g2,g3⟩;have hKW:W.length=K.length:=by rw[g2,g3];simp
 have hKl:K.length<=1000000:=by
  have:=zVo Sb.add (L.take i) ([]:List (Rw×Bool))
  rw[g2,AN];simp only[By,CE]at this;omega
 rcases AM i l.length with h4|h4
 ·have hne:zAh l≠[]:=zAb (h:=by simp;omega);have hne2:zAn l≠[]:=zAb (h:=by simp;omega);have hrow:(l.map (·.1)).getD i []∈l.map (·.1):=by
   rw[AC,AD (by simpa using h4)];exact A0 _
  obtain⟨p,hp,he⟩:=AG.1 hrow;have hlen2:=hl p hp;have hvs:=hv p hp;rw[he]at hlen2 hvs;have hsu:=zZi Sb.add L i (by omega);rw[hLg i h4]at hsu;have hk1:=congrArg (Ad (·.1)) hsu;have hw1:=congrArg (Ad (·.2)) hsu;simp only[zFt,<-g2]at hk1;simp only[zSi,<-g2,<-g3]at hw1;have hwm:(l.map (·.2)).getD i Ac∈l.map (·.2):=by
   rw[AC,AD (by simpa using h4)];exact A0 _
  obtain⟨p',hp',he'⟩:=AG.1 hwm;have hs3:=hs0 p' hp';rw[he']at hs3;have hsW:∀x∈W,okB x:=λx hx=>hs i x (by rw[<-g3];exact hx);have hx1:=zBg (l.map (·.1)) i (by simpa using h4);have hx2:=zHq (l.map (·.2)) i (by simpa using h4);generalize (l.map (·.1)).getD i []=row at*;generalize (l.map (·.2)).getD i Ac=w at*;have hk:=key_c row c _ _ rfl rfl (by omega) (by omega) (by rw[hlen2];exact hcl) hvs;have hpj:=zJa row c _ _ rfl rfl (by omega) (by omega) (by rw[hlen2];exact hcl);have hlk:=look_i K (zR row c);by_cases hm:zR row c∈K
  ·rw[if_pos hm]at hk1 hw1 hlk;have hid:=BR.2 hm;generalize K.idxOf (zR row c)=d at*;have hs2:=hsW _ (show W.getD d Ac∈W by rw[AC,AD (by omega)];exact A0 _);focus
    refine zB (zA rfl (v0s (veT (zB (vT ((i:Int)<(Aa l:Int)) (zK (zC (zD (zB (zF (zB (zA rfl (vr 2 (ix (i:Int) (Aa l:Int) (zAh l≠[])) (vp 48 (i) (zAh l) (vr 1 (0<Aa (Ag i (zAh l))) (vsh 49 hx1 (veT (zB (zA rfl (vrT 2 (vc (hk) (veT (zB (zA rfl (vwh 3 [] [] (zT (A9 (A_ Ba "string" 1 16 Ab 8 8 (Ai (AO (AW #[]))) Ab #[])) (AO (bs (idR (zR row c))))=Ab/\BK (Ad kyv K) (zT (A9 (A_ Ba "string" 1 16 Ab 8 8 (Ai (AO (AW #[]))) Ab #[])))=Ab) ?_ ?_)))))))))))))))))))))))));rotate_left;refine vsh 56 hlk (ve (0<2/\1<2) (zB (zB (zA rfl (veT (vf (zK (zC (zD (vd [0,2,3,4,6,9,11,14,15,16,1,5,7,8,10,12,13,17,18,19] (vr 13 (True/\True/\True/\0<1/\0<1/\(0:Int)<=(d:Int)/\(d:Int)<(Aa W:Int)) (vo 93 7 (d) (vr 1 (0<Aa (Ag d (Az (zDf (Ad bD W))))) (vs 94 (AR (Ag d (Az (zDf (Ad bD W)))) Uk) (bD (Ar W d Ac)) (hd:=by simp(disch:=omega) only[zHq]) (vr 2 (0<1/\ix (i:Int) (Aa l:Int) (zAn l≠[])) (vp 98 (i) (zAn l) (vr 1 (0<Aa (Ag i (zAn l))) (vsh 99 hx2 (vc (badd_c _ _ hs2 hs3) (vr 1 ((0:Int)<=(d:Int)/\(d:Int)<(Aa W:Int)) (vo 104 7 (d) (vr 1 (A5 (zDf (Ad bD W))=Ac/\Ab=Ab/\1=1/\d+1<=Aa (Az (zDf (Ad bD W)))/\¬7∈[]) (vnil (zE (zC (zD (zA rfl (vr 2 (i6 ((i:Int)+(1:Int))) (vnil (zC ?_))))))))))))))))))))))))))))));rotate_left
   ·exact⟨rfl,zFp _⟩
   refine⟨i+1,K,W.set d (Sb.add (W.getD d Ac) w),⟨by omega,hk1.symm,hw1.symm⟩,by omega,?_⟩;rw[show(W.set d (Sb.add (W.getD d Ac) w)).map bD=(W.map bD).set d (bD (Sb.add (W.getD d Ac) w)) by simp,show(W.set d (Sb.add (W.getD d Ac) w)).length=W.length by simp];refine vk 8
  rw[if_neg hm]at hk1 hw1 hlk;have hmp:=mput_i K (zR row c) hm;rw[<-hKW]at hmp;have hzw:Sb.add z w=w:=by rw[hz];exact zadB w
  have hca:=badd_c z w (hz▸zokB) hs3;rw[hzw]at hca;have hla:∀d:D,((W.map bD++[d]).drop W.length).headD .unk=d:=λd=>by rw[List.drop_left' (by simp)];rfl
  have hse:∀d e:D,(W.map bD++[d]).set W.length e=W.map bD++[e]:=λd e=>by
   rw[List.set_append];simp
  focus
   refine zB (zA rfl (v0s (veT (zB (vT ((i:Int)<(Aa l:Int)) (zK (zC (zD (zB (zF (zB (zA rfl (vr 2 (ix (i:Int) (Aa l:Int) (zAh l≠[])) (vp 48 (i) (zAh l) (vr 1 (0<Aa (Ag i (zAh l))) (vsh 49 hx1 (veT (zB (zA rfl (vrT 2 (vc (hk) (veT (zB (zA rfl (vwh 3 [] [] (zT (A9 (A_ Ba "string" 1 16 Ab 8 8 (Ai (AO (AW #[]))) Ab #[])) (AO (bs (idR (zR row c))))=Ab/\BK (Ad kyv K) (zT (A9 (A_ Ba "string" 1 16 Ab 8 8 (Ai (AO (AW #[]))) Ab #[])))=Ab) ?_ ?_)))))))))))))))))))))))));rotate_left;refine vsh 56 hlk (ve (0<2/\1<2) (zB (zB (zA rfl (veT (vt (zB (zA rfl (ve (True/\0<2) (zB (zA rfl (vwh 4 [] [] (A5 (mapI K)=Ac/\zT (A9 (A_ Ba "string" 1 16 Ab 8 8 (Ai (AO (AW #[]))) Ab #[])) (AO (bs (idR (zR row c))))=Ab/\BK (Ad kyv K) (zT (A9 (A_ Ba "string" 1 16 Ab 8 8 (Ai (AO (AW #[]))) Ab #[])))=Ab/\¬5∈[]) ?_ ?_))))))))))));rotate_left;refine vb 5 (mput (mapI K) (Ad kyv K) (AO (bs (idR (zR row c)))) (iD (Aa W:Int))) (mapI (K++[zR row c])) (hd:=by simp(disch:=omega) only[hmp]) (veT (zB (zA rfl (vrT 2 (vc (hpj) (ve (0<2/\1<2) (zB (zA rfl (vr 7 (True/\0<2/\((1=1/\1<=1/\True)/\0<1/\1=1/\1<=16777216/\1<=9223372036854775807)/\(AZ (rowB (Ad rowV K))=Ab/\Aa (Az (rowB (Ad rowV K)))=Aa W*1/\Aa W=Aa W*1/\AK (rowB (Ad rowV K))=29/\AL (rowB (Ad rowV K))=1/\1=1/\0<1/\0<24/\29=29/\(Aa W+1)*24<=140737488355328/\1=1/\AS (Ay (rowB (Ad rowV K)))=Ac/\(Ac=Ac\/AT (Ay (rowB (Ad rowV K)))=Ab))/\True/\A5 (Ak [Af 3 0 (Aa c) (Aa c) Ab,Uk,Af 7 0 (Aa W) (Aa W) Ab] 133 0 Ac Ac Am)=Ac/\Ab=Ab/\1=1/\2<=3) (vb 2 (Ak [Af 3 0 (Aa c) (Aa c) Ab,Af 6 0 (Aa W+1) ((Aa W+1)*1) Ab,Af 7 0 (Aa W) (Aa W) Ab] (AK (Ak [Af 3 0 (Aa c) (Aa c) Ab,Uk,Af 7 0 (Aa W) (Aa W) Ab] 133 0 Ac Ac Am)) (AL (Ak [Af 3 0 (Aa c) (Aa c) Ab,Uk,Af 7 0 (Aa W) (Aa W) Ab] 133 0 Ac Ac Am)) Ac Ac (Ay (Ak [Af 3 0 (Aa c) (Aa c) Ab,Uk,Af 7 0 (Aa W) (Aa W) Ab] 133 0 Ac Ac Am))) (Ak [Af 3 0 (Aa c) (Aa c) Ab,Af 6 0 (Aa W+1) (Aa W+1) Ab,Af 7 0 (Aa W) (Aa W) Ab] 133 0 Ac Ac Am) (hd:=by simp(disch:=omega) only[A2]) ?_))))))))));refine veT (vd [0,2,1,3,4,5,6,7] (vr 3 (True/\0<1) (vc (bzero_c z hz) (vr 4 (((1=1/\1<=1/\True)/\0<1/\1=1/\1<=16777216/\1<=9223372036854775807)/\(AZ (Ak (Ad bD W) 4 1 Ab Ac Am)=Ab/\Aa (Ad bD W)=Aa W*1/\Aa W=Aa W*1/\AK (Ak (Ad bD W) 4 1 Ab Ac Am)=4/\AL (Ak (Ad bD W) 4 1 Ab Ac Am)=1/\1=1/\0<1/\0<1/\4=4/\(Aa W+1)*1<=140737488355328/\1=1/\AS (Ay (Ak (Ad bD W) 4 1 Ab Ac Am))=Ac/\(Ac=Ac\/AT (Ay (Ak (Ad bD W) 4 1 Ab Ac Am))=Ab))/\True/\A5 (Ak [Af 3 0 (Aa c) (Aa c) Ab,Af 6 0 (Aa W+1) (Aa W+1) Ab,Uk] 133 0 Ac Ac Am)=Ac/\Ab=Ab/\1=1/\3<=3) (vb 2 (Ak [Af 3 0 (Aa c) (Aa c) Ab,Af 6 0 (Aa W+1) (Aa W+1) Ab,Af 7 0 (Aa W+1) ((Aa W+1)*1) Ab] (AK (Ak [Af 3 0 (Aa c) (Aa c) Ab,Af 6 0 (Aa W+1) (Aa W+1) Ab,Uk] 133 0 Ac Ac Am)) (AL (Ak [Af 3 0 (Aa c) (Aa c) Ab,Af 6 0 (Aa W+1) (Aa W+1) Ab,Uk] 133 0 Ac Ac Am)) Ac Ac (Ay (Ak [Af 3 0 (Aa c) (Aa c) Ab,Af 6 0 (Aa W+1) (Aa W+1) Ab,Uk] 133 0 Ac Ac Am))) (Ak [Af 3 0 (Aa c) (Aa c) Ab,Af 6 0 (Aa W+1) (Aa W+1) Ab,Af 7 0 (Aa W+1) (Aa W+1) Ab] 133 0 Ac Ac Am) (hd:=by simp(disch:=omega) only[A2]) (veT (vd [0,2,3,4,6,9,11,14,15,16,1,5,7,8,10,12,13,17,18,19] (vr 13 (True/\True/\True/\0<1/\0<1/\(0:Int)<=(Aa W:Int)/\(Aa W:Int)<(↑(Aa W+1):Int)) (vo 93 7 (Aa W) (vr 1 (0<Aa (Ag (Aa W) (Ad bD W++[bD z]))) (vs 94 (AR (Ag (Aa W) (Ad bD W++[bD z])) Uk) (bD z) (hd:=by simp(disch:=omega) only[hla]) (vr 2 (0<1/\ix (i:Int) (Aa l:Int) (zAn l≠[])) (vp 98 (i) (zAn l) (vr 1 (0<Aa (Ag i (zAn l))) (vsh 99 hx2 (vc (hca) (vr 1 ((0:Int)<=(Aa W:Int)/\(Aa W:Int)<(↑(Aa W+1):Int)) (vo 104 7 (Aa W) (vr 1 (A5 (Ak (Ad bD W++[bD z]) 4 1 Ab Ac Am)=Ac/\Ab=Ab/\1=1/\Aa W+1<=Aa (Ad bD W++[bD z])/\¬7∈[]) (vnil (zE (zC (zD (zA rfl (vr 2 (i6 ((i:Int)+(1:Int))) (vnil (zC ?_)))))))))))))))))))))))))));rotate_left
  ·exact⟨rfl,zFp _⟩
  ·exact⟨rfl,rfl,zFp _,by simp⟩
  refine⟨i+1,K++[zR row c],W++[w],⟨by omega,hk1.symm,hw1.symm⟩,by omega,?_⟩;refine wkn (fr 108 [(0,booD),(4,Ao 0 0),(6,Ao 1 0),(7,D.osr 4 0 (Aa c) (Aa c) Ab (nsD c)),(8,Ao 2 0),(11,D.mref 5),(12,iD (↑i:Int)),(15,iD (↑(Aa W):Int)),(43,Ae (zAh l) (Aa l)),(44,iD (↑(Aa l):Int)),(45,iD (↑(i+1):Int)),(86,Ao 2 2),(87,Af 7 0 (Aa W+1) (Aa W+1) Ab),(88,iD (↑(Aa W):Int)),(89,D.ifc 129 (AF [])),(90,Ao 2 2),(91,Af 7 0 (Aa W+1) (Aa W+1) Ab),(92,iD (↑(Aa W):Int)),(93,Ao 7 (Aa W)),(94,bD z),(95,Ao 0 2),(96,Ae (zAn l) (Aa l)),(97,iD (↑i:Int)),(98,A8 (Ag i (zAn l))),(99,bD w),(100,Bm (Fn.method "Add") [D.ifc 129 (AF [])] []),(101,Bm (Fn.method "Add") [D.ifc 129 (AF [])] []),(102,D.ifc 129 (AF [])),(103,bD w),(104,Ao 7 (Aa W)),(105,iD (↑(i+1):Int))]) [Ak [Ae (nsD A) (Aa A),Ae (zAh l) (Aa l),Ae (zAn l) (Aa l)] (133:TypeId) 0 Ac Ac Am,Ak [nl,nl,nl] (133:TypeId) 0 Ac Ac Am,Ak [Af 3 0 (Aa c) (Aa c) Ab,Af 6 0 (Aa W+1) (Aa W+1) Ab,Af 7 0 (Aa W+1) (Aa W+1) Ab] 133 0 Ac Ac Am,Ak (nsD (Ad (λ(j:Nat)=>Ar A j 0) c)) (3:TypeId) 1 Ab Ac Am,Ak (nsD c) (3:TypeId) 1 Ab Ab Am,Ak (nsD (Av (Aa (K++[zR row c])))) (216:TypeId) 0 Ab Ac (Kd.map (Ad kyv (K++[zR row c]))),Ak (Ad rowV K++[Ae (zL (zR row c)) (Aa c)]) (29:TypeId) 1 Ab Ac Am,Ak (List.set (Ad bD W++[bD z]) (Aa W) (bD w)) 4 1 Ab Ac Am,Ak [Ae (zL (zR row c)) (Aa c)] 29 1 Ab Ac Am,Ak [bD z] 4 1 Ab Ac Am] ?_;rw[hse];have hpl:(zR row c).length=c.length:=by simp[zR]
  rw[show(K++[zR row c]).map rowV=K.map rowV++[.row (zL (zR row c)) c.length] by rw[<-hpl];simp,show(W++[w]).map bD=W.map bD++[bD w] by simp,show(W++[w]).length=W.length+1 by simp];refine vk 8
 have hn:Ndk (sumT Sb.add [] L):=zKb _ L [] (by simp[Ndk]);rw[AJ (by omega)]at g2 g3;have hso:=zQj (c.map λj=>A.getD j 0) (sumT Sb.add [] L) (by rw[<-AN (f:=λp:Rw×Bool=>p.1),<-g2];exact hKl) (λp hp=>by
  have:=(zVp _ L [] p hp).resolve_left (by simp)
  obtain⟨q,hq,e⟩:=AG.1 this;rw[<-hL]at hq;obtain⟨q',_,rfl⟩:=AG.1 hq;rw[<-e];simp only[zR,AN];omega) hn
 have hT:(sumT Sb.add [] L).length=W.length:=by rw[g3,AN]
 have ht1:=zHd (c.map λj=>A.getD j 0) c.length (by simp);have ht2:(K.map rowV).take W.length=K.map rowV:=AJ (by simp[hKW]);have ht3:(W.map bD).take W.length=W.map bD:=AJ (by simp);simp only[fcDB,zAh,zAn,<-g2,<-g3,hT]at hso;rw[AN]at hso;refine zB<|zA rfl<|v0s<|veT<|zB<|vF ((i:Int)<(Aa l:Int))<|zV<|zM<|zM<|zQ rfl<|zC<|zD<|zB<|zA rfl<|vr 1 (3<=3)<|vcl [AF [Ae (An (Aa c)<|Ag 0<|Az<|intB<|nsD<|Ad (λ(j:Nat)=>Ar A j 0) c)<|Aa c,Ae (An (Aa W)<|Ag 0<|Az<|rowB<|Ad rowV K)<|Aa W,Ae (An (Aa W)<|Ag 0<|Az<|zDf<|Ad bD W)<|Aa W]] [AF [Ae (nsD<|Ad (λ(j:Nat)=>Ar A j 0) c)<|Aa c,Ae (Ad rowV K)<|Aa W,Ae (Ad bD W)<|Aa W]] (LeL.of_eq (by simp(disch:=omega) only[AV,ht3,ht1,ht2])) (by exact hso)<|ve (Ac=Ac/\Ab=Ab/\3=3/\3<=3)<|zJ<|vre (3<=3) (AF [Ae (nsD<|Ad (λ(j:Nat)=>Ar A j 0) c)<|Aa c,Ae (Ad rowV<|Ad (λ(x:Rw×Bool)=>Bf x)<|srtL<|sumT (Sr.add Sb) [] L)<|Aa<|srtL<|sumT (Sr.add Sb) [] L,Ae (Ad bD<|Ad (λ(x:Rw×Bool)=>BD x)<|srtL<|sumT (Sr.add Sb) [] L)<|Aa<|srtL<|sumT (Sr.add Sb) [] L]) (.inr rfl) (by simp)
end
section
open Go.RowKit
set_option maxRecDepth 100000
structure Raw where
 V:List Int
 R:List Rw
 W:List Int
 deriving Inhabited
abbrev rawC(f:Raw):List D:=[.row (f.V.map iD) f.V.length, .row (f.R.map rowV) f.R.length, .row (f.W.map iD) f.W.length]
def Vi(a:Va):Prop:=inK .i64 a.kind/\inK .i64 a.int/\a.str.length<=maxLen
structure RawOk(f:Raw):Prop where
 v:∀z∈f.V,inK .i64 z
 r:∀x∈f.R,∀a∈x,Vi a
 w:∀z∈f.W,inK .i64 z
theorem pred1(k:Nat):((k+1:Nat):Int)-1=(k:Int):=by omega
end
section
open Go.RowKit
section
variable {A B : List Nat} {la lb : List (Rw × Nat)}
end
abbrev intL(A:List Nat):List Int:=A.map λv:Nat=>(v:Int)
end
section
open Go.RowKit
attribute [local irreducible] seqW awp zW zX zP Weak updS zZ retL Pure Acts rP setP setQ cP nP fr
set_option maxRecDepth 4096
abbrev faAc(f:Fa Nat):List D:=fcC (f.A,f.l)
def Okv(Dm:List Va):Prop:=∀a∈Dm,vok a=Ab/\Vs a
structure Gof(Dm:List Va)(f:Fa Nat):Prop where
 ok:FOk rcmp Dm f
 r:rz f<=900000
 v:vz f<=4000000000000000000
section
variable {Dm : List Va} (hD : Okv Dm)
theorem chk_ok{n:Int}{f:Fa Nat}(hf:FOk rcmp Dm f)(hD:Okv Dm)(hn:∀v∈f.A,(v:Int)<n):chk n (intL f.A) (f.l.map (·.1)) (f.l.map (·.2)).length=0:=by
 have eA:(intL f.A).length=f.A.length:=by simp
 refine chk_0 (zJb λj hj=>?_) (by simp) ?_ ?_ (zJb λj hj=>?_)
 ·rw[eA]at hj;have hg:∀i,i<f.A.length->(intL f.A).getD i 0=((f.A.getD i 0:Nat):Int):=λi hi=>by simp[AC,hi]
  refine zSo (by rw[hg j hj];omega) (by rw[hg j hj];exact hn _ (zF8 _ _ hj)) ?_;rcases Cg j with h|h
  ·exact .inl h
  refine .inr ?_;rw[hg j hj,hg (j-1) (by omega)]
  have:=CC.1 hf.asc.1 (j-1) j (by omega) hj (by omega)
  grind
 ·rw[A6];intro x hx;obtain⟨p,hp,rfl⟩:=AG.1 hx;exact decide_eq_true (by rw[eA];exact hf.len p hp)
 ·rw[A6];intro x hx;obtain⟨p,hp,rfl⟩:=AG.1 hx;rw[A6];exact λa ha=>(hD a (hf.dom p hp a ha)).1
 rcases Cg j with h|h
 ·subst h;rfl
 have hs:(f.l.map (·.1)).Pairwise λp q=>rcmp p q<0:=CA.2 hf.srt
 have:=CC.1 hs (j-1) j (by omega) hj (by omega)
 have e:zN7 (f.l.map (·.1)) j=decide (rcmp ((f.l.map (·.1)).getD (j-1) []) ((f.l.map (·.1)).getD j [])<0):=by
  unfold zN7;grind
 grind
end
end
section
open Go.RowKit
set_option maxRecDepth 4096
abbrev zAc(f:Fa Bool):List D:=fcCB (f.A,f.l)
abbrev faAB(f:Fa Bool):D:=fcDB f.A f.l
theorem zAq(f:Fa Bool):(zAc f).length=3:=rfl
structure GofB(Dm:List Va)(f:Fa Bool):Prop where
 ok:FOk rcmp Dm f
 r:rz f<=900000
 v:bz f<=Bz
section
variable {Dm : List Va} (hD : Okv Dm)
theorem GofB.fv{f:Fa Bool}(h:GofB Dm f)(hD:Okv Dm):FVB (f.A,f.l):=
 ⟨h.ok.asc,h.ok.len,λp hp x hx=>(hD x (h.ok.dom p hp x hx)).2,by have:=h.r;unfold rz at this;simp only;omega,bz_ok h.v,h.ok.ndk rcw⟩
theorem zJz(hD:Okv Dm)(f g:Fa Bool)(os:List (Fa Bool))(hf:GofB Dm f)(hg:GofB Dm g)(ho:∀o∈os,GofB Dm o)(hl:os.length<=1000)(hr:rz f*rz g<=900000):
  Pure Ap 92 [booD,faAB f,faAB g, .row (os.flatMap zAc) os.length] [] (faAB (fmul rcmp Sb f g os)):=by
 simp only[rz,Nat.mul_add,Nat.add_mul]at hr;have h:=zS3 (f.A,f.l) (g.A,g.l) (os.map λo=>(o.A,o.l)) (hf.fv hD) (hg.fv hD) (λo hm=>by
  obtain⟨o',hm',rfl⟩:=AG.1 hm;exact(ho o' hm').fv hD) (by simpa using hl) (by simp only;omega)
 have e1:(os.map λo=>(o.A,o.l)).flatMap fcCB=os.flatMap zAc:=by rw[List.flatMap_map]
 rw[e1,AN]at h;have e2:((zDd Sb.mul f.A f.l g.A g.l).filter λp=>(os.map λo=>(o.A,o.l)).all λo=>okO (un f.A g.A) p.1 (faNB o))=(zDd Sb.mul f.A f.l g.A g.l).filter λp=>os.all λo=>okO (un f.A g.A) p.1 o:=by
  refine B7 λp _=>?_;rw[List.all_map];rfl
 have hn:=zHa (f:=Sb.mul) hf.ok.asc hg.ok.asc (hf.ok.ndk rcw) (hg.ok.ndk rcw) hf.ok.len hg.ok.len;have e3:fmul rcmp Sb f g os=⟨un f.A g.A,srtL ((zDd Sb.mul f.A f.l g.A g.l).filter λp=>os.all λo=>okO (un f.A g.A) p.1 o)⟩:=by
  unfold fmul;rw[zVd Sb.add (zJe (λs=>os.all λo=>okO (un f.A g.A) s o) hn)]
 rw[e3,<-e2];exact h
theorem zXz(hD:Okv Dm)(f:Fa Bool)(hf:GofB Dm f)(v:Nat)(hv:v∈f.A):Pure Ap 126 [booD,faAB f,iD (v:Nat)] [] (faAB (fsum rcmp Sb v f)):=by
 have hr:=hf.r;have hv2:=hf.v;unfold rz at hr;have h:=zZk f.A f.l v (zB1 hf.ok.asc) (by omega) hf.ok.len (λp hp x hx=>(hD x (hf.ok.dom p hp x hx)).2) (bz_ok hf.v) (λi=>sum_okB hf.v (λr=>zR r (zCd (λu=>decide ((u:Int)≠(v:Int))) f.A)) i);have e1:f.A.filter (λu:Nat=>decide ((u:Int)≠(v:Int)))=less f.A v:=B7 λu _=>by
  rw[BI,decide_eq_true_eq,decide_eq_true_eq];omega
 rw[zXi,e1]at h;have e2:(f.l.map λp=>(zR p.1 (zCd (λu:Nat=>decide ((u:Int)≠(v:Int))) f.A),p.2))=zRw f.A v f.l:=by
  unfold zRw;refine BM λp hp=>?_;rw[zHb hf.ok.asc.nd,e1];congr 1;conv=>rhs;rw[<-zPd hf.ok.asc.nd (hf.ok.len p hp),zRe,zD9 hf.ok.asc.nd]
 rw[e2,zZt]at h;exact h
end
end
section
open Go.RowKit
attribute [local irreducible] seqW awp zW zX zP Weak updS zZ retL Pure Acts rP setP setQ cP nP fr
set_option maxRecDepth 4096
def Tl:Par:=⟨λ_=>Ac,λ_ _=>Ax,λ_=>Ac,λ_=>Ac,λ_=>Ac⟩
theorem zYx:zBi Ap Tl:=by intro t n f h;cases h
end
section
open Go.RowKit
attribute [local irreducible] seqW awp zW zX zP Weak updS zZ retL Pure Acts rP setP setQ cP nP fr
set_option maxRecDepth 100000
theorem u8_rng(x:Int):0<=Aq.wrap x/\Aq.wrap x<256:=by
 unfold A4;have h:(2:Int)^Aq.bits=256:=by decide
 rw[h];simp only[IntKind.signed];grind
theorem and255(b:BitVec 32):(0:Int)<=((b&&&Au 32 255).toNat:Nat)/\(((b&&&Au 32 255).toNat:Nat):Int)<((256:Nat):Int):=by
 grind [A1,Nat.and_le_right]
theorem shr24(m:Nat)(hm:m<4294967296):0<=AX (m:Int) (2^24)/\AX (m:Int) (2^24)<((256:Nat):Int):=by
 grind
def popT:List UInt8:=[0,1,1,2,1,2,2,3,1,2,2,3,2,3,3,4,1,2,2,3,2,3,3,4,2,3,3,4,3,4,4,5,1,2,2,3,2,3,3,4,2,3,3,4,3,4,4,5,2,3,3,4,3,4,4,5,3,4,4,5,4,5,5,6,1,2,2,3,2,3,3,4,2,3,3,4,3,4,4,5,2,3,3,4,3,4,4,5,3,4,4,5,4,5,5,6,2,3,3,4,3,4,4,5,3,4,4,5,4,5,5,6,3,4,4,5,4,5,5,6,4,5,5,6,5,6,6,7,1,2,2,3,2,3,3,4,2,3,3,4,3,4,4,5,2,3,3,4,3,4,4,5,3,4,4,5,4,5,5,6,2,3,3,4,3,4,4,5,3,4,4,5,4,5,5,6,3,4,4,5,4,5,5,6,4,5,5,6,5,6,6,7,2,3,3,4,3,4,4,5,3,4,4,5,4,5,5,6,3,4,4,5,4,5,5,6,4,5,5,6,5,6,6,7,3,4,4,5,4,5,5,6,4,5,5,6,5,6,6,7,4,5,5,6,5,6,6,7,5,6,6,7,6,7,7,8]
def popB(i:Nat):Int:=((popT.toArray.getD i 0).toNat:Int)
theorem popW_c(m:Nat)(hm:m<4294967296):Pure Ap 124 [u32D m] [] (iD (Bo.wrap (Aq.wrap (Aq.wrap (Aq.wrap (popB (AX (m:Int) (2^24)).toNat+popB (Au 32 (AX (m:Int) (2^16))&&&Au 32 255).toNat)+popB (Au 32 (AX (m:Int) (2^8))&&&Au 32 255).toNat)+popB (Au 32 (m:Int)&&&Au 32 255).toNat)))):=by
 have h1:=shr24 m hm;have h2:=and255 (Au 32 (AX (m:Int) (2^16)));have h3:=and255 (Au 32 (AX (m:Int) (2^8)));have h4:=and255 (Au 32 (m:Int));refine zG zYx mixed Tryz.func124 rfl<|vAu<|zB<|vd [0,1,2,3,4,5,6,7,8,9,10,11,12,13,14,15,16,17,18]<|vr 6 ((0:Int)<=(24:Int)/\((0:Int)<=AX (m:Int) ((2:Int)^24)/\AX (m:Int) ((2:Int)^24)<(↑(256:Nat):Int))/\(0:Int)<=(16:Int)/\True)<|vs 8 (Aj<|Al AQ<|A4 AQ (↑(AU (Au 32 (AX (m:Int) ((2:Int)^16))&&&Au 32 (255:Int))):Int)) (dig<|AU (Au 32 (AX (m:Int) ((2:Int)^16))&&&Au 32 (255:Int))) (hd:=by simp(disch:=omega) only[zA5])<|vw 5 [10] [] (((0:Int)<=(↑(AU (Au 32 (AX (m:Int) ((2:Int)^16))&&&Au 32 (255:Int))):Int)/\(↑(AU (Au 32 (AX (m:Int) ((2:Int)^16))&&&Au 32 (255:Int))):Int)<(↑(256:Nat):Int))/\True/\(0:Int)<=(8:Int)/\True)<|vs 13 (Aj<|Al AQ<|A4 AQ (↑(AU (Au 32 (AX (m:Int) ((2:Int)^8))&&&Au 32 (255:Int))):Int)) (dig<|AU (Au 32 (AX (m:Int) ((2:Int)^8))&&&Au 32 (255:Int))) (hd:=by simp(disch:=omega) only[zA5])<|vw 4 [15] [] (((0:Int)<=(↑(AU (Au 32 (AX (m:Int) ((2:Int)^8))&&&Au 32 (255:Int))):Int)/\(↑(AU (Au 32 (AX (m:Int) ((2:Int)^8))&&&Au 32 (255:Int))):Int)<(↑(256:Nat):Int))/\True/\True)<|vs 17 (Aj<|Al AQ<|A4 AQ (↑(AU (Au 32 (m:Int)&&&Au 32 (255:Int))):Int)) (dig<|AU (Au 32 (m:Int)&&&Au 32 (255:Int))) (hd:=by simp(disch:=omega) only[zA5])<|vew [19,20] [] (((0:Int)<=(↑(AU (Au 32 (m:Int)&&&Au 32 (255:Int))):Int)/\(↑(AU (Au 32 (m:Int)&&&Au 32 (255:Int))):Int)<(↑(256:Nat):Int))/\True/\True)<|zJ<|vret (True)<|.inr rfl
theorem popc_c(m:Nat)(hm:m<4294967296):∃k:Nat,Pure Ap 124 [u32D m] [] (iD (k:Nat)):=by
 have h:=popW_c m hm;generalize Aq.wrap (popB (AX (m:Int) (2^24)).toNat+popB (Au 32 (AX (m:Int) (2^16))&&&Au 32 255).toNat)+popB (Au 32 (AX (m:Int) (2^8))&&&Au 32 255).toNat=a at h;have r:=u8_rng (Aq.wrap a+popB (Au 32 (m:Int)&&&Au 32 255).toNat);generalize Aq.wrap (Aq.wrap a+popB (Au 32 (m:Int)&&&Au 32 255).toNat)=b at h r;rw[zCa (k:= .i64) (by simp only[inK];omega)]at h;refine⟨b.toNat,?_⟩;grind
noncomputable def popN (m:Nat):Nat:=if hm:m<4294967296 then Classical.choose (popc_c m hm)else 0
theorem popN_c(m:Nat)(hm:m<4294967296):Pure Ap 124 [u32D m] [] (iD (popN m:Nat)):=by
 grind [popN,popc_c]
end
section
open Go.RowKit
attribute [local irreducible] seqW awp zW zX zP Weak updS zZ retL Pure Acts rP setP setQ cP nP fr
set_option maxRecDepth 4096
theorem max_nat(a b:Nat):(if((b:Nat):Int)>(a:Nat)then((b:Nat):Int)else((a:Nat):Int))=((max a b:Nat):Int):=by split<;>omega
theorem zZd{α:Type}(v:Nat)(fs:List (Fa α))(k:Nat)(h:k<fs.length):uniM v (fs.take (k+1))=if v∈(fs.getD k As).A then uniM v (fs.take k)|||msk (fs.getD k As).A else uniM v (fs.take k):=by
 grind [zA1,uniM]
theorem bigL_succ{α:Type}(v:Nat)(fs:List (Fa α))(k:Nat)(h:k<fs.length):bigL v (fs.take (k+1))=if v∈(fs.getD k As).A then max (bigL v (fs.take k)) (fs.getD k As).A.length else bigL v (fs.take k):=by
 grind [zA1,bigL]
theorem zSq{α:Type}(v:Nat):∀(fs:List (Fa α))(m:Nat),m<4294967296->(∀f∈fs,∀w∈f.A,w<32)->fs.foldl (λm f=>if v∈f.A then m|||msk f.A else m) m<4294967296
 |[],m,h,_=>h
 |f::fs,m,h,hf=>by
  rw[Cq];refine zSq v fs _ ?_ λg hg=>hf g (Bu _ hg);grind [zLe,zDg,BL]
theorem ch_succ{α:Type}(fs:List (Fa α))(E:List Nat)(i:Nat)(h:i<E.length)(s0:Int×Nat):(E.take (i+1)).foldl (zFs popN fs) s0=zFs popN fs ((E.take i).foldl (zFs popN fs) s0) (E.getD i 0):=by
 grind [Bb,AD]
set_option maxHeartbeats 8000000 in
theorem zT0(fs:List (Fa Bool))(E:List Nat)(hE:Asc E)(hne:E≠[])(hA:∀f∈fs,Asc f.A)(hl:fs.length<=1000):
  Pure Ap 90 [.row (fs.flatMap zAc) fs.length,u32D (msk E)] [] (iD (zBr popN fs E:Nat)):=by
 have hm:=zRc (msk E) (zDg hE.2);rw[zLk hE]at hm;have nE:=zB1 hE;refine zG zYx mixed Tryz.func90 rfl<|zB<|zA rfl<|v0s<|veT<|zB<|zA rfl<|veT<|zB<|zB<|zA rfl<|vrT 1<|vc (hm)<|veT<|zF<|zBh (λ(i:Nat)(b:Int)(l:Nat)=>fr 59 [(0,Ae (AH zAc fs)<|Aa fs),(4,iD 0),(5,iD b),(6,iD (l:Int)),(15,Ae (nsD E)<|Aa E),(16,iD (Aa E:Int)),(17,iD (i:Int))]) (λ(i:Nat)(b:Int)(l:Nat)=>[]) (λi b l=>E.length-i) (λ(i:Nat)(b:Int)(l:Nat)=>i<=E.length/\(b,l)=(E.take i).foldl (zFs popN fs) (-1,0)) 0 (-1) 0 ?_ ?_ ?_
 ·exact⟨by omega,rfl⟩
 ·refine vk 0
 rintro i b l ⟨h1,h2⟩;rcases AM i E.length with h3|h3
 ·have hz:=zAv E i h3;have hneE:nsD E≠[]:=zAb;have hst:=ch_succ fs E i h3 (-1,0);rw[<-h2]at hst;have hv32:=hE.2 _ (zF8 E i h3);generalize E.getD i 0=v at*;refine zB<|zA rfl<|v0s<|veT<|zB<|vT ((i:Int)<(Aa E:Int))<|zK<|zC<|zD<|zB<|zF<|zB<|zA rfl<|vr 1 (ix (i:Int) (Aa E:Int) (nsD E≠[]))<|vp 19 (i) (nsD E)<|vr 1 (0<Aa (Ag i<|nsD E))<|vsh 20 hz<|veT<|zB<|zA rfl<|veT<|zB<|zA rfl<|veT<|zB<|zB<|zA rfl<|veT<|zF<|zS (λ(k:Nat)=>fr 59 [(0,Ae (AH zAc fs)<|Aa fs),(4,iD 0),(5,iD b),(6,iD (l:Int)),(8,iD (v:Int)),(9,u32D<|uniM v<|An k fs),(10,iD (↑(bigL v<|An k fs):Int)),(15,Ae (nsD E)<|Aa E),(16,iD (Aa E:Int)),(17,iD (i:Int)),(21,Ae (AH zAc fs)<|Aa fs),(22,iD (Aa fs:Int)),(23,iD (k:Int))]) (λ(k:Nat)=>[]) (λk=>fs.length-k) (λ(k:Nat)=>k<=fs.length) 0 ?_ ?_ ?_
  ·omega
  ·refine vk 0
  rintro k k1;rcases AM k fs.length with k2|k2
  ·have hmf:=zAf fs As k k2;have hg2:=zJ0 zAq fs k k2;have hle:=zFe zAq fs k k2;have hne2:=zFd zAq (by decide) fs;have hAf:=hA _ hmf;have nAf:=zB1 hAf;have u1:=zZd v fs k k2;have u2:=bigL_succ v fs k k2;have u3:uniM v (fs.take k)<4294967296:=zSq v (fs.take k) 0 (by omega) λf hf=>(hA f (List.mem_of_mem_take hf)).2;have sA:=zJj (fs.getD k As).A _ rfl (by omega) hAf.2 (zAh (fs.getD k As).l) (zAn (fs.getD k As).l) (fs.getD k As).l.length (fs.getD k As).l.length;have hma:=zDg hAf.2;have w1:=zR8 hma v;have w2:=bit_w hma v;rw[zBu]at w1 w2;have w3:=zEo (msk (fs.getD k As).A) hv32;have w4:=zMo u3 hma;have w5:=zAs (zLe u3 hma);have w6:=max_nat (bigL v (fs.take k)) (fs.getD k As).A.length;generalize fs.getD k As=f at*;focus
    refine zB<|zA rfl<|v0s<|veT<|zB<|vT ((k:Int)<(Aa fs:Int))<|zK<|zC<|zD<|zB<|zF<|zB<|zA rfl<|vr 2 (ix (k:Int) (Aa fs:Int) (AH zAc fs≠[])/\3<=Aa (Ag (k*3)<|AH zAc fs))<|vs 26 (AF<|An 3<|Ag (k*3)<|AH zAc fs) (AF<|zAc f) (hd:=by simp(disch:=omega) only[hg2])<|ve (Ac=Ac/\Ab=Ab/\3=3/\3<=3)<|zB<|zA rfl<|vr 1 (3<=3)<|vc (sA)<|vr 2 ((0:Int)<=(v:Int))<|vs 30 (Aj<|Al AQ<|AX (↑(msk<|Fa.A f):Int) ((2:Int)^min (AP (v:Int)) 32)) (dig (msk (Fa.A f)>>>v)) (hd:=by simp(disch:=omega) only[BJ,w3])<|vrT 1<|vs 31 (Aj<|Al AQ<|A4 AQ (↑(AU (Au 32 (↑(msk (Fa.A f)>>>v):Int)&&&Au 32 (1:Int))):Int)) (dig<|AU (Au 32 (↑(msk (Fa.A f)>>>v):Int)&&&Au 32 (1:Int))) (hd:=by simp(disch:=omega) only[zA5])<|vrT 1<|vs 32 (bD ((↑(AU (Au 32 (↑(msk (Fa.A f)>>>v):Int)&&&Au 32 (1:Int))):Int)==(1:Int))) (bD<|decide (v∈Fa.A f)) (hd:=by simp(disch:=omega) only[w1])<|veT<|vcD (v∈Fa.A f) (λhc=>?_)<|λhc=>?_;refine zB<|zA rfl<|vr 2 (3<=3)<|vc (sA)<|vrT 1<|vs 36 (Aj<|Al AQ<|A4 AQ (↑(AU (Au 32 (↑(uniM v<|An k fs):Int)|||Au 32 (↑(msk<|Fa.A f):Int))):Int)) (dig (uniM v (An k fs)|||msk (Fa.A f))) (hd:=by simp(disch:=omega) only[w5,w4])<|veT<|zA rfl<|vr 5 (True/\0<3)<|vs 41 (iD (if(Aa (Fa.A f):Int)>(↑(bigL v<|An k fs):Int)then(Aa (Fa.A f):Int)else(↑(bigL v<|An k fs):Int))) (iD (↑(max (bigL v<|An k fs)<|Aa<|Fa.A f):Int)) (hd:=by simp(disch:=omega) only[w6])<|vrT 1<|vnil<|zE<|zC<|zD<|zA rfl<|vr 2 (i6 ((k:Int)+(1:Int)))<|vnil<|zC ?_;rotate_left;refine zK<|zE<|zC<|zD<|zA rfl<|vr 2 (i6 ((k:Int)+(1:Int)))<|vnil<|zC ?_;rotate_left
   ·rw[if_pos hc]at u1 u2;refine⟨k+1,by omega,by omega,?_⟩;rw[u1,u2];refine vk 0
   rw[if_neg hc]at u1 u2;refine⟨k+1,by omega,by omega,?_⟩;rw[u1,u2];refine vk 0
  obtain rfl:k=fs.length:=by omega
  have u3:uniM v fs<4294967296:=zSq v fs 0 (by omega) λf hf=>(hA f hf).2;have hp:=popN_c (uniM v fs) u3;rw[BO];have hco:zPv popN fs v=if popN (uniM v fs)=bigL v fs then 0 else popN (uniM v fs):=rfl
  unfold zFs at hst;generalize popN (uniM v fs)=q at*;focus
   refine zB<|zA rfl<|v0s<|veT<|zB<|vF ((Aa fs:Int)<(Aa fs:Int))<|zV<|zM<|zM<|zQ rfl<|zC<|zD<|zB<|zA rfl<|vrT 1<|vc (hp)<|veT<|zB<|zB<|zA rfl<|veT<|zAr (t:=(q:Int)==(↑(bigL v fs):Int)) (by kernel_rfl) (λhc=>?_)<|λhc=>?_;simp only[beq_iff_eq]at hc;refine zA rfl<|veT<|zB<|zA rfl<|vrT 3<|vspD 50 (b<0) (λhc=>?_)<|λhc=>?_;refine veT<|vt<|zA rfl<|vrT 4<|vnil<|zE<|zC<|zD<|zA rfl<|vr 2 (i6 ((i:Int)+(1:Int)))<|vnil<|zC ?_;rotate_left;refine veT<|vcD ((0:Int)<(l:Int)) (λhc=>?_)<|λhc=>?_;refine zA rfl<|vrT 4<|vnil<|zE<|zC<|zD<|zA rfl<|vr 2 (i6 ((i:Int)+(1:Int)))<|vnil<|zC ?_;rotate_left;refine zK<|zE<|zC<|zD<|zA rfl<|vr 2 (i6 ((i:Int)+(1:Int)))<|vnil<|zC ?_;rotate_left;simp only[beq_eq_false_iff_ne]at hc;refine zK<|zC<|zD<|zB<|zA rfl<|vrT 3<|vspD 50 (b<0) (λhc=>?_)<|λhc=>?_;refine veT<|vt<|zA rfl<|vrT 4<|vnil<|zE<|zC<|zD<|zA rfl<|vr 2 (i6 ((i:Int)+(1:Int)))<|vnil<|zC ?_;rotate_left;refine veT<|vcD ((q:Int)<(l:Int)) (λhc=>?_)<|λhc=>?_;refine zA rfl<|vrT 4<|vnil<|zE<|zC<|zD<|zA rfl<|vr 2 (i6 ((i:Int)+(1:Int)))<|vnil<|zC ?_;rotate_left;refine zK<|zE<|zC<|zD<|zA rfl<|vr 2 (i6 ((i:Int)+(1:Int)))<|vnil<|zC ?_;rotate_left
  ·have e:zPv popN fs v=0:=by rw[hco,if_pos (by omega)]
   rw[e,if_pos (by simp only;omega)]at hst;refine⟨i+1,(v:Int),0,⟨by omega,hst.symm⟩,by omega,?_⟩;refine vk 0
  ·have e:zPv popN fs v=0:=by rw[hco,if_pos (by omega)]
   rw[e,if_pos (by simp only;omega)]at hst;refine⟨i+1,(v:Int),0,⟨by omega,hst.symm⟩,by omega,?_⟩;refine vk 0
  ·have e:zPv popN fs v=0:=by rw[hco,if_pos (by omega)]
   rw[e,if_neg (by simp only;omega)]at hst;refine⟨i+1,b,l,⟨by omega,hst.symm⟩,by omega,?_⟩;refine vk 0
  ·have e:zPv popN fs v=q:=by rw[hco,if_neg (by omega)]
   rw[e,if_pos (by simp only;omega)]at hst;refine⟨i+1,(v:Int),q,⟨by omega,hst.symm⟩,by omega,?_⟩;refine vk 0
  ·have e:zPv popN fs v=q:=by rw[hco,if_neg (by omega)]
   rw[e,if_pos (by simp only;omega)]at hst;refine⟨i+1,(v:Int),q,⟨by omega,hst.symm⟩,by omega,?_⟩;refine vk 0
  have e:zPv popN fs v=q:=by rw[hco,if_neg (by omega)]
  rw[e,if_neg (by simp only;omega)]at hst;refine⟨i+1,b,l,⟨by omega,hst.symm⟩,by omega,?_⟩;refine vk 0
 rw[AJ (by omega)]at h2;have hcm:=(zMa popN fs hne).2;rw[<-h2]at hcm;refine zB<|zA rfl<|v0s<|veT<|zB<|vF ((i:Int)<(Aa E:Int))<|zV<|zM<|zM<|zQ rfl<|zC<|zD<|zB<|zA rfl<|veT<|zJ<|vre (True) (Aj<|Al Bo b) (.inr rfl) ?_;rw[<-hcm]
end
section
open Go.Shelf
set_option maxRecDepth 16384
def Tryz.grow142_ren:Go.Shelf.Ren:=⟨λ|4=>142|n=>n,λ|22=>130|25=>133|3=>3|4=>4|9=>9|20=>20|0=>0|n=>n,λ|n=>n⟩
theorem Tryz.grow142:Go.Proofs.Lays8.n4 Ap Tryz.grow142_ren:={
 mixed:=by kernel_rfl
 f4:=⟨Tryz.f142.name,by decide,Tryz.func142.trans (congrArg Ai (by kernel_rfl))⟩
 t0:=Tryz.underlying0
 a0:=Tryz.isAgg0
 z0:=Tryz.sizeOf0
 v0:=Tryz.zeroValue0
 t3:=Tryz.underlying3
 a3:=Tryz.isAgg3
 z3:=Tryz.sizeOf3
 v3:=Tryz.zeroValue3
 t4:=Tryz.underlying4
 a4:=Tryz.isAgg4
 z4:=Tryz.sizeOf4
 v4:=Tryz.zeroValue4
 t9:=Tryz.underlying9
 a9:=Tryz.isAgg9
 z9:=Tryz.sizeOf9
 v9:=Tryz.zeroValue9
 t20:=Tryz.underlying20
 a20:=Tryz.isAgg20
 z20:=Tryz.sizeOf20
 v20:=Tryz.zeroValue20
 t22:=Tryz.underlying130
 a22:=Tryz.isAgg130
 z22:=Tryz.sizeOf130
 v22:=Tryz.zeroValue130}
end
section
open Go.RowKit
set_option maxRecDepth 4096
abbrev fsBB(l:List D):Bk:=⟨l,133,3,Ab,Ac, .plain⟩
theorem grow_cB(n:Nat)(hn:0<n)(hb:n<=1000000):Pure Ap 142 [nl,iD (n:Nat)] [fsBB []] (.osl 0 0 0 0 Ab):=by
 obtain⟨i0,hi0⟩:∃i0,Ap.info? 133=Ai i0/\i0.size=3/\i0.bytes=72/\i0.zero=Ai (.agg #[.slice Ax 0 0, .slice Ax 0 0, .slice Ax 0 0]):=⟨(Ap.info? 133).getD As,by kernel_rfl,by kernel_rfl,by kernel_rfl,by kernel_rfl⟩;obtain⟨h1,h2,h3,h4⟩:=hi0;intro I w vs hr hi hg;rw[zG7 [.slice Ax 0 0, .int .i64 n] vs hr];have hc:=Any8.slices_Grow_grow Tryz.grow142 i0 _ h1 h4 (by omega) Ax 0 0 n [] w (AY _) (by omega) (by rw[h3];omega) (by omega) (by simp) (λ_=>rfl) (λa h=>by cases h);have hge:=grownCap_ge w (0+n) 0 (Tryz.grow142_ren.t 25);have hmx:=grownCap_le_maxLen w (0+n) 0 (Tryz.grow142_ren.t 25) (by unfold maxLen;omega);generalize grownCap w (0+n) 0 (Tryz.grow142_ren.t 25)=G at*;refine hc.mono ?_;rintro e w' ⟨rfl,rfl⟩;have key:∀{k b c:Nat},(if k=0 then Ai (w.heap.size,G)else Ax)=Ai (b,c)->k=0/\b=w.heap.size/\c=G:=λ{k b c} h=>by
  split at h
  ·rename_i e;cases h;exact⟨e,rfl,rfl⟩
  cases h
 have hext:∀o,Ext w (w.drew.alloc o):=λo=>(Ext.drew w).trans (Ext.alloc _ o);refine⟨_,I,λk=>if k=0 then Ai (w.heap.size,G)else Ax,rfl,hext _,λb o hb=>Nat.lt_of_lt_of_le (hi b o hb) (hext _).size,Fix.ext (hext _) λ_ _ h=>h,λ_ _ h=> .inl h,λk b c h=>?_,λk b c h=>?_,λk k' b c c' h h'=>?_,λk b c j e h he hij=>?_,λk y h=>?_,?_,by simp⟩
 ·exact Nat.le_of_eq (key h).2.1.symm
 ·obtain⟨rfl,rfl,rfl⟩:=key h;refine⟨fsBB [],rfl,OwnC.r ⟨(#[]++Builtin.zeroCells (Value.agg #[Bp Ax 0 0,Bp Ax 0 0,Bp Ax 0 0]).cells (0+n-0)++Builtin.zeroCells (Value.agg #[Bp Ax 0 0,Bp Ax 0 0,Bp Ax 0 0]).cells (c-(0+n))).toList,?_,BF _,?_,λ_=>?_,hmx⟩ rfl⟩
  ·rw[CB];exact heap_alloc_new w.drew _
  ·rfl
  rw[Array.length_toList,Array.size_append,Array.size_append,size_zeroCells,size_zeroCells,show(Value.agg #[Bp Ax 0 0,Bp Ax 0 0,Bp Ax 0 0]).cells.size=3 from rfl];simp only[List.size_toArray,By];show _=c*3;omega
 ·rw[(key h).1,(key h').1]
 ·have:=hi b j hij
  have:=(key h).2.1
  omega
 ·have:=(key h).1
  simp;omega
 simp only[Rel];exact .inr (.inr ⟨w.heap.size,G,G,rfl,rfl,BF _,hmx,λ_=>by simp⟩)
theorem grow0_cB:Pure Ap 142 [nl,iD ((0:Nat):Int)] [] nl:=
 zCl (us:=[.slice Ax 0 0, .int .i64 ((0:Nat):Int)]) (λw=>(Any8.slices_Grow_room Tryz.grow142 Ax 0 0 0 w (by omega) (by omega) (by omega) (by omega)).mono λe w' h=>⟨h.1,h.2.symm⟩)
end
section
open Go.RowKit
attribute [local irreducible] seqW awp zW zX zP Weak updS zZ retL Pure Acts rP setP setQ cP nP fr
set_option maxRecDepth 4096
set_option maxHeartbeats 2000000 in
theorem concat_cB(a b:List D)(n m:Nat)(ha:a.length=n*3)(hb:b.length=m*3)(hn:n<=1000)(hm:m<=1000)(n1:∀d∈a,True):Pure Ap 125 [.row [.row a n, .row b m] 2] [] (.row (a++b) (n+m)):=by
 have zadd:(n:Int)+(m:Int)=((n+m:Nat):Int):=by omega
 have ht:(a++b).take ((n+m)*3)=a++b:=AJ (by rw[A7];omega);rcases Cg (n+m)with h|h
 ·obtain rfl:n=0:=by omega
  obtain rfl:m=0:=by omega
  obtain rfl:a=[]:=B9 (by omega);obtain rfl:b=[]:=B9 (by omega);refine zG zYx mixed Tryz.func125 rfl<|zB<|zA rfl<|v0s<|veT<|zB<|zA rfl<|veT<|zB<|zB<|zA rfl<|veT<|zF<|zA0<|zB<|zA rfl<|veT<|zB<|vt<|zK<|zC<|zD<|zB<|zF<|zB<|zA rfl<|ve (ix (0:Int) (↑(2:Nat):Int) ([Ae [] 0,Ae [] 0]≠[])/\0<2)<|zB<|zA rfl<|ve (i6 ((0:Int)+(↑(0:Nat):Int)))<|zB<|zA rfl<|veT<|vf<|zK<|zE<|zC<|zD<|zA rfl<|vr 2 (i6 ((0:Int)+(1:Int)))<|vnil<|zC<|zA0 ?_;refine zB<|zA rfl<|veT<|zB<|vt<|zK<|zC<|zD<|zB<|zF<|zB<|zA rfl<|ve (ix (1:Int) (↑(2:Nat):Int) ([Ae [] 0,Ae [] 0]≠[])/\0<1)<|zB<|zA rfl<|ve (i6 ((0:Int)+(↑(0:Nat):Int)+(↑(0:Nat):Int)))<|zB<|zA rfl<|veT<|vf<|zK<|zE<|zC<|zD<|zA rfl<|vr 2 (i6 ((1:Int)+(1:Int)))<|vnil<|zC<|zA0<|zB<|zA rfl<|veT<|zB<|vf<|zV<|zM<|zM<|zQ rfl<|zC<|zD<|zB<|zA rfl<|vrT 1<|vc (grow0_cB)<|veT<|zB<|zB<|zA rfl<|veT<|zF<|zA0<|zB<|zA rfl<|veT<|zB<|vt<|zK<|zC<|zD<|zB<|zF<|zB<|zA rfl<|ve (ix (0:Int) (↑(2:Nat):Int) ([Ae [] 0,Ae [] 0]≠[])/\0<2)<|zA rfl<|vr 4 (0=0/\0<3/\0<72/\133=133/\0<=140737488355328/\3=3)<|vnil<|zE<|zC<|zD<|zA rfl<|vr 2 (i6 ((0:Int)+(1:Int)))<|vnil<|zC<|zA0<|zB<|zA rfl<|veT<|zB<|vt<|zK<|zC<|zD<|zB<|zF<|zB<|zA rfl<|ve (ix (1:Int) (↑(2:Nat):Int) ([Ae [] 0,Ae [] 0]≠[])/\0<1)<|zA rfl<|vr 4 (Ab=Ab/\0=0/\0=0/\133=133/\3=3/\0=0/\0<3/\0<72/\133=133/\0<=140737488355328/\3=3/\Ac=Ac/\(Ac=Ac\/Ac=Ab))<|vnil<|zE<|zC<|zD<|zA rfl<|vr 2 (i6 ((1:Int)+(1:Int)))<|vnil<|zC<|zA0<|zB<|zA rfl<|veT<|zB<|vf<|zV<|zM<|zM<|zQ rfl<|zC<|zD<|zB<|zA rfl<|veT<|zJ<|vret (True)<|.inr rfl
 have hg:=grow_cB (n+m) h (by omega);refine zG zYx mixed Tryz.func125 rfl<|zB<|zA rfl<|v0s<|veT<|zB<|zA rfl<|veT<|zB<|zB<|zA rfl<|veT<|zF<|zA0<|zB<|zA rfl<|veT<|zB<|vt<|zK<|zC<|zD<|zB<|zF<|zB<|zA rfl<|ve (ix (0:Int) (↑(2:Nat):Int) ([Ae a n,Ae b m]≠[])/\0<2)<|zB<|zA rfl<|vr 4 (i6 ((0:Int)+(n:Int)))<|vs 18 (iD ((0:Int)+(n:Int))) (iD (n:Int)) (hd:=by simp(disch:=omega) only[Int.zero_add])<|veT<|zB<|zA rfl<|veT<|vF ((n:Int)<0)<|zK<|zE<|zC<|zD<|zA rfl<|vr 2 (i6 ((0:Int)+(1:Int)))<|vnil<|zC<|zA0<|zB<|zA rfl<|veT<|zB<|vt<|zK<|zC<|zD<|zB<|zF<|zB<|zA rfl<|ve (ix (1:Int) (↑(2:Nat):Int) ([Ae a n,Ae b m]≠[])/\0<1)<|zB<|zA rfl<|ve (i6 ((n:Int)+(m:Int)))<|zB<|zA rfl<|veT<|vF ((↑(n+m):Int)<0)<|zK<|zE<|zC<|zD<|zA rfl<|vr 2 (i6 ((1:Int)+(1:Int)))<|vnil<|zC<|zA0<|zB<|zA rfl<|veT<|zB<|vf<|zV<|zM<|zM<|zQ rfl<|zC<|zD<|zB<|zA rfl<|vrT 1<|vn (hg)<|veT<|zB<|zB<|zA rfl<|veT<|zF<|zA0<|zB<|zA rfl<|veT<|zB<|vt<|zK<|zC<|zD<|zB<|zF<|zB<|zA rfl<|ve (ix (0:Int) (↑(2:Nat):Int) ([Ae a n,Ae b m]≠[])/\0<2)<|zA rfl<|vr 4 (Ab=Ab/\0=0/\0=0/\133=133/\3=3/\Aa a=n*3/\0<3/\0<72/\133=133/\(0+n)*72<=140737488355328/\3=3/\Ac=Ac/\(Ac=Ac\/Ac=Ab))<|vs 6 (Af 0 0 (0+n) ((0+n)*3) Ab) (Af 0 0 n (n*3) Ab) (hd:=by simp(disch:=omega) only[Nat.zero_add])<|vnil<|zE<|zC<|zD<|zA rfl<|vr 2 (i6 ((0:Int)+(1:Int)))<|vnil<|zC<|zA0<|zB<|zA rfl<|veT<|zB<|vt<|zK<|zC<|zD<|zB<|zF<|zB<|zA rfl<|ve (ix (1:Int) (↑(2:Nat):Int) ([Ae a n,Ae b m]≠[])/\0<1)<|zA rfl<|vr 4 (AZ (Ak a 133 3 Ab Ac Am)=Ab/\Aa a=n*3/\n*3=n*3/\AK (Ak a 133 3 Ab Ac Am)=133/\AL (Ak a 133 3 Ab Ac Am)=3/\Aa b=m*3/\0<3/\0<72/\133=133/\(n+m)*72<=140737488355328/\3=3/\AS (Ay<|Ak a 133 3 Ab Ac Am)=Ac/\(Ac=Ac\/AT (Ay<|Ak a 133 3 Ab Ac Am)=Ab))<|vnil<|zE<|zC<|zD<|zA rfl<|vr 2 (i6 ((1:Int)+(1:Int)))<|vnil<|zC<|zA0<|zB<|zA rfl<|veT<|zB<|vf<|zV<|zM<|zM<|zQ rfl<|zC<|zD<|zB<|zA rfl<|veT<|zJ<|zAy (True) (Ae (An ((n+m)*3)<|Ag 0 (a++b)) (n+m)) (Ae (a++b) (n+m)) (.inr rfl) (by simp(disch:=omega) only[AV,ht]) rfl
theorem info_fasB:(Ap.info? 133).map (λi=>(i.zero,i.size,i.bytes))=Ai (Ai (.agg #[.slice Ax 0 0, .slice Ax 0 0, .slice Ax 0 0]),3,72):=by kernel_rfl
set_option maxHeartbeats 400000 in
theorem clone0_fasB:Pure Ap 89 [.row [] 0] [⟨[],133,3,Ab,Ac, .plain⟩] (.osl 0 0 0 0 Ab):=by
 refine zFj λI w vs hr=>?_;simp only[RelT,Rel]at hr;obtain⟨v,ys,rfl,⟨a,c,rfl,_,_,hc,_⟩,rfl⟩:=hr;cases a with
 |none=>
  obtain rfl:=hc rfl;have he:=λ(w:World)=>Lib.run_eql_slice_nil (P:=Ap) w 130 133 Ax 0 0 0 0 Tryz.underlying130;go_enter Tryz.func89,Tryz.ntmps89;go_wp2;go_ret;exact .inl ⟨rfl,Ext.refl _⟩
 |some x=>
  obtain⟨i0,hi,hz0,hz1,hz2⟩:=info_parts info_fasB;have he:=λ(w:World)=>Lib.run_eql_slice_nil (P:=Ap) w 130 133 (Ai x) 0 c 0 0 Tryz.underlying130;have hS:RowAt (λ_=>True) w (Ai x) []:= .inl rfl;go_enter Tryz.func89,Tryz.ntmps89;go_wp2_with (at_builtin;refine zA9 rfl _ _ 130 rfl w.heap.size 133 i0 (.agg #[.slice Ax 0 0, .slice Ax 0 0, .slice Ax 0 0]) 3 72 Tryz.underlying130 hi hz0 hz1 hz2 rfl (by decide) (.slice (Ai ⟨w.heap.size,0,Ax⟩) 0 0) 0 [] rfl (World.ownsRow_made _ #[] 0 (AY _) (BF _) rfl) x 0 c [] rfl (by simp) (by simp) (by simp) (by simp[maxLen]) (by decide) (by simp) ?_;intro v' w' hown hgrow hdr);go_ret;have hext:Ext w w':=⟨((Below.refl _ _).alloc (AY _) _).grown hgrow (by simp) (by simp[Value.ownBlock]),hdr⟩;obtain⟨_,⟨rfl,_⟩|⟨g,cap,cur,rfl,hb,hg,_,hc1,hs,_⟩⟩:=hown
  ·exact .inl ⟨rfl,hext⟩
  exact .inr ⟨g,cur.toList,cap,rfl,hb,hext,by rw[CB];exact hg,by simpa using hs,hc1⟩
theorem cloneF_cB(a:List D)(n:Nat)(ha:a.length=n*3)(hn:n<=1000):Pure Ap 89 [.row a n] [] (.row a n):=by
 by_cases h0:n=0
 ·subst h0;obtain rfl:a=[]:=B9 (by omega);exact clone0_fasB.frozen rfl rfl
 have h1:0<n:=by omega
 have ht:a.take (n*3)=a:=AJ (by omega);refine zG zYx mixed Tryz.func89 rfl<|zB<|zA rfl<|v0s<|veT<|zB<|zB<|zA rfl<|ve (0<n)<|vf<|zK<|zC<|zD<|zB<|zA rfl<|vr 4 ((True/\0<3/\3=3/\0<=16777216/\0<=9223372036854775807)/\Ab=Ab/\0=0/\0=0/\133=133/\3=3/\Aa a=n*3/\0<3/\0<72/\133=133/\(0+n)*72<=140737488355328/\3=3/\Ac=Ac/\(Ac=Ac\/Ac=Ab))<|vs 2 (Af 0 0 (0+n) ((0+n)*3) Ab) (Af 0 0 n (n*3) Ab) (hd:=by simp(disch:=omega) only[Nat.zero_add])<|veT<|zJ<|zAy (True) (Ae (An (n*3)<|Ag 0 a) n) (Ae a n) (.inr rfl) (by simp(disch:=omega) only[AV,ht]) rfl
end
section
open Go.RowKit
section
variable {T : Par} {sl : List D} {st : List Bk}
theorem Weak.leC{j i:Nat}{ej:Bk}{d d':D}(hj:st[j]?=Ai ej)(hm:ej.kd.isMap=Ac)(hi:ej.cells[i]?=Ai d)(hd:LeD d d'):Weak T sl st sl (st.set j {ej with cells:=ej.cells.set i d'}):=by
 intro β I w tm h;have hjl:j<st.length:=(Br.1 hj).1;have hget:∀k,(st.set j {ej with cells:=ej.cells.set i d'})[k]?=if k=j then Ai {ej with cells:=ej.cells.set i d'}else st[k]?:=λk=>by
  grind
 refine⟨β,I,⟨h.rel,λk b' c hk=>?_,h.inj,λk b' c o e hk he hi'=>?_,λk y hk=>?_,h.imb,h.gl⟩,Stp.refl _ _ _,Kp.refl _ _⟩
 ·obtain⟨e,k1,k2⟩:=h.sr k b' c hk;rw[hget k];by_cases hkj:k=j
  ·subst hkj;rw[hj]at k1;cases k1;refine⟨_,if_pos rfl,?_⟩;obtain⟨cur,c1,c2,c3,c4⟩:=k2.c hm;refine OwnC.r ⟨cur,c1,by simpa using c2,?_,c4⟩ hm;have hn2:({ej with cells:=ej.cells.set i d'}:Bk).nob=ej.nob:=rfl;rw[hn2];simp only[CG];refine c3.putAt λd0 v hd0 hv hr=>?_;rw[hi]at hd0;cases hd0;exact hd _ _ _ _ hr
  grind
 ·rw[hget k]at he;by_cases hkj:k=j
  ·subst hkj;rw[if_pos rfl]at he;cases he
   have:=h.fz k b' c o ej hk hj hi'
   grind
  rw[if_neg hkj]at he;exact h.fz k b' c o e hk he hi'
 rw[CG];exact h.dom k y hk
theorem LeL.setD:∀{sl:List D}{i:Nat}{d d':D},sl[i]?=Ai d->LeD d d'->LeL sl (sl.set i d')
 |[],i,d,d',h,_=>by simp at h
 |e::sl,0,d,d',h,hd=>by
  simp only[List.getElem?_cons_zero,B4.injEq]at h;subst h;exact .cons hd (Bc sl)
 |e::sl,i+1,d,d',h,hd=> .cons (LeD.refl e) (LeL.setD (by simpa using h) hd)
theorem Weak.leS{s:Nat}{d d':D}(hs:sl[s]?=Ai d)(hd:LeD d d'):Weak T sl st (sl.set s d') st:=Weak.slots (LeL.setD hs hd)
theorem LeD.osr_row(k off n m:Nat)(wh:Bool)(cs:List D):LeD (.osr k off n m wh cs) (.row cs n):=λI w β v h=>by
 simp only[Rel]at h⊢;exact h.2
end
end
section
open Go.RowKit
attribute [local irreducible] seqW awp zW zX zP Weak updS zZ retL Pure Acts rP setP setQ cP nP fr
set_option maxRecDepth 4096
theorem zLo{α:Type}(l:List α)(x:α):(l++[x]).length=l.length+1:=by simp
section
variable {Dm : List Va}
end
end
end Go.Proofs.YthmfohpkimflhaaGreatDoor
