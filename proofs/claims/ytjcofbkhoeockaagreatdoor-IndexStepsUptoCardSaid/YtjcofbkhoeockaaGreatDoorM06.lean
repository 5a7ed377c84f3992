/- Texts of this claim, joined: Deb Dbi EcP BaP BbP BcP Dck VdP Ca Dcv Dca EvP Dew Dsw -/
import Derived.Test.YtjcofbkhoeockaaGreatDoorM05
import Derived.Test.YtjcofbkhoeockaaGreatDoorProg
set_option linter.unusedVariables false
set_option linter.unusedSimpArgs false
namespace Go.Proofs.YtjcofbkhoeockaaGreatDoor
open _root_.Bool renaming true->Aa,false->Ad,eq_false_iff->Bz,or_false->BA,and_eq_true->BB,or_eq_true->BR
open _root_.List renaming length->Ab,map->Ah,drop->Ao,flatMap->Ap,getD_eq_getElem?_getD->As,take->Au,range->Az,getElem?_eq_getElem->AA,mem_map->AO,length_map->AR,mem_range->AT,map_map->AU,drop_zero->AW,getD->AX,take_length->A0,getElem_mem->A2,mem_cons_of_mem->A3,mem_cons_self->A4,getElem?_range->A6,idxOf_lt_length_iff->A7,map_congr_left->A8,map_cons->A_,mem_of_mem_take->Bb,getElem_of_mem->Bc,getElem?_map->Bf,map_append->Bi,headD->Bj,length_cons->Bm,replicate->Bn,take_of_length_le->Bo,getElem_idxOf->Bp,all_eq_true->Br,mem_cons->Bs,length_range->Bt,flatMap_def->Bv,foldl_cons->Bw,foldr_cons->BC,ext_getElem->BD,Nodup->BE,pairwise_map->BF,flatMap_map->BI,getElem?_append_left->BK,mem_append->BM,take_succ_eq_append_getElem->BN,sum_append->BO,mem_singleton->BP,length_take->BQ,mem_filter->BT,pairwise_iff_getElem->BV,not_mem_nil->BW,getElem?_append_right->BX,mem_of_find?_eq_some->BZ,mem_take_iff_getElem->B3
open D renaming row->Ae,val->Ai,own->An,osl->AB,agg->AE
open Bd renaming f->Af,n->Aj,P->Ax,A->Ay,R->AD,L->AH,desc->AJ
open IntKind renaming u32->Ag,wrap->AK,i64->A9
open _root_.Inhabited renaming default->Ak
open _root_.Go.Proofs.Tryz renaming prog->Al
open Value renaming int->Am,bool->AZ
open _root_.Int renaming toNat->Aq,toNat_natCast->AM
open _root_.BitVec renaming ofInt->Ar,toNat->AF
open _root_.Option renaming some->Aw,none->AQ,getD_some->AV,map_eq_some_iff->BY
open _root_.Prod renaming fst->AC
open Bk renaming mk->AG,cells->AS
open _root_.Nat renaming lt_or_ge->AI,le_trans->AN,le_refl->AP,pow_le_pow_right->AY,mul_le_mul_right->A1,zero_le->A5,mul_one->Bh,succ_mul->Bq,testBit_or->Bx,testBit_two_pow->By,mul_comm->BG,mul_assoc->BH,add_sub_cancel_left->BL,lt_of_lt_of_le->BS,mul_le_mul_left->BU
open Kd renaming plain->AL
open _root_.Classical renaming byContradiction->Ba,choose->BJ,choose_spec->B5
open _root_.Ne renaming symm->Bl
open Go.RowKit
section
attribute [local irreducible] seqW awp zAe zAn zAd Weak updS zAv retL Pure Acts rP setP setQ cP nP fr
set_option maxRecDepth 4096
abbrev iaB(l:List D):Bk:=⟨l,143,0,Ad,Ad, .plain⟩
abbrev bgE(l:List D):Bk:=⟨l,99,3,Aa,Ad, .plain⟩
abbrev bgK(v k:Nat)(p:Int):Bk:=⟨[iD (v:Nat),u32D k,iD p],99,0,Ad,Ad, .plain⟩
theorem rep32:Bn 32 (iD 0)=fA 32 λ_=>iD 0:=fA_rep _
theorem ebags_c(n f:Nat)(hn:n<=32)(E:List Nat)(hE:E.length<=64)(hl:∀e∈E,e<2^n)(P:List Nat)(hf:P.length+f=n)(hP:∀v∈P,f<=v/\v<n)(hnd:P.Nodup)(nb:Nat->Nat)(hnb:nb=λv=>if v<n then nbE E v else 0):Pure Al 31 [.agg [iD (n:Nat), .row (E.map u32D) E.length],iD (f:Nat), .row (nsD P) P.length] [] (.tup [.row ((Az n).flatMap λv=>bgC (bagE n (ordL f P) nb v)) n,iD 0]):=by
 have hcf:=cfree_c n f hn (by omega) E hE hl;have had:=eadj_c n hn E hE hl;have hea:eaL E n=fA 32 λv=>u32D (nb v):=by subst hnb;rfl
 rw[hea]at had;have hal:(fA 32 λv=>u32D (nb v)).length=32:=zEw;have hsa:=zZ3 (.val (.int .u32 0)) hal;simp only[Bn]at hsa;generalize hg:(fA 32 λv=>u32D (nb v))=l0 at*;have hb32:∀v,nb v<4294967296:=λv=>by
  subst hnb;dsimp only;split
  ·exact nbE_32 E v
  omega
 have hms:∀i,msk (P.take i)<4294967296:=λi=>msk_lt λv hv=>by have:=(hP v (Bb hv)).2;omega
 refine zF zA8 mixed Tryz.func31 rfl ?_;focus
  refine vAu<|zA<|vA<|vr 2 (2<=2)<|vc hcf<|veT<|vAe<|vf ?_;refine vK<|vAe<|zA<|vAe<|zH ?_;rotate_left
 refine zK (λ(i:Nat)=>fr 155 [(1,iD f),(2,(q5_ P)),(3,An 0 0),(9,u32D<|msk<|Au i P),(28,(q5_ P)),(29,iD<|Ab P),(30,iD i)]) (λ(i:Nat)=>[grB (iD (n:Nat))<|.row (E.map u32D) E.length]) (λ(i:Nat)=>P.length-i) (λ(i:Nat)=>i<=P.length) 0 ?_ ?_ ?_
 ·omega
 ·refine vk 1
 intro i h1;rcases AI i P.length with h3|h3
 ·have h4:=hP _ (zBw P i h3);have h5:=zC8 (by omega:P.getD i 0<32);have h6:=zMv (hms i) h5;have h7:=hms i;have h8:(msk (P.take i)).testBit (P.getD i 0)=false:=by
   rw[zTi,decide_eq_false_iff_not];intro hm;obtain⟨j,hj,e⟩:=Bc hm;have hji:j<i:=by simp at hj;omega
   rw[List.getElem_take,As,AA h3]at e
   have:=(List.getElem_inj hnd).1 e
   omega
  have hbt:=zPu P i h3;have hhd:=zCd P i h3;generalize P.getD i 0=v at*;focus
   refine vAu<|zA<|vT ((i:Int)<↑(Ab P))<|vKB<|vA<|vr 1 (ix ↑i ↑(Ab P) (nsD P≠[])) ?_ ⟨(by omega),⟨(by omega),(by exact zAm (by omega))⟩⟩;refine vp 32 i (nsD P)<|vr 1 (0<Ab (Ao i<|nsD P))<|vsh 33 hhd<|veT<|zA<|vA<|vw 13 [] [(3,Ad),(9,Ad)] (decide ((v:Int)<↑f)=Ad/\True/\0<2/\decide ((v:Int)>=(n:Int))=Ad/\(0:Int)<=(v:Int))<|vs 46 (Ai<|Am Ag<|Int.fdiv (↑(msk<|Au i P):Int) ((2:Int)^min (Aq (v:Int)) 32)) (dig (msk (Au i P)>>>v)) (by simp(disch:=omega) only[AM,zE5])<|vrT 1<|vs 47 (Ai<|Am Ag<|AK Ag (↑(AF (Ar 32 (↑(msk (Au i P)>>>v):Int)&&&Ar 32 (1:Int))):Int)) (dig<|AF (Ar 32 (↑(msk (Au i P)>>>v):Int)&&&Ar 32 (1:Int))) (by simp(disch:=omega) only[zA2])<|vrT 1<|vs 48 (bD ((↑(AF (Ar 32 (↑(msk (Au i P)>>>v):Int)&&&Ar 32 (1:Int))):Int)==(1:Int))) (bD Ad) (by simp(disch:=omega) only[bit_b,h8])<|veT ?_;refine vf<|vK<|zB rfl<|vr 3 ((0:Int)<=(v:Int))<|vs 52 (Ai<|Am Ag<|AK Ag ((1:Int)*(2:Int)^min (Aq (v:Int)) 32)) (dig ((2:Nat)^v)) (by simp(disch:=omega) only[AM,zDu])<|vrT 1<|vs 53 (Ai<|Am Ag<|AK Ag (↑(AF (Ar 32 (↑(msk<|Au i P):Int)|||Ar 32 (↑((2:Nat)^v):Int))):Int)) (dig (msk (Au i P)|||(2:Nat)^v)) (by simp(disch:=omega) only[zMl,zA2])<|vrT 1<|vnil<|zD<|vN ?_;refine zB rfl<|vr 2 (i6 (↑i+1))<|vnil<|zC ?_;rotate_left
  refine⟨i+1,by omega,by omega,?_⟩;rw[hbt];refine vk 1
 obtain rfl:i=P.length:=by omega
 have hcp:setAt (Bn 32 (iD 0)) 0 (Au (min P.length 32) (nsD P))=fA 32 λu=>iD ((if u<P.length then P.getD u 0 else 0:Nat):Int):=by
  rw[rep32,zXg,Nat.min_eq_left (by omega),Bo (by simp)];refine zB1 λu hu=>?_;rw[AR];by_cases h:u<P.length
  ·rw[if_pos ⟨by omega,by omega⟩,if_pos h,As,Bf,Nat.sub_zero,AA h,As,AA h];rfl
  rw[if_neg (by omega),if_neg h];rfl
 simp only[Bn]at hcp;have hO:=zPn (f:=f) hf;have hol:∀u,u<P.length->(ordL f P).getD u 0=P.getD u 0:=λu hu=>by
  unfold ordL;rw[As,BK hu,As]
 have hor:∀j,j<f->(ordL f P).getD (P.length+j) 0=f-1-j:=λj hj=>by
  unfold ordL;rw[As,BX (by omega),BL,List.getElem?_reverse (by simpa using hj),Bt,A6 (by omega)];rfl
 have hoL:=zTc hf hP;have hoN:=zTb hP hnd;have hOm:∀j,j<n->(ordL f P).getD j 0∈ordL f P:=λj hj=>zBw _ _ (by omega);have hix:∀j,j<n->(ordL f P).idxOf ((ordL f P).getD j 0)=j:=λj hj=>by
  rw[As,AA (by omega),AV];exact hoN.idxOf_getElem j (by omega)
 have hxi:∀v,v<n->(ordL f P).idxOf v<n/\(ordL f P).getD ((ordL f P).idxOf v) 0=v:=λv hv=>by
  have h1:=zJi hoN hO hoL v hv;have h2:=A7.2 h1;refine⟨by omega,?_⟩;rw[As,AA h2,AV,Bp]
 have hst:(fA 32 λu=>iD ((if u<P.length then P.getD u 0 else 0:Nat):Int))=fA 32 λu=>iD ((oI P.length (ordL f P) 0 u:Nat):Int):=zB1 λu _=>by
  unfold oI;by_cases h:u<P.length
  ·rw[if_pos h,if_pos (show u<P.length+0 from h),hol u h]
  rw[if_neg h,if_neg (show¬u<P.length+0 from h)]
 rw[hst]at hcp;clear hst;generalize hOO:ordL f P=O at*;have hz:=rep32;simp only[Bn]at hz;focus
  refine vAu<|zA<|vF ((Ab P:Int)<↑(Ab P))<|vZ2<|zA<|zA ?_;refine zB rfl<|ve (True/\0<2/\i6 ((n:Int)-(f:Int))/\True)<|zGc (t:=(Ab P:Int)!=(n:Int)-(f:Int)) (by kernel_rfl) (by simpa using by omega)<|vK<|vAe<|vA<|vr 3 ((True/\True/\0<1/\32<=32/\32<=maxLen)/\Ad=Ad/\Ad=Ad/\0<1/\3=3/\Ab (nsD P)=Ab P*1/\32<=32)<|vb 1 (AG (setAt [iD 0,iD 0,iD 0,iD 0,iD 0,iD 0,iD 0,iD 0,iD 0,iD 0,iD 0,iD 0,iD 0,iD 0,iD 0,iD 0,iD 0,iD 0,iD 0,iD 0,iD 0,iD 0,iD 0,iD 0,iD 0,iD 0,iD 0,iD 0,iD 0,iD 0,iD 0,iD 0] 0<|Au (min (Ab P) 32*1)<|nsD P) 143 0 Ad Ad AL) (AG (fA 32 λ(u:Nat)=>iD (↑(oI (Ab P) O 0 u):Int)) 143 0 Ad Ad AL) (by simp(disch:=omega) only[Bh,hcp])<|veT ?_;refine zA<|vAe<|zH ?_;rotate_left
 refine zK (λ(i:Nat)=>fr 155 [(1,iD f),(2,(q5_ P)),(3,An 0 0),(12,An 1 0),(13,An 2 0),(65,iD f),(66,iD i)]) (λ(i:Nat)=>[grB (iD (n:Nat))<|.row (E.map u32D) E.length,iaB (fA 32 λu=>iD ((oI P.length O i u:Nat):Int)),iaB (fA 32 λ_=>iD 0)]) (λ(i:Nat)=>f-i) (λ(i:Nat)=>i<=f) 0 ?_ ?_ ?_
 ·omega
 ·rw[<-hz];refine vk 3
 intro i h1;rcases AI i f with h3|h3
 ·have hset:(fA 32 λu=>iD ((oI P.length O i u:Nat):Int)).set (P.length+i) (iD ((f:Int)-1-(i:Int)))=fA 32 λu=>iD ((oI P.length O (i+1) u:Nat):Int):=by
   rw[zEv];refine zB1 λu _=>?_;unfold oI;by_cases h:u=P.length+i
   ·subst h;rw[if_pos rfl,if_pos (by omega),hor i h3];congr 3;omega
   rw[if_neg h];by_cases h2:u<P.length+i
   ·rw[if_pos h2,if_pos (by omega)]
   rw[if_neg h2,if_neg (by omega)]
  focus
   refine vAu<|zA<|vT ((i:Int)<↑f)<|vKB<|vAe ?_;refine zB rfl<|vr 9 (i6 ((Ab P:Int)+(i:Int))/\i6 (↑f-1)/\i6 ((f:Int)-(1:Int)-(i:Int))/\(0:Int)<=(Ab P:Int)+(i:Int)/\(Ab P:Int)+(i:Int)<↑(32:Nat))<|vo 77 1 (Aq ((Ab P:Int)+(i:Int)))<|vr 1 (Bk.fz (iaB (fA 32 λ(u:Nat)=>iD (↑(oI (Ab P) O i u):Int)))=Ad/\Aa=Aa/\1=1/\Aq ((Ab P:Int)+(i:Int))+1<=32)<|vnil<|zD<|vN<|zB rfl<|vr 2 (i6 (↑i+1))<|vnil<|zC ?_;rotate_left
  refine⟨i+1,by omega,by omega,?_⟩;rw[<-hset];refine vk 3
 obtain rfl:i=f:=by omega
 have hall:(fA 32 λu=>iD ((oI P.length O i u:Nat):Int))=fA 32 λu=>iD ((O.getD u 0:Nat):Int):=zB1 λu _=>by
  unfold oI;by_cases h:u<P.length+i
  ·rw[if_pos h]
  rw[if_neg h,As,List.getElem?_eq_none (by omega)];rfl
 rw[hall];have hz2:(fA 32 λ_=>iD 0)=fA 32 λu=>iD ((pI O 0 u:Nat):Int):=zB1 λu _=>by unfold pI;rw[if_neg (by omega)];rfl
 rw[hz2];focus
  refine vAu<|zA<|vF ((i:Int)<↑i)<|vZ2<|zA<|zA ?_;refine zB rfl<|ve (True/\0<2)<|zH ?_;rotate_left
 refine zK (λ(j:Nat)=>fr 155 [(3,An 0 0),(12,An 1 0),(13,An 2 0),(80,iD n),(81,iD j)]) (λ(j:Nat)=>[grB (iD (n:Nat))<|.row (E.map u32D) E.length,iaB (fA 32 λu=>iD ((O.getD u 0:Nat):Int)),iaB (fA 32 λu=>iD ((pI O j u:Nat):Int))]) (λ(j:Nat)=>n-j) (λ(j:Nat)=>j<=n) 0 ?_ ?_ ?_
 ·omega
 ·refine vk 3
 intro j h2;rcases AI j n with h4|h4
 ·have hv:=hoL _ (hOm j h4);have hhd:=zEf (g:=λu=>iD ((O.getD u 0:Nat):Int)) (N:=32) (by omega:j<32);have hset:(fA 32 λu=>iD ((pI O j u:Nat):Int)).set (O.getD j 0) (iD (j:Nat))=fA 32 λu=>iD ((pI O (j+1) u:Nat):Int):=by
   rw[zEv];refine zB1 λu _=>?_;unfold pI;by_cases h:u=O.getD j 0
   ·subst h;rw[if_pos rfl,hix j h4,if_pos (by omega)]
   rw[if_neg h];by_cases h2:O.idxOf u<j
   ·rw[if_pos h2,if_pos (by omega)]
   rw[if_neg h2,if_neg λh5=>?_];have h6:O.idxOf u=j:=by omega
   have h7:u∈O:=A7.1 (by omega);refine h ?_;rw[<-h6,As,AA (by omega),AV,Bp]
  generalize O.getD j 0=v at*;focus
   refine vAu<|zA<|vT ((j:Int)<↑n)<|vKB<|vAe ?_;refine zB rfl<|vr 2 ((0:Int)<=(j:Int)/\(j:Int)<↑(32:Nat))<|vo 85 1 j<|vr 1 (0<Ab (Ao j<|AS<|iaB (fA 32 λ(u:Nat)=>iD ↑(AX O u 0)))) (vsh 86 hhd<|vr 2 ((0:Int)<=(v:Int)/\(v:Int)<↑(32:Nat))<|vo 88 2 v<|vr 1 (Bk.fz (iaB (fA 32 λ(u:Nat)=>iD ↑(pI O j u)))=Ad/\Aa=Aa/\1=1/\v+1<=32)<|vnil<|zD<|vN<|zB rfl<|vr 2 (i6 (↑j+1)) ?_) (by exact zCe (by omega));refine vnil<|zC ?_;rotate_left
  refine⟨j+1,by omega,by omega,?_⟩;rw[<-hset];refine vk 3
 obtain rfl:j=n:=by omega
 focus
  refine vAu<|zA<|vF ((j:Int)<↑j)<|vZ2<|vA ?_;refine vr 1 (2<=2)<|vc had<|vr 2 (Ad=Ad/\Aa=Aa/\Ab (cellsOf<|AE l0)=32/\32<=32)<|vb 3 (AG (setAt [Ai<|Am Ag 0,Ai<|Am Ag 0,Ai<|Am Ag 0,Ai<|Am Ag 0,Ai<|Am Ag 0,Ai<|Am Ag 0,Ai<|Am Ag 0,Ai<|Am Ag 0,Ai<|Am Ag 0,Ai<|Am Ag 0,Ai<|Am Ag 0,Ai<|Am Ag 0,Ai<|Am Ag 0,Ai<|Am Ag 0,Ai<|Am Ag 0,Ai<|Am Ag 0,Ai<|Am Ag 0,Ai<|Am Ag 0,Ai<|Am Ag 0,Ai<|Am Ag 0,Ai<|Am Ag 0,Ai<|Am Ag 0,Ai<|Am Ag 0,Ai<|Am Ag 0,Ai<|Am Ag 0,Ai<|Am Ag 0,Ai<|Am Ag 0,Ai<|Am Ag 0,Ai<|Am Ag 0,Ai<|Am Ag 0,Ai<|Am Ag 0,Ai<|Am Ag 0] 0<|cellsOf<|AE l0) 144 0 Ad Ad AL) (AG l0 144 0 Ad Ad AL) (by simp(disch:=omega) only[cellsOf,hsa]) ?_;refine veT<|vA<|vr 3 (True/\0<2/\(0:Int)<=(j:Int)/\(j:Int)<=↑j/\(↑(24:Nat):Int)*(j:Int)<=(281474976710656:Int)/\(j:Int)<=(281474976710656:Int)/\0<3/\3=3)<|vb 4 (AG (repL (Aq (j:Int)) [iD 0,Ai<|Am Ag 0,iD 0]) 99 3 Aa Ad<|kdOf Ad) (AG (Ap (λ(x:Nat)=>[iD 0,Ai<|Am Ag 0,iD 0])<|Az j) 99 3 Aa Ad<|kdOf Ad) (by simp(disch:=omega) only[AM,repL_fl])<|veT<|zA<|vA<|ve (True/\0<2)<|zH ?_;rotate_left
 have hbz:(Az j).flatMap (λ_=>[iD 0, .val (.int .u32 0),iD 0])=(Az j).flatMap (bI (bagE j O nb) O 0):=by
  refine congrArg (λg=>(Az j).flatMap g) (funext λu=>?_);unfold bI;rw[if_neg (by omega)]
 rw[hbz,<-hg];have hpl:(fA 32 λu=>iD ((pI O j u:Nat):Int))=fA 32 λu=>iD ((pI O j u:Nat):Int):=rfl;refine zK (λ(i:Nat)=>fr 155 [(3,An 0 0),(12,An 1 0),(13,An 2 0),(16,An 3 0),(17,AB 4 0 j (j*3) Aa),(96,iD j),(97,iD i)]) (λ(i:Nat)=>[grB (iD (j:Nat))<|.row (E.map u32D) E.length,iaB (fA 32 λu=>iD ((O.getD u 0:Nat):Int)),iaB (fA 32 λu=>iD ((pI O j u:Nat):Int)),gaB (fA 32 λu=>u32D (nbT j O nb i u)),bgE<|(Az j).flatMap<|bI (bagE j O nb) O i]) (λ(i:Nat)=>j-i) (λ(i:Nat)=>i<=j) 0 ?_ ?_ ?_
 ·omega
 ·refine vk 5
 clear hsa hal had hea hg l0;intro i h1;rcases AI i j with h3|h3
 ·have hv:=hoL _ (hOm i h3);have hhd:=zEf (g:=λu=>iD ((O.getD u 0:Nat):Int)) (N:=32) (by omega:i<32);have hpi:∀u,u<j->pI O j u=O.idxOf u:=λu hu=>by unfold pI;rw[if_pos (hxi u hu).1]
  have hid:=hix i h3;have hT:=nbT_32 (n:=j) (O:=O) hb32 i;have hT1:nbT j O nb (i+1)=nbJ (nbT j O nb i (O.getD i 0)) (O.getD i 0) j (nbT j O nb i):=rfl;have hbg:bagE j O nb (O.getD i 0)=⟨O.getD i 0,nbT j O nb i (O.getD i 0),pz (parJ (nbT j O nb i (O.getD i 0)) (λu=>O.idxOf u) j)⟩:=by unfold bagE;rw[hid]
  generalize nbT j O nb i=T at*;generalize O.getD i 0=v at*;have hhn:=zEf (g:=λu=>u32D (T u)) (N:=32) (by omega:v<32);focus
   refine vAu<|zA<|vT ((i:Int)<↑j)<|vKB<|vAe ?_;refine vA<|vr 2 ((0:Int)<=(i:Int)/\(i:Int)<↑(32:Nat))<|vo 101 1 i<|vr 1 (0<Ab (Ao i<|AS<|iaB (fA 32 λ(u:Nat)=>iD ↑(AX O u 0)))) (vsh 102 hhd<|veT<|vA<|vr 3 ((0:Int)<=(v:Int)/\(v:Int)<↑(32:Nat))<|vo 105 3 v<|vr 1 (0<Ab (Ao v<|AS<|gaB (fA 32 λ(u:Nat)=>u32D (T u)))) (vsh 106 hhn<|ve (((1=1/\1<=3/\1=1/\2<=3/\1=1/\3<=3/\True)/\Aa=Aa)/\Ad=Ad/\Aa=Aa/\3=3/\3<=3) ?_) (by exact zCe (by omega))) (by exact zCe (by omega));refine zA<|vA<|ve (True/\0<2)<|zH ?_;rotate_left
  have hkv:=hT v;generalize hk:T v=key at*;refine zK (λ(q:Nat)=>fr 155 [(3,An 0 0),(12,An 1 0),(13,An 2 0),(16,An 3 0),(17,AB 4 0 j (j*3) Aa),(19,iD v),(20,An 5 0),(96,iD j),(97,iD i),(109,iD j),(110,iD q)]) (λ(q:Nat)=>[grB (iD (j:Nat))<|.row (E.map u32D) E.length,iaB (fA 32 λu=>iD ((O.getD u 0:Nat):Int)),iaB (fA 32 λu=>iD ((pI O j u:Nat):Int)),gaB (fA 32 λu=>u32D (nbJ key v q T u)),bgE<|(Az j).flatMap<|bI (bagE j O nb) O i,bgK v key<|pz<|parJ key (λu=>O.idxOf u) q]) (λ(q:Nat)=>j-q) (λ(q:Nat)=>q<=j) 0 ?_ ?_ ?_
  ·omega
  ·rw[nbJ_zero];refine vk 6
  intro q h5;rcases AI q j with h6|h6
  ·have hhp:=zEf (g:=λu=>iD ((pI O j u:Nat):Int)) (N:=32) (by omega:q<32);have hhq:=zEf (g:=λu=>u32D (nbJ key v q T u)) (N:=32) (by omega:q<32);have hTq:nbJ key v q T q=T q:=by unfold nbJ;rw[if_neg (by omega)]
   rw[hTq]at hhq;rw[hpi q h6]at hhp;have hq2:=zC8 (by omega:q<32);have hv2:=zC8 (by omega:v<32);have hqv:=zMv hq2 hv2;have hqk:=zMv (hT q) hkv;have han:=andm_32 (T q|||key) (2^q|||2^v);have hq32:=hT q;by_cases hb:key.testBit q=Aa
   ·have hset:(fA 32 λu=>u32D (nbJ key v q T u)).set q (u32D (andm (T q|||key) (2^q|||2^v)))=fA 32 λu=>u32D (nbJ key v (q+1) T u):=by
     rw[zEv];refine zB1 λu _=>?_;rw[nbJ_succ hb];split<;>rfl
    unfold andm at hset han;cases hp:parJ key (λu=>O.idxOf u) q with
    | none=>
     have hp1:parJ key (λu=>O.idxOf u) (q+1)=Aw q:=by rw[parJ,if_pos hb,hp]
     focus
      refine vAu<|zA<|vT ((q:Int)<↑j)<|vKB<|vAe ?_;refine zA<|vA<|vr 4 (True/\0<2/\(0:Int)<=(q:Int))<|vs 116 (Ai<|Am Ag<|Int.fdiv (key:Int) ((2:Int)^min (Aq (q:Int)) 32)) (dig (key>>>q)) (by simp(disch:=omega) only[AM,zE5])<|vrT 1<|vs 117 (Ai<|Am Ag<|AK Ag (↑(AF (Ar 32 (↑(key>>>q):Int)&&&Ar 32 (1:Int))):Int)) (dig<|AF (Ar 32 (↑(key>>>q):Int)&&&Ar 32 (1:Int))) (by simp(disch:=omega) only[zA2])<|vrT 1<|vs 118 (bD ((↑(AF (Ar 32 (↑(key>>>q):Int)&&&Ar 32 (1:Int))):Int)==(0:Int))) (bD Ad) (by simp(disch:=omega) only[bit_b0,Bool.not_true,hb])<|veT<|vf<|vK ?_;refine zA<|zA<|vd [0,1,2,3,4,5,7,6,8,9,10,11,12]<|ve (True/\0<1)<|vt<|zB rfl<|ve (True/\Bk.fz (bgK v key<|pz AQ)=Ad/\Aa=Aa/\1=1/\3<=3)<|vd [0,1,2,4,7,8,9,10,11,3,5,6,12,13,14]<|vr 3 ((0:Int)<=(q:Int)/\(q:Int)<↑(32:Nat))<|vo 136 3 q<|vr 3 (True/\(0:Int)<=(q:Int))<|vs 142 (Ai<|Am Ag<|AK Ag ((1:Int)*(2:Int)^min (Aq (q:Int)) 32)) (dig ((2:Nat)^q)) (by simp(disch:=omega) only[AM,zDu])<|vr 2 ((0:Int)<=(v:Int))<|vs 144 (Ai<|Am Ag<|AK Ag ((1:Int)*(2:Int)^min (Aq (v:Int)) 32)) (dig ((2:Nat)^v)) (by simp(disch:=omega) only[AM,zDu]) ?_;refine vrT 1<|vs 145 (Ai<|Am Ag<|AK Ag (↑(AF (Ar 32 (↑((2:Nat)^q):Int)|||Ar 32 (↑((2:Nat)^v):Int))):Int)) (dig ((2:Nat)^q|||(2:Nat)^v)) (by simp(disch:=omega) only[zMl,zA2])<|vr 1 (0<Ab (Ao q<|AS<|gaB (fA 32 λ(u:Nat)=>u32D (nbJ key v q T u)))) (vsh 137 hhq<|vr 2 (0<2/\True)<|vs 140 (Ai<|Am Ag<|AK Ag (↑(AF (Ar 32 (↑(T q):Int)|||Ar 32 (key:Int))):Int)) (dig (T q|||key)) (by simp(disch:=omega) only[zMl,zA2])<|vrT 1<|vs 146 (Ai<|Am Ag<|AK Ag (↑(AF (Ar 32 (↑(T q|||key):Int)&&&~~~Ar 32 (↑((2:Nat)^q|||(2:Nat)^v):Int))):Int)) (dig<|AF (Ar 32 (↑(T q|||key):Int)&&&~~~Ar 32 (↑((2:Nat)^q|||(2:Nat)^v):Int))) (by simp(disch:=omega) only[zA2])<|vr 1 ((0:Int)<=(q:Int)/\(q:Int)<↑(32:Nat))<|vo 147 3 q<|vr 1 (Bk.fz (gaB (fA 32 λ(u:Nat)=>u32D (nbJ key v q T u)))=Ad/\Aa=Aa/\1=1/\q+1<=32)<|vnil<|zD<|zC ?_) (by exact zCe (by omega));refine zA5<|zB rfl<|vr 2 (i6 (↑q+1))<|vnil<|zC ?_;rotate_left
     refine⟨q+1,by omega,by omega,?_⟩;rw[hp1,<-hset];refine vk 6
    | some p=>
     obtain⟨p1,p2⟩:=zLm hp;have hhr:=zEf (g:=λu=>iD ((pI O j u:Nat):Int)) (N:=32) (by omega:p<32);rw[hpi p (by omega)]at hhr;have hpz:pz (Aw p)=((p:Nat):Int):=rfl;rw[hpz];focus
      refine vAu<|zA<|vT ((q:Int)<↑j)<|vKB<|vAe ?_;refine zA<|vA<|vr 4 (True/\0<2/\(0:Int)<=(q:Int))<|vs 116 (Ai<|Am Ag<|Int.fdiv (key:Int) ((2:Int)^min (Aq (q:Int)) 32)) (dig (key>>>q)) (by simp(disch:=omega) only[AM,zE5])<|vrT 1<|vs 117 (Ai<|Am Ag<|AK Ag (↑(AF (Ar 32 (↑(key>>>q):Int)&&&Ar 32 (1:Int))):Int)) (dig<|AF (Ar 32 (↑(key>>>q):Int)&&&Ar 32 (1:Int))) (by simp(disch:=omega) only[zA2])<|vrT 1<|vs 118 (bD ((↑(AF (Ar 32 (↑(key>>>q):Int)&&&Ar 32 (1:Int))):Int)==(0:Int))) (bD Ad) (by simp(disch:=omega) only[bit_b0,Bool.not_true,hb])<|veT<|vf<|vK ?_;refine zA<|zA<|vd [0,1,2,3,4,5,7,6,8,9,10,11,12]<|vw 6 [] [(3,Ad)] (True/\0<1/\decide ((p:Int)<0)=Ad/\(0:Int)<=(q:Int)/\(q:Int)<↑(32:Nat))<|vo 124 2 q<|vr 2 (True/\0<Ab (Ao q<|AS<|iaB (fA 32 λ(u:Nat)=>iD ↑(pI O j u)))) (vsh 125 hhp<|vr 2 (0<1/\(0:Int)<=(p:Int)/\(p:Int)<↑(32:Nat))<|vo 128 2 p<|vr 1 (0<Ab (Ao p<|AS<|iaB (fA 32 λ(u:Nat)=>iD ↑(pI O j u)))) (vsh 129 hhr<|veT ?_) (by exact zCe (by omega))) ⟨trivial,(by exact zCe (by omega))⟩;refine zAa (t:=decide ((↑(List.idxOf q O):Int)<(↑(List.idxOf p O):Int))) (by kernel_rfl) (λhc=>?_)<|λhc=>?_;simp only[decide_eq_true_eq]at hc;refine zB rfl<|ve (True/\Bk.fz (bgK v key (p:Int))=Ad/\Aa=Aa/\1=1/\3<=3)<|vd [0,1,2,4,7,8,9,10,11,3,5,6,12,13,14]<|vr 3 ((0:Int)<=(q:Int)/\(q:Int)<↑(32:Nat))<|vo 136 3 q<|vr 3 (True/\(0:Int)<=(q:Int))<|vs 142 (Ai<|Am Ag<|AK Ag ((1:Int)*(2:Int)^min (Aq (q:Int)) 32)) (dig ((2:Nat)^q)) (by simp(disch:=omega) only[AM,zDu])<|vr 2 ((0:Int)<=(v:Int))<|vs 144 (Ai<|Am Ag<|AK Ag ((1:Int)*(2:Int)^min (Aq (v:Int)) 32)) (dig ((2:Nat)^v)) (by simp(disch:=omega) only[AM,zDu])<|vrT 1<|vs 145 (Ai<|Am Ag<|AK Ag (↑(AF (Ar 32 (↑((2:Nat)^q):Int)|||Ar 32 (↑((2:Nat)^v):Int))):Int)) (dig ((2:Nat)^q|||(2:Nat)^v)) (by simp(disch:=omega) only[zMl,zA2])<|vr 1 (0<Ab (Ao q<|AS<|gaB (fA 32 λ(u:Nat)=>u32D (nbJ key v q T u)))) (vsh 137 hhq<|vr 2 (0<2/\True) ?_) (by exact zCe (by omega));refine vs 140 (Ai<|Am Ag<|AK Ag (↑(AF (Ar 32 (↑(T q):Int)|||Ar 32 (key:Int))):Int)) (dig (T q|||key)) (by simp(disch:=omega) only[zMl,zA2])<|vrT 1<|vs 146 (Ai<|Am Ag<|AK Ag (↑(AF (Ar 32 (↑(T q|||key):Int)&&&~~~Ar 32 (↑((2:Nat)^q|||(2:Nat)^v):Int))):Int)) (dig<|AF (Ar 32 (↑(T q|||key):Int)&&&~~~Ar 32 (↑((2:Nat)^q|||(2:Nat)^v):Int))) (by simp(disch:=omega) only[zA2])<|vr 1 ((0:Int)<=(q:Int)/\(q:Int)<↑(32:Nat))<|vo 147 3 q<|vr 1 (Bk.fz (gaB (fA 32 λ(u:Nat)=>u32D (nbJ key v q T u)))=Ad/\Aa=Aa/\1=1/\q+1<=32)<|vnil<|zD<|vN<|zB rfl<|vr 2 (i6 (↑q+1))<|vnil<|zC ?_;rotate_left;simp only[decide_eq_false_iff_not]at hc;refine vK<|vd [0,1,2,4,7,8,9,10,11,3,5,6,12,13,14]<|vr 3 ((0:Int)<=(q:Int)/\(q:Int)<↑(32:Nat))<|vo 136 3 q<|vr 3 (True/\(0:Int)<=(q:Int))<|vs 142 (Ai<|Am Ag<|AK Ag ((1:Int)*(2:Int)^min (Aq (q:Int)) 32)) (dig ((2:Nat)^q)) (by simp(disch:=omega) only[AM,zDu])<|vr 2 ((0:Int)<=(v:Int))<|vs 144 (Ai<|Am Ag<|AK Ag ((1:Int)*(2:Int)^min (Aq (v:Int)) 32)) (dig ((2:Nat)^v)) (by simp(disch:=omega) only[AM,zDu])<|vrT 1<|vs 145 (Ai<|Am Ag<|AK Ag (↑(AF (Ar 32 (↑((2:Nat)^q):Int)|||Ar 32 (↑((2:Nat)^v):Int))):Int)) (dig ((2:Nat)^q|||(2:Nat)^v)) (by simp(disch:=omega) only[zMl,zA2])<|vr 1 (0<Ab (Ao q<|AS<|gaB (fA 32 λ(u:Nat)=>u32D (nbJ key v q T u)))) (vsh 137 hhq ?_) (by exact zCe (by omega));refine vr 2 (0<2/\True)<|vs 140 (Ai<|Am Ag<|AK Ag (↑(AF (Ar 32 (↑(T q):Int)|||Ar 32 (key:Int))):Int)) (dig (T q|||key)) (by simp(disch:=omega) only[zMl,zA2])<|vrT 1<|vs 146 (Ai<|Am Ag<|AK Ag (↑(AF (Ar 32 (↑(T q|||key):Int)&&&~~~Ar 32 (↑((2:Nat)^q|||(2:Nat)^v):Int))):Int)) (dig<|AF (Ar 32 (↑(T q|||key):Int)&&&~~~Ar 32 (↑((2:Nat)^q|||(2:Nat)^v):Int))) (by simp(disch:=omega) only[zA2])<|vr 1 ((0:Int)<=(q:Int)/\(q:Int)<↑(32:Nat))<|vo 147 3 q<|vr 1 (Bk.fz (gaB (fA 32 λ(u:Nat)=>u32D (nbJ key v q T u)))=Ad/\Aa=Aa/\1=1/\q+1<=32)<|vnil<|zD<|vN<|zB rfl<|vr 2 (i6 (↑q+1))<|vnil ?_;refine zC ?_;rotate_left
     ·have hp1:parJ key (λu=>O.idxOf u) (q+1)=Aw q:=by
       rw[parJ,if_pos hb,hp];exact if_pos (by omega)
      refine⟨q+1,by omega,by omega,?_⟩;rw[hp1,<-hset];refine vk 6
     have hp1:parJ key (λu=>O.idxOf u) (q+1)=Aw p:=by
      rw[parJ,if_pos hb,hp];exact if_neg (by omega)
     refine⟨q+1,by omega,by omega,?_⟩;rw[hp1,<-hset];refine vk 6
   have hb0:key.testBit q=false:=by simpa using hb
   have hp1:parJ key (λu=>O.idxOf u) (q+1)=parJ key (λu=>O.idxOf u) q:=by rw[parJ,if_neg hb]
   focus
    refine vAu<|zA<|vT ((q:Int)<↑j)<|vKB<|vAe ?_;refine zA<|vA<|vr 4 (True/\0<2/\(0:Int)<=(q:Int))<|vs 116 (Ai<|Am Ag<|Int.fdiv (key:Int) ((2:Int)^min (Aq (q:Int)) 32)) (dig (key>>>q)) (by simp(disch:=omega) only[AM,zE5])<|vrT 1<|vs 117 (Ai<|Am Ag<|AK Ag (↑(AF (Ar 32 (↑(key>>>q):Int)&&&Ar 32 (1:Int))):Int)) (dig<|AF (Ar 32 (↑(key>>>q):Int)&&&Ar 32 (1:Int))) (by simp(disch:=omega) only[zA2])<|vrT 1<|vs 118 (bD ((↑(AF (Ar 32 (↑(key>>>q):Int)&&&Ar 32 (1:Int))):Int)==(0:Int))) (bD Aa) (by simp(disch:=omega) only[bit_b0,Bool.not_false,hb0])<|veT<|vt<|vY ?_;refine vN<|zB rfl<|vr 2 (i6 (↑q+1))<|vnil<|zC ?_;rotate_left
   refine⟨q+1,by omega,by omega,?_⟩;rw[hp1,nbJ_no hb0];refine vk 6
  obtain rfl:q=j:=by omega
  have hbs:setAt ((Az q).flatMap (bI (bagE q O nb) O i)) (v*3) [iD (v:Nat),u32D key,iD (pz (parJ key (λu=>O.idxOf u) q))]=(Az q).flatMap (bI (bagE q O nb) O (i+1)):=by
   rw[fl_set (bI_len _ _ _) rfl hv];refine congrArg (λg=>(Az q).flatMap g) (funext λu=>?_);by_cases hu:u=v
   ·subst hu;rw[if_pos rfl];unfold bI;rw[hid,if_pos (by omega),hbg]
   rw[if_neg hu];unfold bI;by_cases h7:O.idxOf u<i
   ·rw[if_pos h7,if_pos (by omega)]
   rw[if_neg h7,if_neg λh8=>?_];have h9:O.idxOf u=i:=by omega
   have h10:u∈O:=A7.1 (by omega);have h11:v∈O:=A7.1 (by omega);refine hu ?_;have e1:=Bp (A7.2 h10);have e2:=Bp (A7.2 h11);rw[<-e1,<-e2];simp only[h9,hid]
  have hln:v*3+3<=((Az q).flatMap (bI (bagE q O nb) O i)).length:=by
   rw[zDk (bI_len _ _ _),Bt];omega
  simp only[setAt]at hbs;focus
   refine vAu<|zA<|vF ((q:Int)<↑q)<|vZ2<|zB rfl<|vr 4 (3<=3/\(0:Int)<=(v:Int)/\(v:Int)<↑q) ?_;refine vo0 152 4 (v*3)<|vr 1 (Bk.fz (bgE<|Ap (bI (bagE q O nb) O i)<|Az q)=Ad/\Aa=Aa/\3=3/\v*3+3<=Ab (AS<|bgE<|Ap (bI (bagE q O nb) O i)<|Az q)/\¬4∈[])<|vnil<|zD<|vN<|zB rfl<|vr 2 (i6 (↑i+1))<|vnil<|zC ?_;rotate_left
  refine⟨i+1,by omega,by omega,?_⟩;rw[<-hbs,hT1];refine vk 5
 obtain rfl:i=j:=by omega
 have hbl:(Az i).flatMap (bI (bagE i O nb) O i)=(Az i).flatMap λv=>bgC (bagE i O nb v):=by
  rw[Bv,Bv];refine congrArg List.flatten (A8 λv hv=>?_);unfold bI;rw[if_pos (hxi v (AT.1 hv)).1]
 have hbt:((Az i).flatMap λv=>bgC (bagE i O nb v)).take (i*3)=(Az i).flatMap λv=>bgC (bagE i O nb v):=zNq (c:=3) (λ_=>rfl) _ _ (by simp);rw[hbl];focus
  refine vAu<|zA<|vF ((i:Int)<↑i)<|vZ2<|vA ?_;refine veT<|zE ?_;refine zB9 (True) (D.tup [Ae (Au (i*3)<|Ao 0<|AS<|bgE<|Ap (λ(v:Nat)=>bgC (bagE i O nb v))<|Az i) i,iD 0]) (D.tup [Ae (Ap (λ(v:Nat)=>bgC (bagE i O nb v))<|Az i) i,Ai<|Am A9 0]) (.inr rfl) trivial (by simp(disch:=omega) only[AW,hbt]) rfl
structure Bal(b:Bd)(VT:Nat->List Rw)(TT:Nat->List (Rw×Nat)):Prop where
 n:b.n<=1000
 f:b.f<=b.n
 d:b.desc.length=b.f
 L:b.L.length=b.n
 R:b.R.length=b.n
 E:b.E=b.A.map λa=>msk a.1
 P:b.P.length+b.f=b.n
 P2:∀v∈b.P,b.f<=v/\v<b.n
 P3:b.P.Nodup
 A:b.A.length<=1000
 Av:∀a∈b.A,a.1.length<=1000/\(∀v∈a.1,v<32)/\a.2.length<=65536
 k:∀c∈b.L,c.k<4294967296
 V:∀v,v<b.n->(b.R.getD v Ak).1.length<=1000/\0<(b.R.getD v Ak).1.length/\∀u∈(b.R.getD v Ak).1,u<32
 r:∀v,v<b.n->∀x∈(b.R.getD v Ak).2,x.length=(b.R.getD v Ak).1.length/\(∀u∈x,Vs u)/\x.all vok=Aa
 rl:∀v,v<b.n->(b.R.getD v Ak).2.length<=65536
 S:∀v,v<b.n->∀x∈(b.R.getD v Ak).2,∀i,i<=(chV b v).length->Sm (wtL b.f VT TT x ((chV b v).take i))
 S1:∀v,v<b.n->∀p∈TT v,Sm p.2
 T:∀v,v<b.n->Sm (sumW (λx=>wtL b.f VT TT x (chV b v)) (b.R.getD v Ak).2)
 Rt:∀i,i<=b.n->Sm (rtL b.L b.f VT TT i)
 vt:∀v,b.f<=v->v<b.n->VT v=redK (λx=>wtL b.f VT TT x (chV b v)) (keyC b v) (b.R.getD v Ak).2
 tt:∀v,v<b.f->TT v=totL (grpL (b.desc.getD v Ad) (λx=>wtL b.f VT TT x (chV b v)) (b.R.getD v Ak).2)
 o1:∀i,i<b.P.length->∀c∈chV b (b.P.getD i 0),c.1∈b.P.take i
 o2:∀v,v<b.f->∀c∈chV b v,c.1<b.f->v<c.1
def gvT(P:List Nat)(VT:Nat->List Rw)(i c:Nat):D:=if c∈P.take i then zHk (VT c)else .val (.map AQ)
def gtT(f:Nat)(TT:Nat->List (Rw×Nat))(j c:Nat):D:=if f<=c+j/\c<f then zGt (TT c)else .val (.map AQ)
def guT(f:Nat)(U:Nat->List Bu)(j c:Nat):D:=if f<=c+j/\c<f then busD (U c)else .val (.slice AQ 0 0)
abbrev buk(b:Bd)(VT:Nat->List Rw)(TT:Nat->List (Rw×Nat))(v:Nat):List Bu:=grpL (b.desc.getD v Ad) (λx=>wtL b.f VT TT x (chV b v)) (b.R.getD v Ak).2
theorem gvT_ref{P:List Nat}{VT:Nat->List Rw}{i c j:Nat}:refs j (gvT P VT i c)=false:=by unfold gvT;split<;>rfl
theorem gtT_ref{f:Nat}{TT:Nat->List (Rw×Nat)}{i c j:Nat}:refs j (gtT f TT i c)=false:=by unfold gtT;split<;>rfl
section
variable {b : Bd} {VT : Nat → List Rw} {TT : Nat → List (Rw × Nat)} (h : Bal b VT TT)
include h
theorem Bal.mem{v:Nat}(h1:b.f<=v)(h2:v<b.n):v∈b.P:=by
 have hO:=zPn (f:=b.f) h.P;have hm:=zJi (zTb h.P2 h.P3) hO (zTc h.P h.P2) v h2;rcases BM.1 hm with hm|hm
 ·exact hm
 simp at hm;omega
theorem Bal.bok{v i j:Nat}(hv:v<b.n)(hgv:∀c∈chV b v,b.f<=c.1->c.1∈b.P.take i)(hgt:∀c∈chV b v,c.1<b.f->b.f<=c.1+j)(hne:∀c∈chV b v,c.1≠v):Bok b v (gvT b.P VT i) (gtT b.f TT j) VT TT where
 n:=h.n
 vn:=hv
 L:=h.L
 R:=h.R
 k:=h.k
 V:=(h.V v hv).1
 V2:=(h.V v hv).2.2
 r x hx:=⟨(h.r v hv x hx).1,(h.r v hv x hx).2.1⟩
 rl:=h.rl v hv
 hv c hc hf:=if_pos (hgv c hc hf)
 ht c hc hf:=if_pos ⟨hgt c hc hf,hf⟩
 ne:=hne
 S:=h.S v hv
 S1 c hc:=h.S1 c.1 (by rw[<-h.L];exact(zG9 hc).1)
 gw c _ j _:=gvT_ref
 tw c _ j _:=gtT_ref
theorem Bal.bokP{i:Nat}(hi:i<b.P.length):Bok b (b.P.getD i 0) (gvT b.P VT i) (gtT b.f TT 0) VT TT:=by
 have hm:=zBw b.P i hi;have h1:=h.P2 _ hm;refine h.bok h1.2 (λc hc _=>h.o1 i hi c hc) (λc hc hf=>?_) (λc hc e=>?_)
 ·have:=(h.P2 _ (Bb (h.o1 i hi c hc))).1
  omega
 have h2:=h.o1 i hi c hc;rw[e]at h2;obtain⟨j,hj,e2⟩:=Bc h2;have hji:j<i:=by simp at hj;omega
 rw[List.getElem_take,As,AA hi]at e2
 have:=(List.getElem_inj h.P3).1 e2
 omega
theorem Bal.bokF{j:Nat}(hj:j<b.f):Bok b (b.f-1-j) (gvT b.P VT b.P.length) (gtT b.f TT j) VT TT:=by
 have hf:=h.f;refine h.bok (by omega) (λc hc hcf=>?_) (λc hc hcf=>?_) (λc hc e=>?_)
 ·rw[A0];exact h.mem hcf (by rw[<-h.L];exact(zG9 hc).1)
 ·have:=h.o2 _ (by omega) c hc hcf
  omega
 have:=h.o2 _ (by omega) c hc (by omega)
 omega
end
theorem fA_le{n:Nat}{g g':Nat->D}(h:∀i,LeD (g i) (g' i)):LeL (fA n g) (fA n g'):=by
 unfold fA;induction Az n with
 |nil=>exact .nil
 |cons a l ih=>exact .cons (h a) ih
def Tbd:Par:=⟨λf=>f==51||f==52||f==53,λ_ _=>AQ,λ_=>Ad,λ_=>Ad,λt=>t==170||t==177⟩
theorem Tbd_ok:zBd Al Tbd:=by intro t n f h;cases h
abbrev inpN(b:Bd):D:= .agg [iD (b.n:Nat),iD (b.f:Nat), .row (b.desc.map bD) b.desc.length, .row (nsD b.P) b.P.length, .row (b.A.flatMap atR) b.A.length]
abbrev gB2(n m:Nat):Bk:=⟨[iD (n:Nat), .osl 3 0 m m Aa],77,0,Ad,Ad, .plain⟩
def zBu(R:List (List Nat×List Rw)):Nat:=(R.map λa=>a.2.length).sum
theorem zNa(R:List (List Nat×List Rw))(i:Nat)(h:i<R.length):zBu (R.take (i+1))=zBu (R.take i)+(R.getD i Ak).2.length:=by
 unfold zBu;rw[BN h,Bi,BO,As,AA h];simp
set_option maxHeartbeats 4000000 in
theorem build_c(b:Bd)(VT:Nat->List Rw)(TT:Nat->List (Rw×Nat))(S:Nat)(h:Bal b VT TT)
  (hck:Pure Al 16 [inpN b] [] (iD 0))
  (heb:Pure Al 31 [.agg [iD (b.n:Nat), .row (b.E.map u32D) b.E.length],iD (b.f:Nat), .row (nsD b.P) b.P.length] [] (.tup [.row (b.L.flatMap bgC) b.L.length,iD 0]))
  (hall:Pure Al 32 [iD (b.n:Nat), .row (b.L.flatMap bgC) b.L.length, .row (b.A.flatMap atR) b.A.length] [] (.tup [.row (b.R.flatMap atR) b.R.length,iD ((S:Nat):Int),iD 0]))
  (hSb:S+zBu b.R<=9000000000000000000):
  Pure Al 15 [inpN b] [] (.tup [ixD b.desc (b.L.take b.f) (λc=>if totB b VT TT=0 then[]else buk b VT TT c) (totB b VT TT),iD ((S+zBu b.R:Nat):Int),iD 0]):=by
 have hac:∀a:List Nat×List Rw,(atR a).length=3:=λ_=>rfl;have hAl:=h.A;refine zF Tbd_ok mixed Tryz.func15 rfl ?_;focus
  refine vAu<|zA<|vA<|vr 1 (5<=5)<|vc hck<|veT<|vAe<|vf ?_;refine vK<|vA<|vr 5 (True/\0<5/\((1=1/\1<=2/\True)/\Aa=Aa)/\Ad=Ad/\Aa=Aa/\2=2/\2<=2)<|vnil<|zC<|vnn (fr 159 [(1,An 0 0),(2,An 1 0),(3,iD 0),(4,iD 0),(5,iD 0),(6,An 2 0),(27,bD Ad),(30,An 0 0),(31,iD ↑(Aj b)),(32,AE [iD ↑(Aj b),nl])]) [(q26_ b),q27_,AG [iD ↑(Aj b),nl] 77 0 Ad Ad AL] ?_;rotate_left
 refine zBz (Weak.nilC (j:=2) (i:=1) (ej:=grB (iD (b.n:Nat)) nl1) (uuB []) rfl rfl rfl rfl) ?_;focus
  refine zA<|vAs<|ve (True/\0<1)<|zH ?_;rotate_left
 refine zK (λ(i:Nat)=>fr 159 [(1,An 0 0),(2,An 1 0),(3,iD 0),(4,iD 0),(6,An 2 0),(34,(q19_ b)),(35,iD (Ab (Ay b):Int)),(36,iD i)]) (λ(i:Nat)=>[blI b,blX,gB2 b.n i,uuB ((b.A.take i).map λa=>msk a.1)]) (λ(i:Nat)=>b.A.length-i) (λ(i:Nat)=>i<=b.A.length) 0 ?_ ?_ ?_
 ·omega
 ·refine vk 4
 intro i h1;rcases AI i b.A.length with h3|h3
 ·have hg2:=zCp hac b.A i h3;have hle:=zEe hac b.A i h3;have hne:=zDc hac (by decide) b.A (by omega);have hmem:b.A.getD i Ak∈b.A:=by rw[As,AA h3];exact A2 h3
  obtain⟨a1,a2,a3⟩:=h.Av _ hmem;have htk:b.A.take (i+1)=b.A.take i++[b.A.getD i Ak]:=zEi b.A i h3;have hcl:((b.A.take i).map λa=>msk a.1).length=i:=by simp;omega
  generalize b.A.getD i Ak=a at*;have huu:uuB ((b.A.take (i+1)).map λa=>msk a.1)=⟨((b.A.take i).map λa=>msk a.1).map u32D++[u32D (msk a.1)],36,1,Aa,Ad, .plain⟩:=by rw[htk];simp
  focus
   refine vAu<|zA<|vT ((i:Int)<(Ab (Ay b):Int))<|vKB<|vA<|vr 2 (ix ↑i (Ab (Ay b):Int) (Ap atR (Ay b)≠[])/\3<=Ab (Ao (i*3)<|Ap atR<|Ay b)) ?_;refine vs 39 (AE<|Au 3<|Ao (i*3)<|Ap atR<|Ay b) (AE<|atR a) (by simp(disch:=omega) only[hg2])<|ve (Ad=Ad/\Aa=Aa/\3=3/\3<=3)<|vAe<|zA<|vA<|ve (True/\0<3)<|zH ?_;rotate_left
  refine zK (λ(j:Nat)=>fr 159 [(1,An 0 0),(2,An 1 0),(3,iD 0),(4,iD 0),(6,An 2 0),(9,u32D<|msk<|Au j<|AC a),(34,(q19_ b)),(35,iD (Ab (Ay b):Int)),(36,iD i),(41,Ae (nsD<|AC a)<|Ab<|AC a),(42,iD (Ab (AC a):Int)),(43,iD j)]) (λ(j:Nat)=>[blI b,blX,gB2 b.n i,uuB ((b.A.take i).map λa=>msk a.1),atK a]) (λ(j:Nat)=>a.1.length-j) (λ(j:Nat)=>j<=a.1.length) 0 ?_ ?_ ?_
  ·omega
  ·refine vk 5
  intro j h2;have hlt:∀j,msk (a.1.take j)<4294967296:=λj=>msk_lt λv hv=>a2 v (Bb hv);rcases AI j a.1.length with h4|h4
  ·have h5:=a2 _ (zBw a.1 j h4);have h6:=zC8 h5;have h7:=zMv (hlt j) h6;have h8:=hlt j;focus
    refine vAu<|zA<|vT ((j:Int)<(Ab (AC a):Int))<|vKB<|vA<|vr 1 (ix ↑j (Ab (AC a):Int) (nsD (AC a)≠[])) ?_ ⟨(by omega),⟨(by omega),(by exact zAm (by omega))⟩⟩;refine vp 45 j (nsD<|AC a)<|vr 1 (0<Ab (Ao j<|nsD<|AC a))<|vs 46 (Bj (Ao j<|nsD<|AC a) Uk) (iD (↑(AX (AC a) j 0):Int)) (by simp(disch:=omega) only[zCd])<|veT<|zB rfl<|vr 3 ((0:Int)<=(↑(AX (AC a) j 0):Int))<|vs 49 (Ai<|Am Ag<|AK Ag ((1:Int)*(2:Int)^min (Aq (↑(AX (AC a) j 0):Int)) 32)) (dig ((2:Nat)^AX (AC a) j 0)) (by simp(disch:=omega) only[AM,zDu])<|vrT 1<|vs 50 (Ai<|Am Ag<|AK Ag (↑(AF (Ar 32 (↑(msk<|Au j<|AC a):Int)|||Ar 32 (↑((2:Nat)^AX (AC a) j 0):Int))):Int)) (dig (msk (Au j<|AC a)|||(2:Nat)^AX (AC a) j 0)) (by simp(disch:=omega) only[zMl,zA2])<|vrT 1<|vnil<|zD<|vN ?_;refine zB rfl<|vr 2 (i6 (↑j+1))<|vnil<|zC ?_;rotate_left
   refine⟨j+1,by omega,by omega,?_⟩;rw[zPu a.1 j h4];refine vk 5
  obtain rfl:j=a.1.length:=by omega
  rw[A0];focus
   refine vAu<|zA<|vF ((Ab (AC a):Int)<(Ab (AC a):Int))<|vZ2<|zB rfl<|vr 7 (True/\0<1/\((1=1/\1<=1/\True)/\0<1/\1=1/\1<=16777216/\1<=9223372036854775807)/\(Bk.arr (uuB<|Ah (λ(a:List Nat×List Rw)=>msk (AC a))<|Au i<|Ay b)=Aa/\Ab (AS<|uuB<|Ah (λ(a:List Nat×List Rw)=>msk (AC a))<|Au i<|Ay b)=i*1/\i=i*1/\Bk.ty (uuB<|Ah (λ(a:List Nat×List Rw)=>msk (AC a))<|Au i<|Ay b)=36/\Bk.sz (uuB<|Ah (λ(a:List Nat×List Rw)=>msk (AC a))<|Au i<|Ay b)=1/\1=1/\0<1/\0<4/\36=36/\(i+1)*4<=140737488355328/\1=1/\Kd.isMap (Bk.kd<|uuB<|Ah (λ(a:List Nat×List Rw)=>msk (AC a))<|Au i<|Ay b)=Ad/\(Ad=Ad\/Kd.isSh (Bk.kd<|uuB<|Ah (λ(a:List Nat×List Rw)=>msk (AC a))<|Au i<|Ay b)=Aa))/\True/\Ad=Ad/\Aa=Aa/\1=1/\2<=2) ?_;refine vb 2 (AG [iD ↑(Aj b),AB 3 0 (i+1) ((i+1)*1) Aa] 77 0 Ad Ad AL) (AG [iD ↑(Aj b),AB 3 0 (i+1) (i+1) Aa] 77 0 Ad Ad AL) (by simp(disch:=omega) only[Bh])<|vnil<|zD<|vN<|zB rfl<|vr 2 (i6 (↑i+1))<|vnil<|zC ?_;rotate_left
  refine⟨i+1,by omega,by omega,?_⟩;rw[huu];refine vk 4
 have hiA:i=b.A.length:=by omega
 rw[hiA,A0,<-h.E];have hEl:b.A.length=b.E.length:=by rw[h.E,AR]
 have hEt:(b.E.map u32D).take b.A.length=b.E.map u32D:=Bo (by rw[AR];omega);rw[<-hEl]at heb;focus
  refine vAu<|zA<|vF ((Ab (Ay b):Int)<(Ab (Ay b):Int))<|vZ2<|vA ?_;refine vr 5 (2<=2/\True/\0<4/\True/\0<2)<|vcl [AE [iD ↑(Aj b),Ae (Au (Ab<|Ay b)<|Ao 0<|AS<|uuB<|Bd.E b)<|Ab<|Ay b],iD ↑(Af b),Ae (nsD<|Ax b)<|Ab<|Ax b] [AE [iD ↑(Aj b),Ae (Ah u32D<|Bd.E b)<|Ab<|Ay b],iD ↑(Af b),Ae (nsD<|Ax b)<|Ab<|Ax b] (LeL.of_eq (by simp(disch:=omega) only[AW,hEt])) (by exact heb)<|ve (0<2/\1<2)<|zA<|vAe<|vf<|vK<|vA<|vr 5 (True/\0<5/\True/\0<1) ?_;refine vc hall<|ve (0<3/\1<3/\2<3)<|zA<|vAe<|vf<|zQ<|zC<|vnn (fr 159 [(1,An 0 0),(2,An 1 0),(3,iD 0),(4,iD 0),(12,(q16_ b)),(13,iD 0),(14,(q15_ b)),(15,iD S),(83,bD Ad)]) [blI b,blX,gB2 (Aj b)<|Ab<|Ay b,AG (Ah u32D<|Bd.E b) (36:TypeId) 1 Aa Aa AL] ?_;rotate_left
 have hRl:=h.R;have hbn:=h.n;focus
  refine zA5<|zA<|vAu<|zH ?_;rotate_left
 refine zK (λ(i:Nat)=>fr 159 [(1,An 0 0),(2,An 1 0),(3,iD 0),(4,iD 0),(12,(q16_ b)),(14,(q15_ b)),(15,iD (↑(S+zBu (Au i<|AD b)):Int)),(86,(q15_ b)),(87,iD (Ab (AD b):Int)),(88,iD i)]) (λ(i:Nat)=>[blI b,blX,blG b,blE b]) (λ(i:Nat)=>b.R.length-i) (λ(i:Nat)=>i<=b.R.length) 0 ?_ ?_ ?_
 ·omega
 ·refine vk 4
 intro j h2;rcases AI j b.R.length with h3'|h3'
 ·have hg2:=zCp hac b.R j h3';have hle:=zEe hac b.R j h3';have hne:=zDc hac (by decide) b.R (by omega);have hsu:=zNa b.R j h3';have hbd:zBu (b.R.take j)+(b.R.getD j Ak).2.length<=zBu b.R:=by
   rw[<-hsu];unfold zBu;have e:b.R.map (λa=>a.2.length)=(b.R.take (j+1)).map (λa=>a.2.length)++(b.R.drop (j+1)).map (λa=>a.2.length):=by rw[<-Bi,List.take_append_drop]
   rw[e,BO];omega
  generalize b.R.getD j Ak=a at*;have hlen:=zHp (a.1.length:Nat) (a.2.map rowV) a.2.length;focus
   refine vAu<|zA<|vT ((j:Int)<(Ab (AD b):Int))<|vKB<|vA<|vr 2 (ix ↑j (Ab (AD b):Int) (Ap atR (AD b)≠[])/\3<=Ab (Ao (j*3)<|Ap atR<|AD b)) ?_;refine vs 91 (AE<|Au 3<|Ao (j*3)<|Ap atR<|AD b) (AE<|atR a) (by simp(disch:=omega) only[hg2])<|ve (Ad=Ad/\Aa=Aa/\3=3/\3<=3)<|zB rfl<|vr 3 (True/\2<=2)<|vc hlen<|vr 2 (i6 ((↑(S+zBu (Au j<|AD b)):Int)+(Ab (Prod.snd a):Int)))<|vnil<|zD<|vN<|zB rfl<|vr 2 (i6 (↑j+1))<|vnil<|zC ?_;rotate_left
  refine⟨j+1,h3',by omega,?_⟩;rw[hsu,show((S+(zBu (b.R.take j)+a.2.length):Nat):Int)=((S+zBu (b.R.take j):Nat):Int)+((a.2.length:Nat):Int) by omega];refine vk 4
 have hjR:j=b.R.length:=by omega
 rw[hjR,A0];have hz1:repL b.n [.val (.map AQ)]=fA b.n (gvT b.P VT 0):=by
  rw[zS7];exact zB1 λc _=>by unfold gvT;rw[if_neg (by simp)]
 have hz2:repL b.n [.val (.map AQ)]=fA b.n (gtT b.f TT 0):=by
  rw[zS7];exact zB1 λc _=>by unfold gtT;rw[if_neg (by omega)]
 have hz3:repL b.f [.val (.slice AQ 0 0)]=fA b.f (guT b.f (buk b VT TT) 0):=by
  rw[zS7];exact zB1 λc _=>by unfold guT;rw[if_neg (by omega)]
 have hbf:=h.f;have hPl:=h.P;focus
  refine vAu<|zA<|vF ((Ab (AD b):Int)<(Ab (AD b):Int))<|vZ2<|vA ?_;refine ve (5<=5/\((5=5/\5<=10/\1=1/\6<=10/\1=1/\7<=10/\True)/\Aa=Aa)/\Ad=Ad/\Aa=Aa/\10=10/\10<=10)<|zA ?_;refine zA7 [0,3,1,2,6,4,5] [(7,[(4,100000),(5,6)],[8,9])] rfl ?_;refine vr 7 (True/\True/\0<5/\((0:Int)<=(↑(Aj b):Int)/\(↑(Aj b):Int)<=(↑(Aj b):Int)/\(↑(8:Nat):Int)*(↑(Aj b):Int)<=(281474976710656:Int)/\(↑(Aj b):Int)<=(281474976710656:Int)/\0<1/\1=1)/\True/\0<5/\(0:Int)<=(↑(Aj b):Int)/\(↑(Aj b):Int)<=(↑(Aj b):Int)/\(↑(8:Nat):Int)*(↑(Aj b):Int)<=(281474976710656:Int)/\(↑(Aj b):Int)<=(281474976710656:Int)/\0<1/\1=1)<|vnil<|zB3 rfl rfl (by kernel_rfl)<|vr 1 (Ad=Ad/\Aa=Aa/\1=1/\8<=10)<|vb 4 (AG [iD ↑(Aj b),iD ↑(Af b),Ae (Ah bD<|AJ b)<|Ab<|AJ b,Ae (nsD<|Ax b)<|Ab<|Ax b,Ae (Ap atR<|Ay b)<|Ab<|Ay b,Ae (Ap bgC<|AH b)<|Ab<|AH b,Ae (Ap atR<|AD b)<|Ab<|AD b,AB 5 0 (Aq (↑(Aj b):Int)) (Aq (↑(Aj b):Int)*1) Aa,nl,nl] 120 0 Ad Ad AL) (AG [iD ↑(Aj b),iD ↑(Af b),Ae (Ah bD<|AJ b)<|Ab<|AJ b,Ae (nsD<|Ax b)<|Ab<|Ax b,Ae (Ap atR<|Ay b)<|Ab<|Ay b,Ae (Ap bgC<|AH b)<|Ab<|AH b,Ae (Ap atR<|AD b)<|Ab<|AD b,AB 5 0 (Aj b) (Aj b) Aa,nl,nl] 120 0 Ad Ad AL) (by simp(disch:=omega) only[AM,Bh]) ?_;refine vnil ?_;refine zE3 (C:=0<5/\Aw (iD ↑(Aj b))=Aw (Bj [iD ↑(Aj b),iD ↑(Af b),(q17_ b),(q18_ b),(q19_ b)] Uk)/\((0:Int)<=(↑(Aj b):Int)/\(↑(Aj b):Int)<=(↑(Aj b):Int)/\(↑(8:Nat):Int)*(↑(Aj b):Int)<=(281474976710656:Int)/\(↑(Aj b):Int)<=(281474976710656:Int)/\0<1/\1=1)/\Aw (AB 6 0 (Aq (↑(Aj b):Int)) (Aq (↑(Aj b):Int)*1) Aa)=Aw (AB 6 0 (Aq (↑(Aj b):Int)) (Aq (↑(Aj b):Int)*1) Aa)/\eqDL (repL (Aj b) [Ai (Value.map AQ)]) (repL (Aq (↑(Aj b):Int)) [Ai (Value.map AQ)])/\177=177/\1=1/\Aa=Aa/\(kdOf Aa)=kdOf Aa) ⟨(by omega),(by kernel_rfl),(by omega),(by kernel_rfl),rfl,(by kernel_rfl),(by kernel_rfl),(by kernel_rfl),(by kernel_rfl)⟩ ?_;refine vr 2 (True/\Ad=Ad/\Aa=Aa/\1=1/\9<=10)<|vb 4 (AG [iD ↑(Aj b),iD ↑(Af b),Ae (Ah bD<|AJ b)<|Ab<|AJ b,Ae (nsD<|Ax b)<|Ab<|Ax b,Ae (Ap atR<|Ay b)<|Ab<|Ay b,Ae (Ap bgC<|AH b)<|Ab<|AH b,Ae (Ap atR<|AD b)<|Ab<|AD b,AB 5 0 (Aj b) (Aj b) Aa,AB 6 0 (Aq (↑(Aj b):Int)) (Aq (↑(Aj b):Int)*1) Aa,nl] 120 0 Ad Ad AL) (AG [iD ↑(Aj b),iD ↑(Af b),Ae (Ah bD<|AJ b)<|Ab<|AJ b,Ae (nsD<|Ax b)<|Ab<|Ax b,Ae (Ap atR<|Ay b)<|Ab<|Ay b,Ae (Ap bgC<|AH b)<|Ab<|AH b,Ae (Ap atR<|AD b)<|Ab<|AD b,AB 5 0 (Aj b) (Aj b) Aa,AB 6 0 (Aj b) (Aj b) Aa,nl] 120 0 Ad Ad AL) (by simp(disch:=omega) only[AM,Bh]) ?_;refine vnil<|zBv<|vN<|vA<|vr 3 (True/\0<4/\(0:Int)<=(↑(Af b):Int)/\(↑(Af b):Int)<=(↑(Af b):Int)/\(↑(24:Nat):Int)*(↑(Af b):Int)<=(281474976710656:Int)/\(↑(Af b):Int)<=(281474976710656:Int)/\0<1/\1=1)<|vb 7 (AG (repL (Aq (↑(Af b):Int)) [nl]) 88 1 Aa Ad<|kdOf Ad) (AG (fA (Af b)<|guT (Af b) (buk b VT TT) 0) 88 1 Aa Ad<|kdOf Ad) (by simp(disch:=omega) only[AM,hz3])<|vr 2 (True/\Ad=Ad/\Aa=Aa/\1=1/\10<=10)<|vb 4 (AG [iD ↑(Aj b),iD ↑(Af b),Ae (Ah bD<|AJ b)<|Ab<|AJ b,Ae (nsD<|Ax b)<|Ab<|Ax b,Ae (Ap atR<|Ay b)<|Ab<|Ay b,Ae (Ap bgC<|AH b)<|Ab<|AH b,Ae (Ap atR<|AD b)<|Ab<|AD b,AB 5 0 (Aj b) (Aj b) Aa,AB 6 0 (Aj b) (Aj b) Aa,AB 7 0 (Aq (↑(Af b):Int)) (Aq (↑(Af b):Int)*1) Aa] 120 0 Ad Ad AL) (AG [iD ↑(Aj b),iD ↑(Af b),Ae (Ah bD<|AJ b)<|Ab<|AJ b,Ae (nsD<|Ax b)<|Ab<|Ax b,Ae (Ap atR<|Ay b)<|Ab<|Ay b,Ae (Ap bgC<|AH b)<|Ab<|AH b,Ae (Ap atR<|AD b)<|Ab<|AD b,AB 5 0 (Aj b) (Aj b) Aa,AB 6 0 (Aj b) (Aj b) Aa,AB 7 0 (Af b) (Af b) Aa] 120 0 Ad Ad AL) (by simp(disch:=omega) only[AM,Bh]) ?_;refine veT<|zA<|vA<|ve (True/\0<2)<|zH ?_;rotate_left
 refine zK (λ(i:Nat)=>fr 159 [(1,An 0 0),(2,An 1 0),(3,iD 0),(4,iD 0),(12,(q16_ b)),(15,iD (↑(S+zBu (AD b)):Int)),(18,An 4 0),(115,(q18_ b)),(116,iD (Ab (Ax b):Int)),(117,iD i)]) (λ(i:Nat)=>[blI b,blX,blG b,blE b,blB b,blV<|fA b.n<|gvT b.P VT i,blT<|fA b.n<|gtT b.f TT 0,blU<|fA b.f<|guT b.f (buk b VT TT) 0]) (λ(i:Nat)=>b.P.length-i) (λ(i:Nat)=>i<=b.P.length) 0 ?_ ?_ ?_
 ·omega
 ·rw[<-hz1,<-hz2];refine vk 8
 intro p h4;rcases AI p b.P.length with h5|h5
 ·have hhd:=zCd b.P p h5;have hpm:=h.P2 _ (zBw b.P p h5);have hre:=reduce_c b (b.P.getD p 0) (gvT b.P VT p) (gtT b.f TT 0) VT TT (h.bokP h5) (fA b.f (guT b.f (buk b VT TT) 0));rw[<-h.vt _ hpm.1 hpm.2]at hre;have hgs:(fA b.n λc=>if c=b.P.getD p 0 then zHk (VT (b.P.getD p 0))else gvT b.P VT p c)=fA b.n (gvT b.P VT (p+1)):=by
   refine zB1 λc _=>?_;have htk:b.P.take (p+1)=b.P.take p++[b.P.getD p 0]:=by rw[BN h5,As,AA h5];rfl
   unfold gvT;rw[htk];by_cases e:c=b.P.getD p 0
   ·subst e;rw[if_pos rfl,if_pos (by simp)]
   rw[if_neg e];by_cases e2:c∈b.P.take p
   ·rw[if_pos e2,if_pos (by simp[e2])]
   rw[if_neg e2,if_neg (by rw[BM,BP];exact λhh=>hh.elim e2 e)]
  rw[hgs]at hre;focus
   refine vAu<|zA<|vT ((p:Int)<(Ab (Ax b):Int))<|vKB<|vA<|vr 1 (ix ↑p (Ab (Ax b):Int) (nsD (Ax b)≠[])) ?_ ⟨(by omega),⟨(by omega),(by exact zAm (by omega))⟩⟩;refine vp 119 p (nsD<|Ax b)<|vr 1 (0<Ab (Ao p<|nsD<|Ax b))<|vsh 120 hhd<|veT<|zB rfl<|vrT 1<|vnt [blI b,blX,blG b,blE b,blB b,blV<|fA (Aj b)<|gvT (Ax b) VT p,blT<|fA (Aj b)<|gtT (Af b) TT 0,blU<|fA (Af b)<|guT (Af b) (buk b VT TT) 0] ?_;refine zZ [] [] [An 4 0,iD (↑(AX (Ax b) p 0):Int)] [An 4 0,iD (↑(AX (Ax b) p 0):Int)] (LeL.refl _) (by exact hre) ?_;refine vnil<|zD<|vN<|zB rfl<|v0s<|vr 2 (i6 (↑p+1))<|vnil<|zC ?_;rotate_left
  refine⟨p+1,h5,by omega,?_⟩;refine vk 8
 have hpP:p=b.P.length:=by omega
 rw[hpP];focus
  refine vAu<|zA<|vF ((Ab (Ax b):Int)<(Ab (Ax b):Int))<|vZ2<|zA<|zA ?_;refine zB rfl<|ve (True/\0<4)<|zH ?_;rotate_left
 refine zK (λ(i:Nat)=>fr 159 [(1,An 0 0),(2,An 1 0),(12,(q16_ b)),(15,iD (↑(S+zBu (AD b)):Int)),(18,An 4 0),(125,iD ↑(Af b)),(126,iD i)]) (λ(i:Nat)=>[blI b,blX,blG b,blE b,blB b,blV<|fA b.n<|gvT b.P VT b.P.length,blT<|fA b.n<|gtT b.f TT i,blU<|fA b.f<|guT b.f (buk b VT TT) i]) (λ(i:Nat)=>b.f-i) (λ(i:Nat)=>i<=b.f) 0 ?_ ?_ ?_
 ·omega
 ·refine vk 8
 intro q h6;rcases AI q b.f with h7|h7
 ·have hvn:b.f-1-q<b.n:=by omega
  have hgr:=group_c b (b.f-1-q) (gvT b.P VT b.P.length) (gtT b.f TT q) (guT b.f (buk b VT TT) q) VT TT (h.bokF h7) (by omega) h.d (h.V _ hvn).2.1 (λx hx=>(h.r _ hvn x hx).2.2) (h.T _ hvn);rw[<-h.tt _ (by omega)]at hgr;have hg1:(fA b.n λc=>if c=b.f-1-q then zGt (TT (b.f-1-q))else gtT b.f TT q c)=fA b.n (gtT b.f TT (q+1)):=by
   refine zB1 λc _=>?_;unfold gtT;by_cases e:c=b.f-1-q
   ·subst e;rw[if_pos rfl,if_pos (by omega)]
   rw[if_neg e];by_cases e2:b.f<=c+q/\c<b.f
   ·rw[if_pos e2,if_pos (by omega)]
   rw[if_neg e2,if_neg (by omega)]
  have hg2:(fA b.f λc=>if c=b.f-1-q then busD (buk b VT TT (b.f-1-q))else guT b.f (buk b VT TT) q c)=fA b.f (guT b.f (buk b VT TT) (q+1)):=by
   refine zB1 λc _=>?_;unfold guT;by_cases e:c=b.f-1-q
   ·subst e;rw[if_pos rfl,if_pos (by omega)]
   rw[if_neg e];by_cases e2:b.f<=c+q/\c<b.f
   ·rw[if_pos e2,if_pos (by omega)]
   rw[if_neg e2,if_neg (by omega)]
  rw[hg1,hg2]at hgr;have hvi:((b.f:Int)-1-(q:Int))=((b.f-1-q:Nat):Int):=by omega
  focus
   refine vAu<|zA<|vT ((q:Int)<↑(Af b))<|vKB<|vAe ?_;refine vA<|vr 5 (True/\0<4/\i6 (↑(Af b)-1)/\i6 ((↑(Af b):Int)-(1:Int)-(q:Int)))<|vs 133 (iD ((↑(Af b):Int)-(1:Int)-(q:Int))) (iD ↑(Af b-1-q)) (by simp(disch:=omega) only[hvi])<|vnt [blI b,blX,blG b,blE b,blB b,blV<|fA (Aj b)<|gvT (Ax b) VT<|Ab<|Ax b,blT<|fA (Aj b)<|gtT (Af b) TT q,blU<|fA (Af b)<|guT (Af b) (buk b VT TT) q] ?_;refine zZ [] [] [An 4 0,iD ↑(Af b-1-q)] [An 4 0,iD ↑(Af b-1-q)] (LeL.refl _) (by exact hgr) ?_;refine v0s<|veT<|vAe<|vf<|zQ<|zD<|vN<|zB rfl<|vr 2 (i6 (↑q+1))<|vnil<|zC ?_;rotate_left
  refine⟨q+1,h7,by omega,?_⟩;refine vk 8
 have hqf:q=b.f:=by omega
 rw[hqf];have htot:=total_c b (gvT b.P VT b.P.length) (gtT b.f TT b.f) VT TT (fA b.f (guT b.f (buk b VT TT) b.f)) h.n h.L h.A (λa ha=>(h.Av a ha).2.2) (λv hv hf _=>if_pos (by rw[A0];exact h.mem hf hv)) (λv hv hf _=>if_pos ⟨by omega,hf⟩) h.Rt h.S1 (λc _ j _=>gvT_ref) (λc _ j _=>gtT_ref);have hLn:=h.L;have hlt:(b.L.take b.f).length=b.f:=by rw[BQ,h.L];omega
 have hfl:(b.L.flatMap bgC).take (b.f*3)=(b.L.take b.f).flatMap bgC:=fl_take (c:=3) (λ_=>rfl) b.L b.f;have hU:∀c,c<b.f->(buk b VT TT c).length<=1000000/\∀u∈buk b VT TT c,u.Ok:=λc hc=>by
  have hcn:c<b.n:=by omega
  have hrc:=h.r c hcn;have hVc:=(h.V c hcn).1;obtain⟨q1,q2⟩:=zTr (desc:=b.desc.getD c Ad) (w:=λx=>wtL b.f VT TT x (chV b c)) (Q:=λk=>k.length<=1000/\∀u∈k,Vs u) (b.R.getD c Ak).2 λx hx=>by
   obtain⟨s1,s2,_⟩:=hrc x hx;exact⟨by rw[BQ];omega,λu hu=>s2 u (Bb hu)⟩
  exact⟨AN q1 (by have:=h.rl c hcn;omega),λu hu=>⟨by have:=(q2 u hu).q.1;omega,(q2 u hu).q.2⟩⟩
 generalize totB b VT TT=tot at*;rcases Nat.eq_zero_or_pos tot with ht|ht
 ·have hdl0:dg tot=[]:=by subst ht;simp[dg]
  have hz4:repL b.f [.val (.slice AQ 0 0)]=fA b.f λ_=> .val (.slice AQ 0 0):=zS7 _ _;have htk:(fA b.f λ_=> .val (.slice AQ 0 0)).take b.f=fA b.f λ_=> .val (.slice AQ 0 0):=Bo (by rw[zEw];exact AP _);have hasm:Pure Al 54 [.row (b.desc.map bD) b.desc.length, .row ((b.L.take b.f).flatMap bgC) b.f, .row (fA b.f λ_=> .val (.slice AQ 0 0)) b.f,natD tot] [] (ixD b.desc (b.L.take b.f) (λc=>if tot=0 then[]else buk b VT TT c) tot):=by
   have h0:=zN0 b.desc (b.L.take b.f) (λc=>if tot=0 then[]else buk b VT TT c) tot (by rw[h.d];omega) (by omega) (λc hc=>by rw[if_pos ht];exact⟨by simp,λu hu=>by cases hu⟩);rw[hlt]at h0;refine Pure.le (args':=_) h0 (.cons (.refl _) (.cons (.refl _) (.cons ?_ (.cons (.refl _) .nil))));rw[h.d];refine LeD.row (fA_le λc=>?_);rw[if_pos ht];exact LeD.nil_row
  focus
   refine vAu<|zA<|vF ((↑(Af b):Int)<↑(Af b))<|vZ2<|vA ?_;refine vnt [blI b,blX,blG b,blE b,blB b,blV<|fA (Aj b)<|gvT (Ax b) VT<|Ab<|Ax b,blT<|fA (Aj b)<|gtT (Af b) TT<|Af b,blU<|fA (Af b)<|guT (Af b) (buk b VT TT)<|Af b] ?_;refine zZ [] [] [An 4 0] [An 4 0] (LeL.refl _) (by exact htot) ?_;refine v0s<|veT<|zA<|vAe<|zGb (t:=(Ab (dg tot):Int)==(0:Int)) (by kernel_rfl) (by simpa using by omega)<|zB rfl<|vr 3 (True/\0<4/\(0:Int)<=(↑(Af b):Int)/\(↑(Af b):Int)<=(↑(Af b):Int)/\(↑(24:Nat):Int)*(↑(Af b):Int)<=(281474976710656:Int)/\(↑(Af b):Int)<=(281474976710656:Int)/\0<1/\1=1)<|vb 8 (AG (repL (Aq (↑(Af b):Int)) [nl]) 88 1 Aa Ad<|kdOf Ad) (AG (fA (Af b) λ(x:Nat)=>nl) 88 1 Aa Ad<|kdOf Ad) (by simp(disch:=omega) only[AM,hz4])<|vr 2 (True/\Ad=Ad/\Aa=Aa/\1=1/\10<=10)<|vb 4 (AG [iD ↑(Aj b),iD ↑(Af b),Ae (Ah bD<|AJ b)<|Ab<|AJ b,Ae (nsD<|Ax b)<|Ab<|Ax b,Ae (Ap atR<|Ay b)<|Ab<|Ay b,Ae (Ap bgC<|AH b)<|Ab<|AH b,Ae (Ap atR<|AD b)<|Ab<|AD b,AB 5 0 (Aj b) (Aj b) Aa,AB 6 0 (Aj b) (Aj b) Aa,AB 8 0 (Aq (↑(Af b):Int)) (Aq (↑(Af b):Int)*1) Aa] 120 0 Ad Ad AL) (AG [iD ↑(Aj b),iD ↑(Af b),Ae (Ah bD<|AJ b)<|Ab<|AJ b,Ae (nsD<|Ax b)<|Ab<|Ax b,Ae (Ap atR<|Ay b)<|Ab<|Ay b,Ae (Ap bgC<|AH b)<|Ab<|AH b,Ae (Ap atR<|AD b)<|Ab<|AD b,AB 5 0 (Aj b) (Aj b) Aa,AB 6 0 (Aj b) (Aj b) Aa,AB 8 0 (Af b) (Af b) Aa] 120 0 Ad Ad AL) (by simp(disch:=omega) only[AM,Bh]) ?_;refine veT<|zA<|vd [0,2,3,6,8,10,1,4,5,7,9,11,12,13]<|vr 9 (True/\True/\True/\0<3/\0<4/\True/\(0:Int)<=(↑(Af b):Int)/\True/\0<3/\0<=Aq (↑(Af b):Int)/\Aq (↑(Af b):Int)<=Ab (AH b)/\Aq (↑(Af b):Int)=Aq (↑(Af b):Int))<|vs 153 (Ae (Au ((Aq (↑(Af b):Int)-0)*3)<|Ao 0<|Ap bgC<|AH b) (Aq (↑(Af b):Int)-0)) (Ae (Ap bgC<|Au (Af b)<|AH b)<|Af b) (by simp(disch:=omega) only[AM,Nat.sub_zero,AW,hfl])<|vr 1 (0<1)<|vcl [Ae (Ah bD<|AJ b)<|Ab<|AJ b,Ae (Ap bgC<|Au (Af b)<|AH b)<|Af b,Ae (Au (Af b)<|Ao 0 (fA (Af b) λ(x:Nat)=>nl))<|Af b,natD tot] [Ae (Ah bD<|AJ b)<|Ab<|AJ b,Ae (Ap bgC<|Au (Af b)<|AH b)<|Af b,Ae (fA (Af b) λ(x:Nat)=>nl)<|Af b,natD tot] (LeL.of_eq (by simp(disch:=omega) only[AW,htk])) (by exact hasm)<|ve (Ad=Ad/\Aa=Aa/\5=5/\5<=5)<|zE<|vret (5<=5)<|.inr rfl
 have hdp:=zXi ht;have hgu:fA b.f (guT b.f (buk b VT TT) b.f)=fA b.f λc=>busD (buk b VT TT c):=zB1 λc hc=>if_pos ⟨by omega,hc⟩;have htk:(fA b.f λc=>busD (buk b VT TT c)).take b.f=fA b.f λc=>busD (buk b VT TT c):=Bo (by rw[zEw];exact AP _);rw[hgu]at htot⊢;have hasm:Pure Al 54 [.row (b.desc.map bD) b.desc.length, .row ((b.L.take b.f).flatMap bgC) b.f, .row (fA b.f λc=>busD (buk b VT TT c)) b.f,natD tot] [] (ixD b.desc (b.L.take b.f) (λc=>if tot=0 then[]else buk b VT TT c) tot):=by
  have h0:=zN0 b.desc (b.L.take b.f) (buk b VT TT) tot (by rw[h.d];omega) (by omega) (λc hc=>hU c (by rw[<-h.d];exact hc));have e:(λc=>if tot=0 then[]else buk b VT TT c)=buk b VT TT:=funext λc=>if_neg (by omega);rw[e];rw[hlt]at h0;have hd:=h.d;generalize b.f=f at*;subst hd;exact h0
 focus
  refine vAu<|zA<|vF ((↑(Af b):Int)<↑(Af b))<|vZ2<|vA ?_;refine vnt [blI b,blX,blG b,blE b,blB b,blV<|fA (Aj b)<|gvT (Ax b) VT<|Ab<|Ax b,blT<|fA (Aj b)<|gtT (Af b) TT<|Af b,blU (fA (Af b) λ(c:Nat)=>busD (buk b VT TT c))] ?_;refine zZ [] [] [An 4 0] [An 4 0] (LeL.refl _) (by exact htot) ?_;refine v0s<|veT<|zA<|vAe<|vEf ((Ab (dg tot):Int)) ((0:Int))<|vK<|zA<|vd [0,2,3,6,8,10,1,4,5,7,9,11,12,13]<|vr 9 (True/\True/\True/\0<3/\0<4/\True/\(0:Int)<=(↑(Af b):Int)/\True/\0<3/\0<=Aq (↑(Af b):Int)/\Aq (↑(Af b):Int)<=Ab (AH b)/\Aq (↑(Af b):Int)=Aq (↑(Af b):Int))<|vs 153 (Ae (Au ((Aq (↑(Af b):Int)-0)*3)<|Ao 0<|Ap bgC<|AH b) (Aq (↑(Af b):Int)-0)) (Ae (Ap bgC<|Au (Af b)<|AH b)<|Af b) (by simp(disch:=omega) only[AM,Nat.sub_zero,AW,hfl]) ?_;refine vr 1 (0<1)<|vcl [Ae (Ah bD<|AJ b)<|Ab<|AJ b,Ae (Ap bgC<|Au (Af b)<|AH b)<|Af b,Ae (Au (Af b)<|Ao 0 (fA (Af b) λ(c:Nat)=>busD (buk b VT TT c)))<|Af b,natD tot] [Ae (Ah bD<|AJ b)<|Ab<|AJ b,Ae (Ap bgC<|Au (Af b)<|AH b)<|Af b,Ae (fA (Af b) λ(c:Nat)=>busD (buk b VT TT c))<|Af b,natD tot] (LeL.of_eq (by simp(disch:=omega) only[AW,htk])) (by exact hasm)<|ve (Ad=Ad/\Aa=Aa/\5=5/\5<=5)<|zE<|vret (5<=5)<|.inr rfl
end
theorem zTh{E:List Nat}(hE:∀e∈E,e<4294967296){v:Nat}(hv:v<32)(w:Nat):(nbE E v).testBit w=E.any λe=>e.testBit v&&(e.testBit w&&decide (w≠v)):=by
 have key:∀(E:List Nat)(m:Nat),(∀e∈E,e<4294967296)->(E.foldl (λm e=>adU e m v) m).testBit w=(m.testBit w||E.any λe=>e.testBit v&&(e.testBit w&&decide (w≠v))):=by
  intro E;induction E with
  |nil=>intro m _;simp
  | cons e E ih=>
   intro m h;rw[Bw,ih _ λx hx=>h x (A3 _ hx),List.any_cons,<-Bool.or_assoc];congr 1;unfold adU;split
   ·rename_i hb;have e2:andn e v=andm e (2^v):=rfl;rw[Bx,e2,zXv (h e (A4 ..)) (zC8 hv),By,hb,Bool.true_and];congr 2;by_cases hw:v=w
    ·subst hw;simp
    simp[hw,Bl hw]
   rename_i hb;rw[Bz.2 hb,Bool.false_and,BA]
 have:=key E 0 hE
 rw[Nat.zero_testBit,Bool.false_or]at this;exact this
structure Nbk(n:Nat)(O:List Nat)(i:Nat)(nb:Nat->Nat):Prop where
 b:∀u,nb u<4294967296
 r:∀u w,u<n->i<=O.idxOf u->(nb u).testBit w=Aa->w<n/\i<=O.idxOf w/\w≠u
 s:∀u w,u<n->w<n->i<=O.idxOf u->i<=O.idxOf w->(nb u).testBit w=(nb w).testBit u
structure Ook(n:Nat)(O:List Nat):Prop where
 n32:n<=32
 len:O.length=n
 lt:∀v∈O,v<n
 nd:O.Nodup
theorem Ook.at{n:Nat}{O:List Nat}(h:Ook n O){i:Nat}(hi:i<n):O.getD i 0<n/\O.idxOf (O.getD i 0)=i:=by
 have hl:=h.len;refine⟨h.lt _ (zBw O i (by omega)),?_⟩;rw[As,AA (by omega),AV];exact h.nd.idxOf_getElem i (by omega)
theorem Ook.ix{n:Nat}{O:List Nat}(h:Ook n O){v:Nat}(hv:v<n):O.idxOf v<n/\O.getD (O.idxOf v) 0=v:=by
 have h1:=zJi h.nd h.len h.lt v hv;have h2:=A7.2 h1;refine⟨by rw[<-h.len];exact h2,?_⟩;rw[As,AA h2,AV,Bp]
theorem Ook.inj{n:Nat}{O:List Nat}(h:Ook n O){u v:Nat}(hu:u<n)(hv:v<n)(e:O.idxOf u=O.idxOf v):u=v:=by
 rw[<-(h.ix hu).2,<-(h.ix hv).2,e]
theorem zTg{n key v u w:Nat}{nb:Nat->Nat}(hn:n<=32)(hu:u<n)(hv:v<n)(hb:nb u<4294967296)(hk:key<4294967296):(nbJ key v n nb u).testBit w=if key.testBit u=Aa then(((nb u).testBit w||key.testBit w)&&(decide (w≠u)&&decide (w≠v)))else(nb u).testBit w:=by
 unfold nbJ;by_cases h:key.testBit u=Aa
 ·rw[if_pos ⟨hu,h⟩,if_pos h,zXv (zMv hb hk) (zMv (zC8 (by omega)) (zC8 (by omega))),Bx,Bx,By,By];congr 1;by_cases h1:u=w
  ·subst h1;simp
  by_cases h2:v=w
  ·subst h2;simp
  simp[h1,h2,Bl h1,Bl h2]
 rw[if_neg λhh=>h hh.2,if_neg h]
theorem Nbk.step{n:Nat}{O:List Nat}{i:Nat}{nb:Nat->Nat}(hO:Ook n O)(hi:i<n)(h:Nbk n O i nb):Nbk n O (i+1) (nbJ (nb (O.getD i 0)) (O.getD i 0) n nb):=by
 obtain⟨v1,v2⟩:=hO.at hi;generalize O.getD i 0=v at*;have hne:∀u,u<n->i+1<=O.idxOf u->u≠v:=λu _ h1 e=>by rw[e,v2]at h1;omega
 have hgt:∀w,w<n->i<=O.idxOf w->w≠v->i+1<=O.idxOf w:=λw hw h1 h2=>by
  rcases AI i (O.idxOf w)with h3|h3
  ·exact h3
  exact absurd (hO.inj hw v1 (by omega)) h2
 refine⟨nbJ_32 h.b,λu w hu h1 hb=>?_,λu w hu hw h1 h2=>?_⟩
 ·rw[zTg hO.n32 hu v1 (h.b u) (h.b v)]at hb;split at hb
  ·rename_i hk;simp only[BB,BR,decide_eq_true_eq]at hb;obtain⟨hb,h3,h4⟩:=hb;rcases hb with hb|hb
   ·obtain⟨q1,q2,q3⟩:=h.r u w hu (by omega) hb;exact⟨q1,hgt w q1 q2 h4,q3⟩
   obtain⟨q1,q2,q3⟩:=h.r v w v1 (by omega) hb;exact⟨q1,hgt w q1 q2 h4,h3⟩
  rename_i hk;obtain⟨q1,q2,q3⟩:=h.r u w hu (by omega) hb;refine⟨q1,hgt w q1 q2 λe=>?_,q3⟩;subst e;rw[h.s u w hu q1 (by omega) q2]at hb;exact hk hb
 rw[zTg hO.n32 hu v1 (h.b u) (h.b v),zTg hO.n32 hw v1 (h.b w) (h.b v),h.s u w hu hw (by omega) (by omega)];have n1:=hne u hu h1;have n2:=hne w hw h2;by_cases k1:(nb v).testBit u=Aa<;>by_cases k2:(nb v).testBit w=Aa
 ·rw[if_pos k1,if_pos k2,k1,k2];by_cases e:w=u
  ·subst e;rfl
  simp[e,Bl e,n1,n2]
 ·rw[if_pos k1,if_neg k2,Bz.2 k2,BA];by_cases e:w=u
  ·subst e;exact absurd k1 k2
  simp[e,n2]
 ·rw[if_neg k1,if_pos k2,Bz.2 k1,BA];by_cases e:u=w
  ·subst e;exact absurd k2 k1
  simp[e,n1]
 rw[if_neg k1,if_neg k2]
theorem Nbk.all{n:Nat}{O:List Nat}{nb:Nat->Nat}(hO:Ook n O)(h:Nbk n O 0 nb):∀i,i<=n->Nbk n O i (nbT n O nb i)
 |0,_=>h
 |i+1,hi=>(Nbk.all hO h i (by omega)).step hO (by omega)
structure Bgk(n:Nat)(O:List Nat)(g:Nat->Bg):Prop where
 v:∀c,(g c).v=c
 k:∀c,(g c).k<4294967296
 r:∀c w,c<n->(g c).k.testBit w=Aa->w<n/\O.idxOf c<O.idxOf w
 p:∀c (v:Nat),c<n->(g c).p=(v:Int)->(g c).k.testBit v=Aa/\∀w,(g c).k.testBit w=Aa->O.idxOf v<=O.idxOf w
 q:∀c,c<n->(g c).p<0->(g c).k=0
 pz:∀c,c<n->(g c).p=-1\/∃v:Nat,(g c).p=(v:Int)/\v<n
theorem zPm{key:Nat}{pl:Nat->Nat}:∀{j:Nat},(parJ key pl j=AQ->∀w,w<j->key.testBit w=Ad)/\∀p,parJ key pl j=Aw p->∀w,w<j->key.testBit w=Aa->pl p<=pl w
 |0=>⟨λ_ w h=>by omega,λp h=>by cases h⟩
 | j +1=>by
  obtain⟨i1,i2⟩:=zPm (key:=key) (pl:=pl) (j:=j);rw[parJ];by_cases hb:key.testBit j=Aa
  ·rw [if_pos hb];cases e:parJ key pl j with
   | none=>
    refine⟨λh=>(by cases h),λp h w hw hk=>?_⟩;cases h;rcases AI w j with h1|h1
    ·rw[i1 e w h1]at hk;cases hk
    obtain rfl:w=j:=by omega
    exact AP _
   | some q=>
    refine⟨λh=>(by dsimp only at h;split at h<;>cases h),λp h w hw hk=>?_⟩
    have:=i2 q e
    dsimp only at h;split at h
    ·cases h;rcases AI w j with h1|h1
     ·exact AN (by omega) (this w h1 hk)
     obtain rfl:w=j:=by omega
     exact AP _
    cases h;rcases AI w j with h1|h1
    ·exact this w h1 hk
    obtain rfl:w=j:=by omega
    omega
  rw[if_neg hb];refine⟨λh w hw=>?_,λp h w hw hk=>?_⟩
  ·rcases AI w j with h1|h1
   ·exact i1 h w h1
   obtain rfl:w=j:=by omega
   exact Bz.2 hb
  rcases AI w j with h1|h1
  ·exact i2 p h w h1 hk
  obtain rfl:w=j:=by omega
  exact absurd hk hb
theorem bagE_ok{n:Nat}{O:List Nat}{nb:Nat->Nat}(hO:Ook n O)(h:Nbk n O 0 nb):Bgk n O (bagE n O nb):=by
 have hk:∀c,c<n->∀w,(nbT n O nb (O.idxOf c) c).testBit w=Aa->w<n/\O.idxOf c<O.idxOf w:=λc hc w hw=>by
  have hi:=(hO.ix hc).1;obtain⟨q1,q2,q3⟩:=(h.all hO _ (by omega)).r c w hc (AP _) hw;refine⟨q1,?_⟩;rcases AI (O.idxOf c) (O.idxOf w)with h3|h3
  ·exact h3
  exact absurd (hO.inj q1 hc (by omega)) q3
 refine⟨λc=>rfl,λc=>nbT_32 h.b _ _,λc w hc hw=>hk c hc w hw,λc v hc hp=>?_,λc hc hp=>?_,λc hc=>?_⟩
 ·unfold bagE at hp⊢;dsimp only at hp⊢;cases e:parJ (nbT n O nb (O.idxOf c) c) (λu=>O.idxOf u) n with
  |none=>rw[e]at hp;simp only[Go.Proofs.YtjcofbkhoeockaaGreatDoor.pz]at hp;omega
  |some p=>
   rw[e]at hp;simp only[Go.Proofs.YtjcofbkhoeockaaGreatDoor.pz]at hp;obtain rfl:p=v:=by omega
   exact⟨(zLm e).2,λw hw=>zPm.2 p e w (hk c hc w hw).1 hw⟩
 ·unfold bagE at hp⊢;dsimp only at hp⊢;cases e:parJ (nbT n O nb (O.idxOf c) c) (λu=>O.idxOf u) n with
  |none=>
   apply Nat.eq_of_testBit_eq;intro w;rw[Nat.zero_testBit];cases e2:(nbT n O nb (O.idxOf c) c).testBit w with
   |false=>rfl
   |true=>rw[zPm.1 e w (hk c hc w e2).1]at e2;cases e2
  |some p=>rw[e]at hp;simp only[Go.Proofs.YtjcofbkhoeockaaGreatDoor.pz]at hp;omega
 unfold bagE;dsimp only;cases e:parJ (nbT n O nb (O.idxOf c) c) (λu=>O.idxOf u) n with
 |none=>exact .inl rfl
 |some p=>exact .inr ⟨p,rfl,(zLm e).1⟩
theorem nb0_ok{n:Nat}{O E:List Nat}(hn:n<=32)(hE:∀e∈E,e<2^n):Nbk n O 0 λv=>if v<n then nbE E v else 0:=by
 have hE2:∀e∈E,e<4294967296:=λe he=>BS (hE e he) (AY (n:=2) (by omega) hn);refine⟨λu=>?_,λu w hu _ hb=>?_,λu w hu hw _ _=>?_⟩
 ·show(if u<n then nbE E u else 0)<_;split
  ·exact nbE_32 E u
  omega
 ·rw[if_pos hu,zTh hE2 (by omega),List.any_eq_true]at hb;obtain⟨e,he,hb⟩:=hb;simp only[BB,decide_eq_true_eq]at hb;refine⟨?_,A5 _,hb.2.2⟩;rcases AI w n with h|h
  ·exact h
  rw[Nat.testBit_lt_two_pow (BS (hE e he) (AY (by omega) h))]at hb;exact absurd hb.2.1 (by decide)
 rw[if_pos hu,if_pos hw,zTh hE2 (by omega),zTh hE2 (by omega)];congr 1;funext e;by_cases h:w=u
 ·subst h;rfl
 simp[h,Bl h,Bool.and_comm]
theorem jn_all{s:Nat}{A:List (List Nat×List Rw)}(Q:Va->Prop)(hao:AOk (mkP s A))(hR:∀a∈A,∀r∈a.2,r.length=a.1.length/\∀v∈r,Q v):∀x∈jn (mkP s A),x.length=(zBb s).length/\∀v∈x,Q v:=λx hx=>by
 obtain⟨h1,h2⟩:=((zP2 hao).2 x).1 hx;refine⟨h1,λv hv=>?_⟩;obtain⟨w,hw,rfl⟩:=Bc hv;have h1':x.length=(mkP s A).n:=h1;obtain⟨a,ha,hm⟩:=hao.v.cov w (by omega);have h3:=h2 a ha;have ha2:a<A.length:=by
  have:(mkP s A).A.length=A.length:=AR _;omega
 have hpa:(mkP s A).A.getD a Ak=zBa s (A.getD a Ak):=zF3 s A ha2;rw[hpa]at h3;obtain⟨q,hq,e⟩:=AO.1 (zKr.1 h3);have hmem:x[w]∈prj (mkP s A).vs a 0 x:=AO.2 ⟨w,BT.2 ⟨hm,by simp⟩,by rw[As,AA hw];rfl⟩;rw[<-e]at hmem;have hA:A.getD a Ak∈A:=by rw[As,AA ha2];exact A2 ha2
 obtain⟨q1,q2⟩:=hR _ hA q hq;obtain⟨c,hc,e2⟩:=AO.1 hmem;have hc2:=zJx _ _ c hc;rw[<-e2];refine q2 _ ?_;rw[As,AA (by omega:c<q.length)];exact A2 _
theorem zNk{α:Type}[DecidableEq α]:∀{L M:List α},L.Nodup->(∀x∈L,x∈M)->L.length<=M.length
 |[],_,_,_=>A5 _
 |a::L,M,hn,h=>by
  obtain⟨h1,h2⟩:=List.nodup_cons.1 hn;have ha:=h a (A4 ..)
  have:=zNk (L:=L) (M:=M.erase a) h2 λx hx=>(List.mem_erase_of_ne (λe=>h1 (by rw[<-e];exact hx))).2 (h x (A3 _ hx))
  rw[List.length_erase_of_mem ha]at this;have hp:=List.length_pos_of_mem ha;rw[Bm];omega
def cart{α:Type}:List (List α)->List (List α)
 |[]=>[[]]
 |l::ls=>l.flatMap λa=>(cart ls).map (a::·)
theorem zXp{α:Type}:∀ls:List (List α),(cart ls).length=(ls.map (·.length)).foldr (· *·) 1
 |[]=>rfl
 |l::ls=>by
  rw[cart,A_,BC,<-zXp ls];induction l with
  |nil=>simp
  |cons a l ih=>rw[List.flatMap_cons,List.length_append,ih,AR,Bm,Bq];omega
theorem zXo{α β:Type}(f:β->α)(L:β->List α):∀B:List β,(∀a∈B,f a∈L a)->B.map f∈cart (B.map L)
 |[],_=>by simp[cart]
 |a::B,h=>by
  rw[A_,A_,cart,List.mem_flatMap];exact⟨f a,h a (A4 ..),AO.2 ⟨_,zXo f L B λb hb=>h b (A3 _ hb),rfl⟩⟩
theorem zTa{β:Type}(f g:β->Nat):∀B:List β,(∀a∈B,f a<=g a)->(B.map f).foldr (· *·) 1<=(B.map g).foldr (· *·) 1
 |[],_=>AP _
 |a::B,h=>by
  rw[A_,A_,BC,BC];exact Nat.mul_le_mul (h a (A4 ..)) (zTa f g B λb hb=>h b (A3 _ hb))
def combs(A:List (List Nat×List Rw)):Nat:=(A.map λa=>max 1 a.2.length).foldr (· *·) 1
theorem jn_len{s:Nat}{A:List (List Nat×List Rw)}(hao:AOk (mkP s A)):(jn (mkP s A)).length<=combs A:=by
 have hsp:=zP2 hao;generalize hm:mkP s A=m at*;let code:Rw->List Rw:=λx=>(Az m.A.length).map λa=>prj m.vs a 0 x;have hnd:(jn m).Nodup:=(hsp.1).imp λ{a b} h e=>by
  subst e
  have:=(zBx a a).2.1.2 rfl
  omega
 have hinj:∀x y,x∈jn m->y∈jn m->code x=code y->x=y:=λx y hx hy e=>by
  obtain⟨x1,_⟩:=(hsp.2 x).1 hx;obtain⟨y1,_⟩:=(hsp.2 y).1 hy;apply BD (by omega);intro w h1 h2;obtain⟨a,ha,hmem⟩:=hao.v.cov w (by omega);have e2:prj m.vs a 0 x=prj m.vs a 0 y:=by
   have:=congrArg (λl=>l.getD a []) e
   simpa[code,As,A6 ha]using this
  have:=List.map_inj_left.1 e2 w (BT.2 ⟨hmem,by simp⟩)
  simpa[As,h1,h2]using this
 have hnd2:((jn m).map code).Nodup:=by
  rw[BE,BF];exact hnd.imp_of_mem λ{x y} hx hy hne e=>hne (hinj x y hx hy e)
 have h1:=zNk (M:=cart ((Az m.A.length).map λa=>(m.A.getD a Ak).2)) hnd2 λz hz=>by
  obtain⟨x,hx,rfl⟩:=AO.1 hz;exact zXo _ _ _ λa ha=>((hsp.2 x).1 hx).2 a (AT.1 ha)
 rw[AR,zXp,AU]at h1;refine AN h1 ?_;have e:(Az m.A.length).map ((λl:List Rw=>l.length)∘λa=>(m.A.getD a Ak).2)=m.A.map λa=>a.2.length:=by
  apply BD (by simp);intro i h1 h2;simp at h1 h2;simp[As,h1]
 rw[e,<-hm];show((A.map (zBa s)).map λa=>a.2.length).foldr (· *·) 1<=_;rw[AU];exact zTa _ _ A λa _=>AN (zKo s a) (Nat.le_max_right _ _)
abbrev Tbs:=(Nat->List Rw)×(Nat->List (Rw×Nat))
def tabS(b:Bd)(v:Nat)(p:Tbs):Tbs:=(λc=>if c=v then redK (λx=>wtL b.f p.1 p.2 x (chV b v)) (keyC b v) (b.R.getD v Ak).2 else p.1 c,λc=>if c=v then totL (grpL (b.desc.getD v Ad) (λx=>wtL b.f p.1 p.2 x (chV b v)) (b.R.getD v Ak).2)else p.2 c)
def tab(b:Bd)(O:List Nat):Nat->Tbs
 |0=>(λ_=>[],λ_=>[])
 |i+1=>tabS b (O.getD i 0) (tab b O i)
theorem wtL_ext{f:Nat}{V V':Nat->List Rw}{T T':Nat->List (Rw×Nat)}{x:Rw}{ch:List (Nat×List Nat)}(h:∀c∈ch,V c.1=V' c.1/\T c.1=T' c.1):wtL f V T x ch=wtL f V' T' x ch:=by
 unfold wtL;congr 1;refine A8 λc hc=>?_;unfold wone;rw[(h c hc).1,(h c hc).2]
section
variable {b : Bd} {O : List Nat} (hO : Ook b.n O) (hch : ∀ v, v < b.n → ∀ c ∈ chV b v, c.1 < b.n ∧ O.idxOf c.1 < O.idxOf v)
include hO
theorem zM5{c i j:Nat}(hc:c<b.n)(h:O.idxOf c<i)(hij:i<=j)(hj:j<=b.n):(tab b O j).1 c=(tab b O i).1 c/\(tab b O j).2 c=(tab b O i).2 c:=by
 induction j with
 |zero=>omega
 | succ j ih=>
  rcases AI j i with h1|h1
  ·obtain rfl:i=j+1:=by omega
   exact⟨rfl,rfl⟩
  have hne:c≠O.getD j 0:=λe=>by
   have:=(hO.at (show j<b.n by omega)).2
   rw[<-e]at this;omega
  have:=ih (by omega) (by omega)
  rw[tab];unfold tabS;dsimp only;rw[if_neg hne,if_neg hne];exact this
include hch
theorem tab_eq{v:Nat}(hv:v<b.n):(tab b O b.n).1 v=redK (λx=>wtL b.f (tab b O b.n).1 (tab b O b.n).2 x (chV b v)) (keyC b v) (b.R.getD v Ak).2/\(tab b O b.n).2 v=totL (grpL (b.desc.getD v Ad) (λx=>wtL b.f (tab b O b.n).1 (tab b O b.n).2 x (chV b v)) (b.R.getD v Ak).2):=by
 obtain⟨h1,h2⟩:=hO.ix hv;obtain⟨e1,e2⟩:=zM5 hO hv (Nat.lt_succ_self (O.idxOf v)) (Nat.succ_le_of_lt h1) (AP _);have e3:(λx=>wtL b.f (tab b O b.n).1 (tab b O b.n).2 x (chV b v))=λx=>wtL b.f (tab b O (O.idxOf v)).1 (tab b O (O.idxOf v)).2 x (chV b v):=funext λx=>wtL_ext λc hc=>by
  obtain⟨c1,c2⟩:=hch v hv c hc;exact zM5 hO c1 c2 (by omega) (AP _)
 rw[e1,e2,e3,tab];unfold tabS;dsimp only;rw[h2,if_pos rfl,if_pos rfl];exact⟨rfl,rfl⟩
end
def exB:Nat->Nat
 |0=>1
 |i+1=>1+(i+1)*exB i
theorem zP9{i j:Nat}(h:i<=j):exB i<=exB j:=by
 induction h with
 |refl=>exact AP _
 |step _ ih=>
  rename_i j _;refine AN ih ?_;rw[exB,Bq];omega
theorem zTw{B:Nat}(hB:1<=B):∀(l:List Nat)(a:Nat),(∀x∈l,x<=B)->l.foldl (· *·) a<=a*B^l.length
 |[],a,_=>by simp
 |x::l,a,h=>by
  rw[Bw];refine AN (zTw hB l (a*x) λy hy=>h y (A3 _ hy)) ?_;rw[Bm,Nat.pow_succ,BG (B^l.length) B,<-BH];exact A1 _ (BU _ (h x (A4 ..)))
theorem zSy{w:Rw->Nat}{M:Nat}:∀l:List Rw,(∀x∈l,w x<=M)->sumW w l<=l.length*M
 |[],_=>by simp[sumW]
 |x::l,h=>by
  have:=zSy l λy hy=>h y (A3 _ hy)
  have h2:=h x (A4 ..);have e:sumW w (x::l)=w x+sumW w l:=by simp[sumW]
  rw[e,Bm,Bq];omega
theorem tput_mem{K:List (List Va×Nat)}{r:List Va}{w:Nat}{p:List Va×Nat}(h:p∈tput K r w):p=(r,w)\/p∈K:=by
 unfold tput at h;split at h
 ·rcases List.mem_or_eq_of_mem_set h with h|h
  ·exact .inr h
  exact .inl h
 rcases BM.1 h with h|h
 ·exact .inr h
 exact .inl (BP.1 h)
theorem totL_mem{p:List Va×Nat}:∀l:List Bu,p∈totL l->∃b∈l,p=(b.key,b.t.tot):=by
 have key:∀(l:List Bu)(K:List (List Va×Nat)),p∈l.foldl (λK b=>tput K b.key b.t.tot) K->p∈K\/∃b∈l,p=(b.key,b.t.tot):=by
  intro l;induction l with
  |nil=>exact λK h=> .inl h
  | cons b l ih=>
   intro K h;rw[Bw]at h;rcases ih _ h with h|⟨u,hu,h⟩
   ·rcases tput_mem h with h|h
    ·exact .inr ⟨b,A4 ..,h⟩
    exact .inl h
   exact .inr ⟨u,A3 _ hu,h⟩
 intro l h;rcases key l [] h with h|h
 ·cases h
 exact h
theorem dg_pow:∀(k n:Nat),n<4294967296^k->(dg n).length<=k
 |0,n,h=>by
  obtain rfl:n=0:=by rw[Nat.pow_zero]at h;omega
  rw[dg];simp
 | k+1,n,h=>by
  rw[dg];split
  ·simp
  rw[Bm]
  have:=dg_pow k (n/4294967296) (by rw[Nat.pow_succ]at h;exact Nat.div_lt_of_lt_mul (by rw[BG];exact h))
  omega
theorem b32_pow(k:Nat):4294967296^k=2^(32*k):=by rw[Nat.pow_mul]
theorem dg_exp{n e k:Nat}(h:n<=2^e)(he:e<32*k):(dg n).length<=k:=by
 refine dg_pow k n ?_;rw[b32_pow];exact Nat.lt_of_le_of_lt h (Nat.pow_lt_pow_right (by omega) he)
theorem Sm.pow{n e:Nat}(h:n<=2^e)(he:e<32000):Sm n:=dg_exp h he
theorem zDs(e:Nat):1<=2^e:=Nat.one_le_two_pow
section
variable {b : Bd} {O : List Nat} (hO : Ook b.n O) (hch : ∀ v, v < b.n → ∀ c ∈ chV b v, c.1 < b.n ∧ O.idxOf c.1 < O.idxOf v) (hnd : ∀ v, v < b.n → ((chV b v).map (·.1)).Nodup)
 {V : Nat → List Rw} {T : Nat → List (Rw × Nat)} (hT : ∀ v, v < b.n → T v = totL (grpL (b.desc.getD v Ad) (fun x => wtL b.f V T x (chV b v)) (b.R.getD v Ak).2)) (hl : ∀ v, v < b.n → (b.R.getD v Ak).2.length ≤ 65536)
include hO hch hnd
theorem ch_few{v:Nat}(hv:v<b.n):(chV b v).length<=O.idxOf v:=by
 have h1:((chV b v).map λc=>O.idxOf c.1).Nodup:=by
  have e:(chV b v).map (λc=>O.idxOf c.1)=((chV b v).map (·.1)).map λu=>O.idxOf u:=by rw[AU];rfl
  rw[e,BE,BF];exact(hnd v hv).imp_of_mem λ{x y} hx hy hne e=>by
   obtain⟨c,hc,rfl⟩:=AO.1 hx;obtain⟨d,hd,rfl⟩:=AO.1 hy;exact hne (hO.inj (hch v hv c hc).1 (hch v hv d hd).1 e)
 have:=zEs (n:=O.idxOf v) h1 λx hx=>by
  obtain⟨c,hc,rfl⟩:=AO.1 hx;exact(hch v hv c hc).2
 rwa[AR]at this
theorem wt_le{v:Nat}(hv:v<b.n)(E:Nat)(hE:∀c∈chV b v,∀p∈T c.1,p.2<=2^E)(x:Rw)(i:Nat):wtL b.f V T x ((chV b v).take i)<=2^(O.idxOf v*E):=by
 unfold wtL;have h1:=zTw (zDs E) (((chV b v).take i).map (wone b.f V T x)) 1 λy hy=>by
  obtain⟨c,hc,rfl⟩:=AO.1 hy;unfold wone;split
  ·cases e:tlk (T c.1) (zY x c.2)with
   |none=>simp
   |some w=>
    unfold tlk at e;obtain⟨q,q1,q2⟩:=BY.1 e;rw[AV,<-q2];exact hE c (Bb hc) q (BZ q1)
  split
  ·exact zDs E
  exact A5 _
 rw[Nat.one_mul,AR,<-Nat.pow_mul]at h1;refine AN h1 (AY (by omega) ?_);rw[BG];refine A1 _ (AN ?_ (ch_few hO hch hnd hv));simp;omega
include hT hl
theorem tab_le:∀(i v:Nat),v<b.n->O.idxOf v=i->∀p∈T v,p.2<=2^(16*exB i):=λi=>by
 induction i using Nat.strongRecOn with
 | _ i ih=>
  intro v hv hi p hp;rw[hT v hv]at hp;obtain⟨u,hu,rfl⟩:=totL_mem _ hp;have h1:=((zTr (Q:=λ_=>True) (b.R.getD v Ak).2 λ_ _=>trivial).2 u hu).s;refine AN h1 ?_;have hw:∀x∈(b.R.getD v Ak).2,wtL b.f V T x (chV b v)<=2^(16*(exB i-1)):=λx _=>by
   have:=wt_le (V:=V) hO hch hnd hv (16*exB (i-1)) (λc hc p hp=>by
    obtain⟨c1,c2⟩:=hch v hv c hc;refine AN (ih _ (by omega) c.1 c1 rfl p hp) (AY (by omega) (BU _ (zP9 (by omega))))) x (chV b v).length
   rw[A0,hi]at this;refine AN this (AY (by omega) ?_);cases i with
   |zero=>simp
   |succ i=>
    rw[exB,Nat.add_sub_cancel,BL,<-BH,BG (i+1) 16,BH];exact AP _
  refine AN (zSy _ hw) ?_;refine AN (A1 _ (hl v hv)) ?_;have e:(65536:Nat)=2^16:=rfl;rw[e,<-Nat.pow_add];refine AY (by omega) ?_;have:1<=exB i:=zP9 (A5 i);omega
end
structure Inp where
 n:Nat
 f:Nat
 desc:List Bool
 P:List Nat
 A:List (List Nat×List Rw)
structure Inp.Ok(I:Inp):Prop where
 n:I.n<=6
 f:I.f<=I.n
 d:I.desc.length=I.f
 P:I.P.length+I.f=I.n
 P2:∀v∈I.P,I.f<=v/\v<I.n
 P3:I.P.Nodup
 A:I.A.length<=5
 V:Vok I.n I.A.length λi=>(I.A.getD i Ak).1
 R:∀a∈I.A,a.2.length<=10/\Rsc a.2/\∀r∈a.2,r.length=a.1.length/\∀v∈r,vok v=Aa/\Vs v
 C:combs I.A<=5000
abbrev Inp.O(I:Inp):List Nat:=ordL I.f I.P
abbrev Inp.E(I:Inp):List Nat:=I.A.map λa=>msk a.1
abbrev Inp.nb(I:Inp):Nat->Nat:=λv=>if v<I.n then nbE I.E v else 0
abbrev Inp.bag(I:Inp):Nat->Bg:=bagE I.n I.O I.nb
abbrev Inp.L(I:Inp):List Bg:=(Az I.n).map I.bag
abbrev Inp.R(I:Inp):List (List Nat×List Rw):=I.L.map (matA I.A)
abbrev Inp.b(I:Inp):Bd:=⟨I.n,I.f,I.desc,I.P,I.A,I.L,I.R,I.E⟩
abbrev Inp.VT(I:Inp):Nat->List Rw:=(tab I.b I.O I.n).1
abbrev Inp.TT(I:Inp):Nat->List (Rw×Nat):=(tab I.b I.O I.n).2
theorem cE_ok:∀na:Fin 6,∀k:Fin 7,(na.val+1)*cE na.val 16 k.val+1<=100000000000000000:=by decide
section
variable {I : Inp} (h : I.Ok)
include h
theorem Inp.ook:Ook I.n I.O:=⟨by have:=h.n;omega,zPn h.P,zTc h.P h.P2,zTb h.P2 h.P3⟩
theorem Inp.Elt:∀e∈I.E,e<2^I.n:=λe he=>by
 obtain⟨a,ha,rfl⟩:=AO.1 he;obtain⟨_,h2⟩:=zQo h.V a ha;refine zVe λv hv=>?_;rw[zTi,decide_eq_false_iff_not];intro hm
 have:=h2 v hm
 omega
theorem Inp.bok:Bgk I.n I.O I.bag:=bagE_ok (Inp.ook h) (nb0_ok (by have:=h.n;omega) (Inp.Elt h))
omit h in
theorem Inp.Lat{v:Nat}(hv:v<I.n):I.L.getD v Ak=I.bag v:=by
 rw[As,Bf,A6 hv];rfl
omit h in
theorem Inp.Rat{v:Nat}(hv:v<I.n):I.R.getD v Ak=matA I.A (I.bag v):=by
 rw[As,Bf,Bf,A6 hv];rfl
theorem Inp.bits{v w:Nat}(hv:v<I.n):(bgS (I.bag v)).testBit w=((I.bag v).k.testBit w||decide (w=v)):=by
 rw[bgS,(Inp.bok h).v,Bx,By];by_cases e:v=w
 ·subst e;simp
 simp[e,Bl e]
theorem Inp.bits_n{v w:Nat}(hv:v<I.n)(hw:(bgS (I.bag v)).testBit w=Aa):w<I.n:=by
 rw[Inp.bits h hv,BR,decide_eq_true_eq]at hw;rcases hw with hw|rfl
 ·exact((Inp.bok h).r v w hv hw).1
 exact hv
theorem Inp.memn{v w:Nat}(hv:v<I.n):w∈zBb (bgS (I.bag v))↔(bgS (I.bag v)).testBit w=true:=by
 unfold zBb;rw[BT,AT]
 have:=h.n
 exact⟨λhh=>hh.2,λhh=>⟨by have:=Inp.bits_n h hv hh;omega,hh⟩⟩
theorem Inp.mem_len{v:Nat}(hv:v<I.n):0<(zBb (bgS (I.bag v))).length/\(zBb (bgS (I.bag v))).length<=I.n:=by
 constructor
 ·refine List.length_pos_of_mem ((Inp.memn h hv (w:=v)).2 ?_);rw[Inp.bits h hv];simp
 exact zEs (List.nodup_range.filter _) λw hw=>Inp.bits_n h hv ((Inp.memn h hv).1 hw)
theorem Inp.s32{v:Nat}(hv:v<I.n):bgS (I.bag v)<4294967296/\bgS (I.bag v)>>>I.n=0:=by
 have hn:=h.n;have h1:bgS (I.bag v)<2^I.n:=zVe λw hw=>by
  cases e:(bgS (I.bag v)).testBit w with
  |false=>rfl
  |true=>have:=Inp.bits_n h hv e;omega
 exact⟨BS h1 (AY (n:=2) (by omega) (by omega:I.n<=32)),by rw[Nat.shiftRight_eq_div_pow];exact Nat.div_eq_of_lt h1⟩
theorem Inp.rows10:∀a∈I.A,a.2.length<=65536:=λa ha=>by have:=(h.R a ha).1;omega
theorem Inp.aok{v:Nat}(hv:v<I.n):AOk (mkP (bgS (I.bag v)) I.A):=part_ok (by have:=h.n;omega:I.n<=32) (Inp.s32 h hv).2 (by have:=h.A;omega) h.V (Inp.rows10 h)
theorem Inp.jlen{v:Nat}(hv:v<I.n):(jn (mkP (bgS (I.bag v)) I.A)).length<=5000:=AN (jn_len (Inp.aok h hv)) h.C
theorem Inp.jall{v:Nat}(hv:v<I.n):∀x∈jn (mkP (bgS (I.bag v)) I.A),x.length=(zBb (bgS (I.bag v))).length/\∀u∈x,vok u=Aa/\Vs u:=jn_all (λu=>vok u=Aa/\Vs u) (Inp.aok h hv) λa ha r hr=>(h.R a ha).2.2 r hr
theorem Inp.par{v c:Nat}(hv:v<I.n)(hc:c<I.n)(hp:(I.bag c).p=(v:Int)):I.O.idxOf c<I.O.idxOf v:=((Inp.bok h).r c v hc ((Inp.bok h).p c v hc hp).1).2
theorem Inp.chs{v:Nat}(hv:v<I.n):∀c∈chV I.b v,c.1<I.n/\I.O.idxOf c.1<I.O.idxOf v:=λc hc=>by
 obtain⟨h1,h2,_⟩:=zG9 hc;have h1:c.1<I.n:=by simpa using h1
 rw[Inp.Lat h1]at h2;exact⟨h1,Inp.par h hv h1 h2⟩
omit h in
theorem Inp.chn(v:Nat):((chV I.b v).map (·.1)).Nodup:=by
 unfold chV chI;rw[AU];have e:((λc:Nat×List Nat=>c.1)∘λc=>(c,zC4 (λu=>(I.b.L.getD c Ak).k.testBit u) (I.b.R.getD v Ak).1))=id:=rfl;rw[e,List.map_id];exact List.nodup_range.filter _
theorem Inp.ixP{i:Nat}(hi:i<I.P.length):I.O.idxOf (I.P.getD i 0)=i:=by
 have hl:=h.P;have h1:=(Inp.ook h).at (i:=i) (by omega);have e:I.O.getD i 0=I.P.getD i 0:=by
  unfold Inp.O ordL;rw[As,BK hi,As]
 rw[<-e];exact h1.2
theorem Inp.ixF{v:Nat}(hv:v<I.f):I.O.idxOf v=I.P.length+(I.f-1-v):=by
 have hl:=h.P;have h1:=(Inp.ook h).at (i:=I.P.length+(I.f-1-v)) (by omega);have e:I.O.getD (I.P.length+(I.f-1-v)) 0=v:=by
  unfold Inp.O ordL;rw[As,BX (by omega),BL,List.getElem?_reverse (by simp;omega),Bt,A6 (by omega)];show I.f-1-(I.f-1-v)=v;omega
 rw[e]at h1;exact h1.2
theorem Inp.take{c i:Nat}(hc:c<I.n)(hi:I.O.idxOf c<i)(hil:i<=I.P.length):c∈I.P.take i:=by
 have h1:=((Inp.ook h).ix hc).2;generalize I.O.idxOf c=j at*;have h2:I.P.getD j 0=c:=by
  rw[<-h1];unfold Inp.O ordL;rw[As,As,BK (by omega)]
 rw[<-h2,As,AA (by omega),AV];exact B3.2 ⟨j,by omega,rfl⟩
theorem Inp.teq{v:Nat}(hv:v<I.n):I.VT v=redK (λx=>wtL I.f I.VT I.TT x (chV I.b v)) (keyC I.b v) (I.b.R.getD v Ak).2/\I.TT v=totL (grpL (I.desc.getD v Ad) (λx=>wtL I.f I.VT I.TT x (chV I.b v)) (I.b.R.getD v Ak).2):=tab_eq (b:=I.b) (O:=I.O) (Inp.ook h) (λv hv=>Inp.chs h hv) hv
theorem Inp.tle{v e:Nat}(he:e=5216)(hv:v<I.n):∀p∈I.TT v,p.2<=2^e:=λp hp=>by
 have hn:=h.n;have h1:=tab_le (b:=I.b) (O:=I.O) (V:=I.VT) (T:=I.TT) (Inp.ook h) (λv hv=>Inp.chs h hv) (λv _=>Inp.chn v) (λv hv=>(Inp.teq h hv).2) (λv hv=>by
  show(I.R.getD v Ak).2.length<=_;rw[Inp.Rat hv]
  have:=Inp.jlen h hv
  show(jn _).length<=_;omega) (I.O.idxOf v) v hv rfl p hp
 refine AN h1 (AY (by omega) ?_);have h2:=((Inp.ook h).ix hv).1;have h3:=zP9 (show I.O.idxOf v<=5 by omega);have h4:exB 5=326:=by decide
 omega
theorem Inp.wle{v e:Nat}(he:e=5216)(hv:v<I.n)(x:Rw)(i:Nat):wtL I.f I.VT I.TT x ((chV I.b v).take i)<=2^(5*e):=by
 have hn:=h.n;have h1:=wt_le (b:=I.b) (O:=I.O) (V:=I.VT) (T:=I.TT) (Inp.ook h) (λv hv=>Inp.chs h hv) (λv _=>Inp.chn v) hv e (λc hc=>Inp.tle h he (Inp.chs h hv c hc).1) x i;have h2:=((Inp.ook h).ix hv).1;exact AN h1 (AY (by omega) (A1 _ (by omega)))
theorem Inp.bal:Bal I.b I.VT I.TT where
 n:=by have:=h.n;show I.n<=_;omega
 f:=h.f
 d:=h.d
 L:=by simp
 R:=by simp
 E:=rfl
 P:=h.P
 P2:=h.P2
 P3:=h.P3
 A:=by have:=h.A;show I.A.length<=_;omega
 Av a ha:=by
  obtain⟨h1,h2⟩:=zQo h.V a ha
  have h3:=zJz (n:=I.n) 0 h1 λw hw=>⟨A5 _,h2 w hw⟩
  have hn:=h.n
  exact⟨by omega,λv hv=>by have:=h2 v hv;omega,Inp.rows10 h a ha⟩
 k c hc:=by
  obtain⟨v,hv,rfl⟩:=AO.1 hc
  exact(Inp.bok h).k v
 V v hv:=by
  have hv:v<I.n:=hv
  have hn:=h.n
  rw[show I.b.R=I.R from rfl,Inp.Rat hv]
  obtain⟨h1,h2⟩:=Inp.mem_len h hv
  exact⟨by show(zBb _).length<=_;omega,h1,λu hu=>by have:=Inp.bits_n h hv ((Inp.memn h hv).1 hu);omega⟩
 r v hv x hx:=by
  have hv:v<I.n:=hv
  rw[show I.b.R=I.R from rfl,Inp.Rat hv]at hx⊢
  obtain⟨h1,h2⟩:=Inp.jall h hv x hx
  exact⟨h1,λu hu=>(h2 u hu).2,Br.2 λu hu=>(h2 u hu).1⟩
 rl v hv:=by
  have hv:v<I.n:=hv
  rw[show I.b.R=I.R from rfl,Inp.Rat hv]
  have:=Inp.jlen h hv
  show(jn _).length<=_
  omega
 S v hv x hx i hi:=by
  obtain⟨e,he⟩:∃e,e=5216:=⟨_,rfl⟩
  exact Sm.pow (Inp.wle h he hv x i) (by omega)
 S1 v hv p hp:=by
  obtain⟨e,he⟩:∃e,e=5216:=⟨_,rfl⟩
  exact Sm.pow (Inp.tle h he hv p hp) (by omega)
 T v hv:=by
  have hv:v<I.n:=hv
  obtain⟨e,he⟩:∃e,e=5216:=⟨_,rfl⟩
  have h1:=zSy (w:=λx=>wtL I.b.f I.VT I.TT x (chV I.b v)) (M:=2^(5*e)) (I.b.R.getD v Ak).2 λx _=>by
   have h1:=Inp.wle h he hv x (chV I.b v).length
   rwa[A0]at h1
  have h3:(I.b.R.getD v Ak).2.length<=2^16:=by
   rw[show I.b.R=I.R from rfl,Inp.Rat hv]
   have:=Inp.jlen h hv
   show(jn _).length<=_
   omega
  refine Sm.pow (e:=16+5*e) (AN h1 ?_) (by omega)
  rw[Nat.pow_add]
  exact A1 _ h3
 Rt i hi:=by
  have hi:i<=I.n:=hi
  have hn:=h.n
  obtain⟨e,he⟩:∃e,e=5216:=⟨_,rfl⟩
  have h1:=zTw (zDs e) ((Az i).map (rone I.b.L I.b.f I.VT I.TT)) 1 λy hy=>by
   obtain⟨c,hc,rfl⟩:=AO.1 hy
   have hc:=AT.1 hc
   unfold rone
   split
   ·exact zDs _
   split
   ·cases e2:tlk (I.TT c) []with
    |none=>simp
    |some w=>
     unfold tlk at e2
     obtain⟨q,q1,q2⟩:=BY.1 e2
     rw[AV,<-q2]
     exact Inp.tle h he (by omega) q (BZ q1)
   split
   ·exact A5 _
   exact zDs _
  rw[Nat.one_mul,<-Nat.pow_mul,AR,Bt]at h1
  refine Sm.pow (e:=e*i) h1 ?_
  have:e*i<=e*6:=BU _ (by omega)
  omega
 vt v _ hv:=(Inp.teq h hv).1
 tt v hv:=(Inp.teq h (by have:=h.f;have hv:v<I.f:=hv;omega)).2
 o1 i hi c hc:=by
  have hi:i<I.P.length:=hi
  have h1:=h.P2 _ (zBw I.P i hi)
  obtain⟨h2,h3⟩:=Inp.chs h h1.2 c hc
  rw[Inp.ixP h hi]at h3
  exact Inp.take h h2 h3 (by omega)
 o2 v hv c hc hcf:=by
  have hv:v<I.f:=hv
  have hcf:c.1<I.f:=hcf
  have hf:=h.f
  obtain⟨h2,h3⟩:=Inp.chs h (show v<I.n by omega) c hc
  rw[Inp.ixF h hv,Inp.ixF h hcf]at h3
  omega
end
abbrev Inp.tot(I:Inp):Nat:=totB I.b I.VT I.TT
abbrev Inp.U(I:Inp)(c:Nat):List Bu:=if I.tot=0 then[]else buk I.b I.VT I.TT c
abbrev Inp.ix(I:Inp):D:=ixD I.desc (I.L.take I.f) I.U I.tot
section
variable {I : Inp} (h : I.Ok)
include h
theorem Inp.bags_c:Pure Al 31 [.agg [iD (I.n:Nat), .row (I.E.map u32D) I.E.length],iD (I.f:Nat), .row (nsD I.P) I.P.length] [] (.tup [.row (I.L.flatMap bgC) I.L.length,iD 0]):=by
 have hn:=h.n;have h1:=ebags_c I.n I.f (by omega) I.E (by rw[AR];have:=h.A;omega) (Inp.Elt h) I.P h.P h.P2 h.P3 I.nb rfl;have e:I.L.length=I.n:=by simp
 rw[BI,e];exact h1
theorem Inp.mat{v:Nat}(hv:v<I.n):∃z:Nat,z<=big/\Pure Al 72 [iD (I.n:Nat),u32D (bgS (I.bag v)), .row (I.A.flatMap atR) I.A.length] [] (.tup [.agg (atR (matA I.A (I.bag v))),iD ((stpA (bgS (I.bag v)) I.A+z+(jn (mkP (bgS (I.bag v)) I.A)).length:Nat):Int),iD 0]):=by
 have hn:=h.n;have hA:=h.A;obtain⟨s1,s2⟩:=Inp.s32 h hv;obtain⟨m1,m2⟩:=Inp.mem_len h hv;have hj:=Inp.jlen h hv;exact mat_c I.n (bgS (I.bag v)) I.A (by omega) s1 s2 (by omega) h.V (Inp.rows10 h) (λa ha r hr=>⟨((h.R a ha).2.2 r hr).1,Br.2 λu hu=>(((h.R a ha).2.2 r hr).2 u hu).1⟩) m1 16 (λa ha=>by have:=(h.R a ha).1;omega) (cE_ok ⟨I.A.length,by omega⟩ ⟨_,by omega⟩) (by omega)
theorem Inp.stp{v:Nat}:stpA (bgS (I.bag v)) I.A<=50:=by
 have h1:=zN9 (s:=bgS (I.bag v)) (B:=10) (A:=I.A) λa ha=>(h.R a ha).1;have h2:=h.A;have:I.A.length*10<=5*10:=A1 _ h2;omega
theorem Inp.all:∃S:Nat,S+zBu I.R<=1000000000000000000/\Pure Al 32 [iD (I.n:Nat), .row (I.L.flatMap bgC) I.L.length, .row (I.A.flatMap atR) I.A.length] [] (.tup [.row (I.R.flatMap atR) I.R.length,iD ((S:Nat):Int),iD 0]):=by
 have hn:=h.n;let z:Bg->Nat:=λb=>if hb:b.v<I.n then BJ (Inp.mat h hb)else 0
 have hzb:∀v (hv:v<I.n),z (I.bag v)=BJ (Inp.mat h hv):=λv hv=>by
  show(if hb:(I.bag v).v<I.n then BJ (Inp.mat h hb)else 0)=_;rw[dif_pos (show(I.bag v).v<I.n from hv)];rfl
 have hz1:∀b,z b<=big:=λb=>by
  show(if hb:b.v<I.n then BJ (Inp.mat h hb)else 0)<=big;split
  ·rename_i hb;exact(B5 (Inp.mat h hb)).1
  exact A5 _
 have hL:∀b∈I.L,∃v,v<I.n/\b=I.bag v:=λb hb=>by
  obtain⟨v,hv,rfl⟩:=AO.1 hb;exact⟨v,AT.1 hv,rfl⟩
 have hsum:∀l:List Bg,(∀b∈l,b∈I.L)->totS I.A z l<=l.length*(big+5050)/\zBu (l.map (matA I.A))<=l.length*5000:=λl=>by
  induction l with
  |nil=>intro _;simp[totS,zBu]
  |cons b l ih=>
   intro hl;obtain⟨i1,i2⟩:=ih λc hc=>hl c (A3 _ hc);obtain⟨v,hv,rfl⟩:=hL b (hl b (A4 ..));have h1:=Inp.stp h (v:=v);have h2:=hz1 (I.bag v);have h3:=Inp.jlen h hv;have e1:totS I.A z (I.bag v::l)=(stpA (bgS (I.bag v)) I.A+z (I.bag v)+(jn (mkP (bgS (I.bag v)) I.A)).length)+totS I.A z l:=by simp[totS]
   have e2:zBu ((I.bag v::l).map (matA I.A))=(jn (mkP (bgS (I.bag v)) I.A)).length+zBu (l.map (matA I.A)):=by simp[zBu]
   rw[e1,e2,Bm,Bq,Bq];constructor<;>omega
 have hLl:I.L.length=I.n:=by simp
 have hbig:big=100000000000000000:=rfl;have hall:=all_c I.n I.L I.A z (by omega) (λb hb=>by
  obtain⟨v,hv,rfl⟩:=hL b hb;exact⟨by show v<32;omega,(Inp.bok h).k v⟩) (λb hb=>by
  obtain⟨v,hv,rfl⟩:=hL b hb;rw[hzb v hv];exact(B5 (Inp.mat h hv)).2) (λi hi=>by
  have:=(hsum (I.L.take i) λb hb=>Bb hb).1
  refine AN this ?_;have h2:(I.L.take i).length*(big+5050)<=6*(big+5050):=A1 _ (by rw[BQ];omega);omega)
 obtain⟨q1,q2⟩:=hsum I.L λb hb=>hb;refine⟨totS I.A z I.L,?_,?_⟩
 ·have h2:I.L.length*(big+5050)<=6*(big+5050):=A1 _ (by omega);have h3:I.L.length*5000<=6*5000:=A1 _ (by omega);show totS I.A z I.L+zBu (I.L.map (matA I.A))<=_;omega
 show Pure _ _ _ _ (.tup [.row ((I.L.map (matA I.A)).flatMap atR) (I.L.map (matA I.A)).length,_,_]);have e:(I.L.map (matA I.A)).length=I.L.length:=AR _;have e2:(I.L.map (matA I.A)).flatMap atR=I.L.flatMap λb=>atR (matA I.A b):=BI ..
 rw[e2,e];exact hall
theorem Inp.build(hck:Pure Al 16 [inpN I.b] [] (iD 0)):∃S:Nat,S+zBu I.R<=1000000000000000000/\Pure Al 32 [iD (I.n:Nat), .row (I.L.flatMap bgC) I.L.length, .row (I.A.flatMap atR) I.A.length] [] (.tup [.row (I.R.flatMap atR) I.R.length,iD ((S:Nat):Int),iD 0])/\
  Pure Al 15 [inpN I.b] [] (.tup [I.ix,iD ((S+zBu I.R:Nat):Int),iD 0]):=by
 obtain⟨S,h1,h2⟩:=Inp.all h;exact⟨S,h1,h2,build_c I.b I.VT I.TT S (Inp.bal h) hck (Inp.bags_c h) h2 (AN h1 (by omega))⟩
end
section
attribute [local irreducible] seqW awp zAe zAn zAd Weak updS zAv retL Pure Acts rP setP setQ cP nP fr
set_option maxRecDepth 4096
def rofA(ar:Nat)(rows:List Rw):Int:=if 32<ar then 3 else rofE (ar:Nat) rows
theorem zWa(ar:Nat)(rows:List Rw)(n:Nat)(hn:rows.length=n)(hb:n<=2000000)(hl:∀r∈rows,r.length<=2000000):Pure Al 48 [iD (ar:Nat), .row (rows.map rowV) n] [] (if rofA ar rows=0 then .tup [relD (ar:Nat) (relR rows),iD 0]else .tup [relZ,iD (rofA ar rows)]):=by
 by_cases h:32<ar
 ·unfold rofA;rw[if_pos h,if_neg (by decide)];have hnew:=newBad_c (ar:Nat) (.inr (by omega));refine zF zA8 mixed Tryz.func48 rfl ?_;focus
   refine vAu<|vA<|vrT 1<|vc hnew<|ve (0<2/\1<2/\Ad=Ad/\Aa=Aa/\2=2/\2<=2)<|zA<|vAe<|vt ?_;refine vA<|ve ((True/\Aa=Aa)/\Ad=Ad/\Aa=Aa/\2=2/\2<=2)<|zE<|zG<|vret (2<=2)<|.inr rfl
 unfold rofA;rw[if_neg h];exact zWb (ar:Nat) rows n (by omega) (by omega) hn hb hl
structure Cs where
 n:Int
 f:Int
 desc:List Bool
 P:List Int
 V:List (List Int)
 R:List (List Rw)
abbrev zBr(l:List Int):D:= .row (l.map λz=>iD z) l.length
abbrev zC1(l:List Rw):D:= .row (l.map rowV) l.length
abbrev csC(c:Cs):List D:=[iD c.n,iD c.f, .row (c.desc.map bD) c.desc.length,zBr c.P, .row (c.V.map zBr) c.V.length, .row (c.R.map zC1) c.R.length]
abbrev csB(c:Cs):Bk:=⟨csC c,27,0,Ad,Ad, .plain⟩
structure Cs.Small(c:Cs):Prop where
 d:c.desc.length<=2000000
 P:c.P.length<=2000000
 V:c.V.length<=2000000
 R:c.R.length<=2000000
 v:∀l∈c.V,l.length<=2000000
 r:∀l∈c.R,l.length<=2000000/\∀x∈l,x.length<=2000000
def Cs.at(c:Cs)(i:Nat):At:=⟨c.V.getD i [],((c.V.getD i []).length:Nat),relR (c.R.getD i [])⟩
def Cs.ats(c:Cs)(m:Nat):List At:=(Az m).map c.at
def Cs.err(c:Cs)(i:Nat):Int:=rofA (c.V.getD i []).length (c.R.getD i [])
abbrev inpK(c:Cs)(x:D):Bk:=⟨[iD c.n,iD c.f, .row (c.desc.map bD) c.desc.length,zBr c.P,x],31,0,Ad,Ad, .plain⟩
abbrev atsB(l:List At):Bk:=⟨l.flatMap atC,87,3,Aa,Ad, .plain⟩
abbrev inpZ:Bk:=⟨[iD 0,iD 0,nl0,nl0,nl0],31,0,Ad,Ad, .plain⟩
theorem Cs.ats_succ(c:Cs)(i:Nat):c.ats (i+1)=c.ats i++[c.at i]:=by
 unfold Cs.ats;rw[List.range_succ,Bi];rfl
theorem Cs.ats_len(c:Cs)(i:Nat):(c.ats i).length=i:=by simp[Cs.ats]
abbrev q40_(x0:Cs):=Ae (Ah bD (Cs.desc x0)) (Ab (Cs.desc x0))
abbrev q41_(x0:Cs):=Ae (Ah zBr (Cs.V x0)) (Ab (Cs.V x0))
abbrev q42_(x0:Cs):=Ae (Ah zC1 (Cs.R x0)) (Ab (Cs.R x0))
theorem make_c(c:Cs)(h:c.Small):∃(m:Nat)(ok:Bool),m<=c.V.length/\m<=c.R.length/\(ok=Aa↔c.V.length=c.R.length/\∀i,i<c.V.length->c.err i=0)/\(ok=Aa->m=c.V.length)/\
  Pure Al 12 [.agg (csC c)] [] (.tup [inpD c.n c.f c.desc c.P (c.ats m),bD ok]):=by
 obtain⟨m,hm1,hm2,hgood,hend⟩:∃m,m<=c.V.length/\m<=c.R.length/\(∀j,j<m->c.err j=0)/\((m=min c.V.length c.R.length)\/(m<c.V.length/\m<c.R.length/\c.err m≠0)):=by
  by_cases hb:∃p,p<min c.V.length c.R.length/\decide (c.err p≠0)=Aa
  ·obtain⟨p,hp,hpb,hmin⟩:=zD1 (p:=λi=>decide (c.err i≠0)) hb;refine⟨p,by omega,by omega,λj hj=>?_, .inr ⟨by omega,by omega,by simpa using hpb⟩⟩
   have:=hmin j hj
   simpa using this
  refine⟨min c.V.length c.R.length,by omega,by omega,λj hj=>?_, .inl rfl⟩;exact Ba λh2=>hb ⟨j,hj,by simpa using h2⟩
 have hV:∀i,i<c.V.length->((c.V.map zBr).drop i).headD .unk=zBr (c.V.getD i []):=λi hi=>zAo zBr c.V [] i hi;have hR:∀i,i<c.R.length->((c.R.map zC1).drop i).headD .unk=zC1 (c.R.getD i []):=λi hi=>zAo zC1 c.R [] i hi;have hVn:0<c.V.length->c.V.map zBr≠[]:=λh=>zAm h;have hRn:0<c.R.length->c.R.map zC1≠[]:=λh=>zAm h;have hlV:=h.V;have hlR:=h.R;have hac:∀i,((c.ats i).flatMap atC).length=i*3:=λi=>by rw[zDk (c:=3) (λ_=>rfl),Cs.ats_len]
 have htk:∀i,((c.ats i).flatMap atC).take (i*3)=(c.ats i).flatMap atC:=λi=>Bo (by rw[hac];exact AP _);refine⟨m,decide (m=c.V.length/\c.V.length=c.R.length),hm1,hm2,?_,λhh=>(of_decide_eq_true hh).1,?_⟩
 ·rw[decide_eq_true_eq];constructor
  ·rintro⟨h1,h2⟩;exact⟨h2,λi hi=>hgood i (by omega)⟩
  rintro⟨h1,h2⟩;rcases hend with h3|⟨h3,_,h4⟩
  ·exact⟨by omega,h1⟩
  exact absurd (h2 m h3) h4
 rw[show inpD c.n c.f c.desc c.P (c.ats m)= .agg [iD c.n,iD c.f, .row (c.desc.map bD) c.desc.length,zBr c.P, .row ((c.ats m).flatMap atC) m]from congrArg (λk=>AE [iD c.n,iD c.f, .row (c.desc.map bD) c.desc.length,zBr c.P, .row ((c.ats m).flatMap atC) k]) (Cs.ats_len c m)];refine zF zA8 mixed Tryz.func12 rfl ?_;focus
  refine vAu<|vA<|vr 11 (True/\0<6/\True/\0<5/\True/\0<4/\True/\0<3/\((1=1/\1<=5/\1=1/\2<=5/\1=1/\3<=5/\1=1/\4<=5/\True)/\Aa=Aa)/\Ad=Ad/\Aa=Aa/\5=5/\5<=5)<|vnil<|zC<|vnn (fr 69 [(1,An 0 0),(2,An 1 0),(3,bD Ad),(4,An 2 0),(8,An 0 0),(9,iD<|Cs.n c),(10,An 0 1),(11,iD<|Cs.f c),(12,An 0 2),(13,(q40_ c)),(14,An 0 3),(15,Ae (Ah (λ(z:Int)=>iD z)<|Cs.P c)<|Ab<|Cs.P c),(16,AE [iD<|Cs.n c,iD<|Cs.f c,(q40_ c),Ae (Ah (λ(z:Int)=>iD z)<|Cs.P c)<|Ab<|Cs.P c,nl])]) [AG [iD<|Cs.n c,iD<|Cs.f c,(q40_ c),Ae (Ah (λ(z:Int)=>iD z)<|Cs.P c)<|Ab<|Cs.P c,(q41_ c),(q42_ c)] 27 0 Ad Ad AL,AG [iD 0,iD 0,nl,nl,nl] 31 0 Ad Ad AL,AG [iD<|Cs.n c,iD<|Cs.f c,(q40_ c),Ae (Ah (λ(z:Int)=>iD z)<|Cs.P c)<|Ab<|Cs.P c,nl] 31 0 Ad Ad AL] ?_;rotate_left
 refine zBz (Weak.nilC (j:=2) (i:=4) (ej:=inpK c nl0) (atsB []) rfl rfl rfl rfl) ?_;focus
  refine zA<|vAu<|zH ?_;rotate_left
 refine zK (λ(i:Nat)=>fr 69 [(1,An 0 0),(2,An 1 0),(4,An 2 0),(5,iD i)]) (λ(i:Nat)=>[csB c,inpZ,inpK c<|.osl 3 0 i (i*3) Aa,atsB<|c.ats i]) (λ(i:Nat)=>m-i) (λ(i:Nat)=>i<=m) 0 ?_ ?_ ?_
 ·omega
 ·refine vk 4
 intro i h1;rcases AI i m with h2|h2
 ·have hv:=hV i (by omega);have hr:=hR i (by omega);have hvn:=hVn (by omega);have hrn:=hRn (by omega);have hac1:=hac i;have hrm:c.R.getD i []∈c.R:=by rw[As,AA (by omega)];exact A2 _
  obtain⟨r1,r2⟩:=h.r _ hrm;have hof:=zWa (c.V.getD i []).length (c.R.getD i []) _ rfl r1 r2;have hok:rofA (c.V.getD i []).length (c.R.getD i [])=0:=hgood i h2;rw[if_pos hok]at hof;have hsu:atsB (c.ats (i+1))=⟨(c.ats i).flatMap atC++[zBr (c.V.getD i []),iD ((c.V.getD i []).length:Nat), .row ((relR (c.R.getD i [])).map rowV) (relR (c.R.getD i [])).length],87,3,Aa,Ad, .plain⟩:=by
   rw[Cs.ats_succ];show AG ((c.ats i++[c.at i]).flatMap atC) _ _ _ _ _=_;rw[<-zR2];rfl
  focus
   refine zA<|vAs<|vew [] [(5,Aa)] (True/\0<2/\decide ((i:Int)<(Ab (Cs.V c):Int))=Aa/\True/\0<1)<|vT ((i:Int)<(Ab (Cs.R c):Int))<|vKB<|zA<|vd [0,2,6,8,1,3,4,5,7,9,10,11,12,13,14,15,16,17]<|vr 6 (True/\True/\0<2/\ix ↑i (Ab (Cs.V c):Int) (Ah zBr (Cs.V c)≠[])) ?_;refine vp 35 i (Ah zBr<|Cs.V c)<|vr 1 (0<Ab (Ao i<|Ah zBr<|Cs.V c))<|vsh 36 hv<|vr 3 (0<1/\ix ↑i (Ab (Cs.R c):Int) (Ah zC1 (Cs.R c)≠[]))<|vp 41 i (Ah zC1<|Cs.R c)<|vr 1 (0<Ab (Ao i<|Ah zC1<|Cs.R c))<|vsh 42 hr<|vc hof<|ve (0<2/\1<2/\Ad=Ad/\Aa=Aa/\2=2/\2<=2)<|zA<|vAe<|vf ?_;refine vK<|vd [0,2,4,1,3,5,6,7,8,9,10,11,12]<|vr 6 (True/\True/\0<1/\0<2/\ix ↑i (Ab (Cs.V c):Int) (Ah zBr (Cs.V c)≠[]))<|vp 54 i (Ah zBr<|Cs.V c)<|vr 1 (0<Ab (Ao i<|Ah zBr<|Cs.V c))<|vsh 55 hv<|vr 6 (2<=2/\((1=1/\1<=3/\2=2/\3<=3/\True)/\Aa=Aa)/\((3=3/\3<=3/\True)/\0<3/\3=3/\3<=16777216/\1<=9223372036854775807)/\(Bk.arr (atsB<|Cs.ats c i)=Aa/\Ab (AS<|atsB<|Cs.ats c i)=i*3/\i*3=i*3/\Bk.ty (atsB<|Cs.ats c i)=87/\Bk.sz (atsB<|Cs.ats c i)=3/\3=3/\0<3/\0<56/\87=87/\(i+1)*56<=140737488355328/\3=3/\Kd.isMap (Bk.kd<|atsB<|Cs.ats c i)=Ad/\(Ad=Ad\/Kd.isSh (Bk.kd<|atsB<|Cs.ats c i)=Aa))/\True/\Ad=Ad/\Aa=Aa/\1=1/\5<=5)<|vnil<|zD<|vN<|zB rfl ?_;refine vr 3 (i6 (↑i+1))<|vnil<|zC ?_;rotate_left
  refine⟨i+1,by omega,by omega,?_⟩;rw[hsu];refine vk 4
 obtain rfl:i=m:=by omega
 have htk1:=htk i;rcases hend with h3|⟨h3,h4,h5⟩
 ·have hb:decide (i=c.V.length/\c.V.length=c.R.length)=((c.V.length:Int)==(c.R.length:Int)):=by
   rw[Bool.eq_iff_iff];simp only[decide_eq_true_eq,beq_iff_eq];omega
  rw[hb];focus
   refine zA<|vAs<|vr 6 (True/\0<2) ?_;refine vsp 22 (decide ((i:Int)<(Ab (Cs.V c):Int))) (λhc=>?_)<|λhc=>?_;simp only[decide_eq_true_eq]at hc;refine ve (True/\0<1)<|vF ((i:Int)<(Ab (Cs.R c):Int))<|vZ2<|zA ?_;refine zA7 [1,4,0,2,3,5,6,7] [(8,[(2,100000),(3,100000),(5,100000),(6,100000),(7,100000)],[9])] rfl ?_;refine vr 8 (True/\True/\5<=5/\0<2/\0<1/\True)<|vnil<|zB3 rfl rfl (by kernel_rfl)<|vr 1 (Ad=Ad/\Aa=Aa/\5=5/\5<=5)<|vnil ?_;refine zE3 (C:=0<2/\Aw ((q41_ c))=Aw (Bj [(q41_ c),(q42_ c)] Uk)/\True/\Aw (iD (Ab (Cs.V c):Int))=Aw (iD (Ab (Cs.V c):Int))/\0<1/\Aw ((q42_ c))=Aw (Bj [(q42_ c)] Uk)/\True/\Aw (iD (Ab (Cs.R c):Int))=Aw (iD (Ab (Cs.R c):Int))/\True/\Aw (bD ((Ab (Cs.V c):Int)==(Ab (Cs.R c):Int)))=Aw (bD ((Ab (Cs.V c):Int)==(Ab (Cs.R c):Int)))) ⟨(by omega),(by kernel_rfl),trivial,(by kernel_rfl),(by omega),(by kernel_rfl),trivial,(by kernel_rfl),trivial,(by kernel_rfl)⟩ ?_;refine vrT 1<|vnil<|zBv<|vN<|zE ?_;refine zB9 (5<=5) (D.tup [AE [iD<|Cs.n c,iD<|Cs.f c,Ae (Ah bD<|Cs.desc c)<|Ab<|Cs.desc c,Ae (Ah (λ(z:Int)=>iD z)<|Cs.P c)<|Ab<|Cs.P c,Ae (Au (i*3)<|Ao 0<|AS<|atsB<|Cs.ats c i) i],bD ((Ab (Cs.V c):Int)==(Ab (Cs.R c):Int))]) (D.tup [AE [Ai<|Am A9<|Cs.n c,Ai<|Am A9<|Cs.f c,Ae (Ah bD<|Cs.desc c)<|Ab<|Cs.desc c,Ae (Ah (λ(z:Int)=>iD z)<|Cs.P c)<|Ab<|Cs.P c,Ae (Ap atC<|Cs.ats c i) i],Ai<|AZ ((Ab (Cs.V c):Int)==(Ab (Cs.R c):Int))]) (.inr rfl) (by omega) (by simp(disch:=omega) only[AW,htk1]) rfl;simp only[decide_eq_false_iff_not]at hc;refine veT<|vf<|vZ2<|zA ?_;refine zA7 [1,4,0,2,3,5,6,7] [(8,[(2,100000),(3,100000),(5,100000),(6,100000),(7,100000)],[9])] rfl ?_;refine vr 8 (True/\True/\5<=5/\0<2/\0<1/\True)<|vnil<|zB3 rfl rfl (by kernel_rfl)<|vr 1 (Ad=Ad/\Aa=Aa/\5=5/\5<=5)<|vnil ?_;refine zE3 (C:=0<2/\Aw ((q41_ c))=Aw (Bj [(q41_ c),(q42_ c)] Uk)/\True/\Aw (iD (Ab (Cs.V c):Int))=Aw (iD (Ab (Cs.V c):Int))/\0<1/\Aw ((q42_ c))=Aw (Bj [(q42_ c)] Uk)/\True/\Aw (iD (Ab (Cs.R c):Int))=Aw (iD (Ab (Cs.R c):Int))/\True/\Aw (bD ((Ab (Cs.V c):Int)==(Ab (Cs.R c):Int)))=Aw (bD ((Ab (Cs.V c):Int)==(Ab (Cs.R c):Int)))) ⟨(by omega),(by kernel_rfl),trivial,(by kernel_rfl),(by omega),(by kernel_rfl),trivial,(by kernel_rfl),trivial,(by kernel_rfl)⟩ ?_;refine vrT 1<|vnil<|zBv<|vN<|zE ?_;refine zB9 (5<=5) (D.tup [AE [iD<|Cs.n c,iD<|Cs.f c,Ae (Ah bD<|Cs.desc c)<|Ab<|Cs.desc c,Ae (Ah (λ(z:Int)=>iD z)<|Cs.P c)<|Ab<|Cs.P c,Ae (Au (i*3)<|Ao 0<|AS<|atsB<|Cs.ats c i) i],bD ((Ab (Cs.V c):Int)==(Ab (Cs.R c):Int))]) (D.tup [AE [Ai<|Am A9<|Cs.n c,Ai<|Am A9<|Cs.f c,Ae (Ah bD<|Cs.desc c)<|Ab<|Cs.desc c,Ae (Ah (λ(z:Int)=>iD z)<|Cs.P c)<|Ab<|Cs.P c,Ae (Ap atC<|Cs.ats c i) i],Ai<|AZ ((Ab (Cs.V c):Int)==(Ab (Cs.R c):Int))]) (.inr rfl) (by omega) (by simp(disch:=omega) only[AW,htk1]) rfl
 have hb:decide (i=c.V.length/\c.V.length=c.R.length)=false:=decide_eq_false (by omega);rw[hb];have hv:=hV i (by omega);have hr:=hR i (by omega);have hvn:=hVn (by omega);have hrn:=hRn (by omega);have hrm:c.R.getD i []∈c.R:=by rw[As,AA (by omega)];exact A2 _
 obtain⟨r1,r2⟩:=h.r _ hrm;have hof:=zWa (c.V.getD i []).length (c.R.getD i []) _ rfl r1 r2;have hbad:¬rofA (c.V.getD i []).length (c.R.getD i [])=0:=h5;rw[if_neg hbad]at hof;generalize rofA (c.V.getD i []).length (c.R.getD i [])=e at*;focus
  refine zA<|vAs<|vew [] [(5,Aa)] (True/\0<2/\decide ((i:Int)<(Ab (Cs.V c):Int))=Aa/\True/\0<1)<|vT ((i:Int)<(Ab (Cs.R c):Int))<|vKB<|zA<|vd [0,2,6,8,1,3,4,5,7,9,10,11,12,13,14,15,16,17]<|vr 6 (True/\True/\0<2/\ix ↑i (Ab (Cs.V c):Int) (Ah zBr (Cs.V c)≠[])) ?_;refine vp 35 i (Ah zBr<|Cs.V c)<|vr 1 (0<Ab (Ao i<|Ah zBr<|Cs.V c))<|vsh 36 hv<|vr 3 (0<1/\ix ↑i (Ab (Cs.R c):Int) (Ah zC1 (Cs.R c)≠[]))<|vp 41 i (Ah zC1<|Cs.R c)<|vr 1 (0<Ab (Ao i<|Ah zC1<|Cs.R c))<|vsh 42 hr<|vc hof<|ve (0<2/\1<2/\Ad=Ad/\Aa=Aa/\2=2/\2<=2)<|zA<|vAe<|zGb (t:=e !=(0:Int)) (by kernel_rfl) (by simpa using by omega) ?_;refine vA<|ve (5<=5/\Ad=Ad/\Aa=Aa/\5=5/\5<=5)<|zE<|zG<|zL<|zG<|zG<|zL<|zG ?_;refine zB9 (5<=5) (D.tup [AE [iD<|Cs.n c,iD<|Cs.f c,Ae (Ah bD<|Cs.desc c)<|Ab<|Cs.desc c,Ae (Ah (λ(z:Int)=>iD z)<|Cs.P c)<|Ab<|Cs.P c,Ae (Au (i*3)<|Ao 0<|AS<|atsB<|Cs.ats c i) i],bD Ad]) (D.tup [AE [Ai<|Am A9<|Cs.n c,Ai<|Am A9<|Cs.f c,Ae (Ah bD<|Cs.desc c)<|Ab<|Cs.desc c,Ae (Ah (λ(z:Int)=>iD z)<|Cs.P c)<|Ab<|Cs.P c,Ae (Ap atC<|Cs.ats c i) i],Ai<|AZ Ad]) (.inr rfl) (by omega) (by simp(disch:=omega) only[AW,htk1]) rfl
structure Cs.Few(c:Cs):Prop where
 R:c.R.length<=5
 V:c.V.length<=5
 d:c.desc.length<=10
 P:c.P.length<=10
 n:c.n<=6\/32<c.n
 r:∀l∈c.R,l.length<=10
 v:∀l∈c.V,l.length<=8
 C:(c.R.map λl=>max 1 l.length).foldl (· *·) 1<=5000
def mny(L:List (List Rw))(i:Nat):Nat:=((L.take i).map λl=>max 1 l.length).foldl (· *·) 1
theorem zWs(L:List (List Rw))(i:Nat)(h:i<L.length):mny L (i+1)=mny L i*max 1 (L.getD i []).length:=by
 unfold mny;rw[BN h,Bi,List.foldl_append,As,AA h];rfl
theorem few_c(c:Cs)(h:c.Small):∃b:Bool,(b=Aa->c.Few)/\Pure Al 13 [.agg (csC c)] [] (bD b):=by
 have hV:∀i,i<c.V.length->((c.V.map zBr).drop i).headD .unk=zBr (c.V.getD i []):=λi hi=>zAo zBr c.V [] i hi;have hR:∀i,i<c.R.length->((c.R.map zC1).drop i).headD .unk=zC1 (c.R.getD i []):=λi hi=>zAo zC1 c.R [] i hi;have hVn:0<c.V.length->c.V.map zBr≠[]:=λh=>zAm h;have hRn:0<c.R.length->c.R.map zC1≠[]:=λh=>zAm h;have hlV:=h.V;have hlR:=h.R;have hld:=h.d;have hlP:=h.P;obtain⟨m1,m2,hm1,hg1,hm2,hg2,hend⟩:∃m1 m2,m1<=min c.R.length 6/\(∀j,j<m1->(c.R.getD j []).length<=10)/\m2<=min c.V.length 6/\(∀j,j<m2->(c.V.getD j []).length<=8)/\((m1<min c.R.length 6/\10<(c.R.getD m1 []).length)\/(m1=min c.R.length 6/\(m2<min c.V.length 6/\8<(c.V.getD m2 []).length\/m2=min c.V.length 6))):=by
  by_cases h1:∃p,p<min c.R.length 6/\decide (10<(c.R.getD p []).length)=Aa
  ·obtain⟨p,hp,hpb,hmin⟩:=zD1 (p:=λi=>decide (10<(c.R.getD i []).length)) h1;refine⟨p,0,by omega,λj hj=>?_,A5 _,λj hj=>by omega, .inl ⟨hp,by simpa using hpb⟩⟩
   have:=hmin j hj
   simp only[decide_eq_false_iff_not]at this;omega
  have hall:∀j,j<min c.R.length 6->(c.R.getD j []).length<=10:=λj hj=>Ba λhh=>h1 ⟨j,hj,decide_eq_true (by omega)⟩;by_cases h2:∃p,p<min c.V.length 6/\decide (8<(c.V.getD p []).length)=Aa
  ·obtain⟨p,hp,hpb,hmin⟩:=zD1 (p:=λi=>decide (8<(c.V.getD i []).length)) h2;refine⟨_,p,AP _,hall,by omega,λj hj=>?_, .inr ⟨rfl, .inl ⟨hp,by simpa using hpb⟩⟩⟩
   have:=hmin j hj
   simp only[decide_eq_false_iff_not]at this;omega
  exact⟨_,_,AP _,hall,AP _,λj hj=>Ba λhh=>h2 ⟨j,hj,decide_eq_true (by omega)⟩, .inr ⟨rfl, .inr rfl⟩⟩
 have hmb:∀i,i<=m1->mny c.R i<=10^i:=λi=>by
  induction i with
  |zero=>intro _;exact AP _
  |succ i ih=>
   intro hi;rw[zWs c.R i (by omega),Nat.pow_succ];exact Nat.mul_le_mul (ih (by omega)) (by have:=hg1 i (by omega);omega)
 have hm6:∀i,i<=m1->mny c.R i<=1000000:=λi hi=>AN (hmb i hi) (show 10^i<=10^6 from AY (by omega) (by omega));have hone:mny c.R 0=1:=rfl;refine⟨decide (m1=min c.R.length 6/\mny c.R m1<=5000/\m2=min c.V.length 6/\c.R.length<=5/\c.V.length<=5/\c.desc.length<=10/\c.P.length<=10/\(c.n<=6\/32<c.n)),λhb=>?_,?_⟩
 ·obtain⟨b1,b2,b3,b4,b5,b6,b7,b8⟩:=of_decide_eq_true hb;refine⟨b4,b5,b6,b7,b8,λl hl=>?_,λl hl=>?_,?_⟩
  ·obtain⟨i,hi,rfl⟩:=Bc hl
   have:=hg1 i (by omega)
   rwa[As,AA hi]at this
  ·obtain⟨i,hi,rfl⟩:=Bc hl
   have:=hg2 i (by omega)
   rwa[As,AA hi]at this
  have e:m1=c.R.length:=by omega
  unfold mny at b2;rwa[e,A0]at b2
 refine zF zA8 mixed Tryz.func13 rfl ?_;focus
  refine vAu<|vAe<|zA<|vAe<|zH ?_;rotate_left
 refine zK (λ(i:Nat)=>fr 85 [(1,An 0 0),(3,iD (↑(mny (Cs.R c) i):Int)),(4,iD i)]) (λ(i:Nat)=>[csB c]) (λ(i:Nat)=>m1-i) (λ(i:Nat)=>i<=m1) 0 ?_ ?_ ?_
 ·omega
 ·rw[hone];refine vk 1
 intro i h1;rcases AI i m1 with h2|h2
 ·have hr:=hR i (by omega);have hrn:=hRn (by omega);have hg:=hg1 i h2;have hsu:=zWs c.R i (by omega);have hmi:=hm6 i h1;have hmi2:=hm6 (i+1) (by omega);generalize c.R.getD i []=l at*;have hmx:(if((l.length:Nat):Int)>1 then((l.length:Nat):Int)else 1)=((max 1 l.length:Nat):Int):=by
   split<;>omega
  rw[hsu]at hmi2;focus
   refine zA<|vAs<|vew [] [(5,Aa)] (True/\0<1/\decide ((i:Int)<(Ab (Cs.R c):Int))=Aa)<|vT ((i:Int)<(6:Int))<|vKB<|zA<|vA ?_;refine vr 4 (True/\0<1/\ix ↑i (Ab (Cs.R c):Int) (Ah zC1 (Cs.R c)≠[]))<|vp 20 i (Ah zC1<|Cs.R c)<|vr 1 (0<Ab (Ao i<|Ah zC1<|Cs.R c))<|vsh 21 hr<|veT<|vF ((Ab l:Int)>(10:Int))<|vK<|zB rfl<|vr 5 (True/\0<1/\ix ↑i (Ab (Cs.R c):Int) (Ah zC1 (Cs.R c)≠[]))<|vp 28 i (Ah zC1<|Cs.R c)<|vr 1 (0<Ab (Ao i<|Ah zC1<|Cs.R c))<|vsh 29 hr ?_;refine vrT 2<|vs 31 (iD (if(Ab l:Int)>(1:Int)then(Ab l:Int)else(1:Int))) (iD (↑(max 1<|Ab l):Int)) (by simp(disch:=omega) only[hmx])<|vr 2 (i6 ((↑(mny (Cs.R c) i):Int)*(↑(max 1<|Ab l):Int)))<|vnil<|zD<|vN<|zB rfl<|vr 3 (i6 (↑i+1))<|vnil<|zC ?_;rotate_left
  refine⟨i+1,by omega,by omega,?_⟩;rw[hsu,Int.natCast_mul];refine vk 1
 obtain rfl:i=m1:=by omega
 rcases hend with⟨h3,h4⟩|⟨h3,h4⟩
 ·rw[decide_eq_false (by omega)];have hr:=hR i (by omega);have hrn:=hRn (by omega);generalize c.R.getD i []=l at*;focus
   refine zA<|vAs<|vew [] [(5,Aa)] (True/\0<1/\decide ((i:Int)<(Ab (Cs.R c):Int))=Aa)<|vT ((i:Int)<(6:Int))<|vKB<|zA<|vA ?_;refine vr 4 (True/\0<1/\ix ↑i (Ab (Cs.R c):Int) (Ah zC1 (Cs.R c)≠[]))<|vp 20 i (Ah zC1<|Cs.R c)<|vr 1 (0<Ab (Ao i<|Ah zC1<|Cs.R c))<|vsh 21 hr<|veT<|vT ((Ab l:Int)>(10:Int))<|vAe<|zE<|zG<|zL<|zG<|zG ?_;refine zL<|zG<|vret (True)<|.inr rfl
 have hmi:=hm6 i (AP _);generalize hmn:mny c.R i=mn at*;by_cases hm5:mn<=5000
 ·by_cases hcR:i<c.R.length
  ·focus
    refine zA<|vAs<|vew [] [(5,Aa)] (True/\0<1/\decide ((i:Int)<(Ab (Cs.R c):Int))=Aa)<|vF ((i:Int)<(6:Int))<|vZ2<|zA<|zA ?_;refine zB rfl<|veT<|vF ((mn:Int)>(5000:Int))<|vK<|zA<|vAe<|zH ?_;rotate_left
   refine zK (λ(j:Nat)=>fr 85 [(1,An 0 0),(5,iD j)]) (λ(j:Nat)=>[csB c]) (λ(j:Nat)=>m2-j) (λ(j:Nat)=>j<=m2) 0 ?_ ?_ ?_
   ·omega
   ·refine vk 1
   intro j h5;rcases AI j m2 with h6|h6
   ·have hv:=hV j (by omega);have hvn:=hVn (by omega);have hg:=hg2 j h6;generalize c.V.getD j []=l at*;focus
     refine zA<|vAs<|vew [] [(5,Aa)] (True/\0<2/\decide ((j:Int)<(Ab (Cs.V c):Int))=Aa)<|vT ((j:Int)<(6:Int))<|vKB<|vA<|vr 4 (True/\0<2/\ix ↑j (Ab (Cs.V c):Int) (Ah zBr (Cs.V c)≠[])) ?_;refine vp 49 j (Ah zBr<|Cs.V c)<|vr 1 (0<Ab (Ao j<|Ah zBr<|Cs.V c))<|vsh 50 hv<|veT<|vF ((Ab l:Int)>(8:Int))<|zQ<|zD<|vN<|zB rfl<|vr 3 (i6 (↑j+1))<|vnil<|zC ?_;rotate_left
    refine⟨j+1,by omega,by omega,?_⟩;refine vk 1
   obtain rfl:j=m2:=by omega
   rcases h4 with⟨h7,h8⟩|h7
   ·rw[decide_eq_false (by omega)];have hv:=hV j (by omega);have hvn:=hVn (by omega);generalize c.V.getD j []=l at*;focus
     refine zA<|vAs<|vew [] [(5,Aa)] (True/\0<2/\decide ((j:Int)<(Ab (Cs.V c):Int))=Aa)<|vT ((j:Int)<(6:Int))<|vKB<|vA<|vr 4 (True/\0<2/\ix ↑j (Ab (Cs.V c):Int) (Ah zBr (Cs.V c)≠[])) ?_;refine vp 49 j (Ah zBr<|Cs.V c)<|vr 1 (0<Ab (Ao j<|Ah zBr<|Cs.V c))<|vsh 50 hv<|veT<|vT ((Ab l:Int)>(8:Int))<|vAe<|zE<|zL<|zG<|zG<|zL<|zG ?_;refine vret (True)<|.inr rfl
   rw[decide_eq_false (by omega)];by_cases hjV:j<c.V.length
   ·focus
     refine zA<|vAs<|vew [] [(5,Aa)] (True/\0<2/\decide ((j:Int)<(Ab (Cs.V c):Int))=Aa)<|vF ((j:Int)<(6:Int))<|vZ2<|vA ?_;refine vr 4 (True/\0<6) ?_;refine vsp 56 (decide (Cs.n c<=(6:Int))) (λhc=>?_)<|λhc=>?_;simp only[decide_eq_true_eq]at hc;refine vew [] [(14,Ad)] (True/\0<2/\decide ((Ab (Cs.V c):Int)<=(5:Int))=Ad)<|zE<|vret (True)<|.inr rfl;simp only[decide_eq_false_iff_not]at hc;refine vr 5 (True/\0<6) ?_;refine vsp 61 (decide (Cs.n c>(32:Int))) (λhc=>?_)<|λhc=>?_;simp only[decide_eq_true_eq]at hc;refine vew [] [(14,Ad)] (True/\0<2/\decide ((Ab (Cs.V c):Int)<=(5:Int))=Ad)<|zE<|vret (True)<|.inr rfl;simp only[decide_eq_false_iff_not]at hc;refine veT<|zE<|vret (True)<|.inr rfl
   focus
    refine zA<|vAs<|vew [] [(5,Ad)] (True/\0<2/\decide ((j:Int)<(Ab (Cs.V c):Int))=Ad)<|vf<|vZ2<|vA ?_;refine vr 4 (True/\0<6) ?_;refine vsp 56 (decide (Cs.n c<=(6:Int))) (λhc=>?_)<|λhc=>?_;simp only[decide_eq_true_eq]at hc;refine vr 11 (True/\0<2) ?_;refine vsp 67 (decide ((Ab (Cs.V c):Int)<=(5:Int))) (λhc=>?_)<|λhc=>?_;simp only[decide_eq_true_eq]at hc;refine vew [] [(20,Ad)] (True/\0<1/\decide ((Ab (Cs.R c):Int)<=(5:Int))=Ad)<|zE<|vret (True)<|.inr rfl;simp only[decide_eq_false_iff_not]at hc;refine veT<|zE<|vret (True)<|.inr rfl;simp only[decide_eq_false_iff_not]at hc;refine vr 5 (True/\0<6) ?_;refine vsp 61 (decide (Cs.n c>(32:Int))) (λhc=>?_)<|λhc=>?_;simp only[decide_eq_true_eq]at hc;refine vr 6 (True/\0<2) ?_;refine vsp 67 (decide ((Ab (Cs.V c):Int)<=(5:Int))) (λhc=>?_)<|λhc=>?_;simp only[decide_eq_true_eq]at hc;refine vew [] [(20,Ad)] (True/\0<1/\decide ((Ab (Cs.R c):Int)<=(5:Int))=Ad)<|zE<|vret (True)<|.inr rfl;simp only[decide_eq_false_iff_not]at hc;refine veT<|zE<|vret (True)<|.inr rfl;simp only[decide_eq_false_iff_not]at hc;refine veT<|zE<|vret (True)<|.inr rfl
  focus
   refine zA<|vAs<|vew [] [(5,Ad)] (True/\0<1/\decide ((i:Int)<(Ab (Cs.R c):Int))=Ad)<|vf<|vZ2<|zA<|zA ?_;refine zB rfl<|veT<|vF ((mn:Int)>(5000:Int))<|vK<|zA<|vAe<|zH ?_;rotate_left
  refine zK (λ(j:Nat)=>fr 85 [(1,An 0 0),(5,iD j)]) (λ(j:Nat)=>[csB c]) (λ(j:Nat)=>m2-j) (λ(j:Nat)=>j<=m2) 0 ?_ ?_ ?_
  ·omega
  ·refine vk 1
  intro j h5;rcases AI j m2 with h6|h6
  ·have hv:=hV j (by omega);have hvn:=hVn (by omega);have hg:=hg2 j h6;generalize c.V.getD j []=l at*;focus
    refine zA<|vAs<|vew [] [(5,Aa)] (True/\0<2/\decide ((j:Int)<(Ab (Cs.V c):Int))=Aa)<|vT ((j:Int)<(6:Int))<|vKB<|vA<|vr 4 (True/\0<2/\ix ↑j (Ab (Cs.V c):Int) (Ah zBr (Cs.V c)≠[])) ?_;refine vp 49 j (Ah zBr<|Cs.V c)<|vr 1 (0<Ab (Ao j<|Ah zBr<|Cs.V c))<|vsh 50 hv<|veT<|vF ((Ab l:Int)>(8:Int))<|zQ<|zD<|vN<|zB rfl<|vr 3 (i6 (↑j+1))<|vnil<|zC ?_;rotate_left
   refine⟨j+1,by omega,by omega,?_⟩;refine vk 1
  obtain rfl:j=m2:=by omega
  rcases h4 with⟨h7,h8⟩|h7
  ·rw[decide_eq_false (by omega)];have hv:=hV j (by omega);have hvn:=hVn (by omega);generalize c.V.getD j []=l at*;focus
    refine zA<|vAs<|vew [] [(5,Aa)] (True/\0<2/\decide ((j:Int)<(Ab (Cs.V c):Int))=Aa)<|vT ((j:Int)<(6:Int))<|vKB<|vA<|vr 4 (True/\0<2/\ix ↑j (Ab (Cs.V c):Int) (Ah zBr (Cs.V c)≠[])) ?_;refine vp 49 j (Ah zBr<|Cs.V c)<|vr 1 (0<Ab (Ao j<|Ah zBr<|Cs.V c))<|vsh 50 hv<|veT<|vT ((Ab l:Int)>(8:Int))<|vAe<|zE<|zL<|zG<|zG<|zL<|zG ?_;refine vret (True)<|.inr rfl
  by_cases hjV:j<c.V.length
  ·rw[decide_eq_false (by omega)];focus
    refine zA<|vAs<|vew [] [(5,Aa)] (True/\0<2/\decide ((j:Int)<(Ab (Cs.V c):Int))=Aa)<|vF ((j:Int)<(6:Int))<|vZ2<|vA ?_;refine vr 4 (True/\0<6) ?_;refine vsp 56 (decide (Cs.n c<=(6:Int))) (λhc=>?_)<|λhc=>?_;simp only[decide_eq_true_eq]at hc;refine vew [] [(14,Ad)] (True/\0<2/\decide ((Ab (Cs.V c):Int)<=(5:Int))=Ad)<|zE<|vret (True)<|.inr rfl;simp only[decide_eq_false_iff_not]at hc;refine vr 5 (True/\0<6) ?_;refine vsp 61 (decide (Cs.n c>(32:Int))) (λhc=>?_)<|λhc=>?_;simp only[decide_eq_true_eq]at hc;refine vew [] [(14,Ad)] (True/\0<2/\decide ((Ab (Cs.V c):Int)<=(5:Int))=Ad)<|zE<|vret (True)<|.inr rfl;simp only[decide_eq_false_iff_not]at hc;refine veT<|zE<|vret (True)<|.inr rfl
  by_cases hfin:c.R.length<=5/\c.V.length<=5/\c.desc.length<=10/\c.P.length<=10/\(c.n<=6\/32<c.n)
  ·rw[decide_eq_true ⟨h3,hm5,h7,hfin⟩];obtain⟨f1,f2,f3,f4,f5⟩:=hfin;focus
    refine zA<|vAs<|vew [] [(5,Ad)] (True/\0<2/\decide ((j:Int)<(Ab (Cs.V c):Int))=Ad)<|vf<|vZ2<|vA ?_;refine vr 4 (True/\0<6) ?_;refine vsp 56 (decide (Cs.n c<=(6:Int))) (λhc=>?_)<|λhc=>?_;simp only[decide_eq_true_eq]at hc;refine vew [] [(14,Aa),(20,Aa),(26,Aa)] (True/\0<2/\decide ((Ab (Cs.V c):Int)<=(5:Int))=Aa/\True/\0<1/\decide ((Ab (Cs.R c):Int)<=(5:Int))=Aa/\True/\0<4/\decide ((Ab (Cs.desc c):Int)<=(10:Int))=Aa/\True/\0<3)<|zE ?_;refine vre (True) (Ai<|AZ<|decide ((Ab (Cs.P c):Int)<=(10:Int))) (.inr rfl) ?_;rotate_left;simp only[decide_eq_false_iff_not]at hc;refine vew [] [(8,Aa),(14,Aa),(20,Aa),(26,Aa)] (True/\0<6/\decide (Cs.n c>(32:Int))=Aa/\True/\0<2/\decide ((Ab (Cs.V c):Int)<=(5:Int))=Aa/\True/\0<1/\decide ((Ab (Cs.R c):Int)<=(5:Int))=Aa/\True/\0<4/\decide ((Ab (Cs.desc c):Int)<=(10:Int))=Aa/\True/\0<3)<|zE ?_;refine vre (True) (Ai<|AZ<|decide ((Ab (Cs.P c):Int)<=(10:Int))) (.inr rfl) ?_;rotate_left
   all_goals exact congrArg (λb=>Ai (AZ b)) (decide_eq_true (by omega))
  rw[decide_eq_false λhh=>hfin hh.2.2.2];focus
   refine zA<|vAs<|vew [] [(5,Ad)] (True/\0<2/\decide ((j:Int)<(Ab (Cs.V c):Int))=Ad)<|vf<|vZ2<|vA ?_;refine vr 4 (True/\0<6) ?_;refine vsp 56 (decide (Cs.n c<=(6:Int))) (λhc=>?_)<|λhc=>?_;simp only[decide_eq_true_eq]at hc;refine vr 11 (True/\0<2) ?_;refine vsp 67 (decide ((Ab (Cs.V c):Int)<=(5:Int))) (λhc=>?_)<|λhc=>?_;simp only[decide_eq_true_eq]at hc;refine vr 6 (True/\0<1) ?_;refine vsp 73 (decide ((Ab (Cs.R c):Int)<=(5:Int))) (λhc=>?_)<|λhc=>?_;simp only[decide_eq_true_eq]at hc;refine vr 6 (True/\0<4) ?_;refine vsp 79 (decide ((Ab (Cs.desc c):Int)<=(10:Int))) (λhc=>?_)<|λhc=>?_;simp only[decide_eq_true_eq]at hc;refine ve (True/\0<3)<|zE ?_;refine vre (True) (Ai<|AZ<|decide ((Ab (Cs.P c):Int)<=(10:Int))) (.inr rfl) ?_;rotate_left;simp only[decide_eq_false_iff_not]at hc;refine veT<|zE<|vret (True)<|.inr rfl;simp only[decide_eq_false_iff_not]at hc;refine veT<|zE<|vret (True)<|.inr rfl;simp only[decide_eq_false_iff_not]at hc;refine veT<|zE<|vret (True)<|.inr rfl;simp only[decide_eq_false_iff_not]at hc;refine vr 5 (True/\0<6) ?_;refine vsp 61 (decide (Cs.n c>(32:Int))) (λhc=>?_)<|λhc=>?_;simp only[decide_eq_true_eq]at hc;refine vr 6 (True/\0<2) ?_;refine vsp 67 (decide ((Ab (Cs.V c):Int)<=(5:Int))) (λhc=>?_)<|λhc=>?_;simp only[decide_eq_true_eq]at hc;refine vr 6 (True/\0<1) ?_;refine vsp 73 (decide ((Ab (Cs.R c):Int)<=(5:Int))) (λhc=>?_)<|λhc=>?_;simp only[decide_eq_true_eq]at hc;refine vr 6 (True/\0<4) ?_;refine vsp 79 (decide ((Ab (Cs.desc c):Int)<=(10:Int))) (λhc=>?_)<|λhc=>?_;simp only[decide_eq_true_eq]at hc;refine ve (True/\0<3)<|zE ?_;refine vre (True) (Ai<|AZ<|decide ((Ab (Cs.P c):Int)<=(10:Int))) (.inr rfl) ?_;rotate_left;simp only[decide_eq_false_iff_not]at hc;refine veT<|zE<|vret (True)<|.inr rfl;simp only[decide_eq_false_iff_not]at hc;refine veT<|zE<|vret (True)<|.inr rfl;simp only[decide_eq_false_iff_not]at hc;refine veT<|zE<|vret (True)<|.inr rfl;simp only[decide_eq_false_iff_not]at hc;refine veT<|zE<|vret (True)<|.inr rfl
  all_goals exact congrArg (λb=>Ai (AZ b)) (decide_eq_false (by omega))
 rw[decide_eq_false (by omega)];focus
  refine zA<|vAs<|vr 6 (True/\0<1) ?_;refine vsp 11 (decide ((i:Int)<(Ab (Cs.R c):Int))) (λhc=>?_)<|λhc=>?_;simp only[decide_eq_true_eq]at hc;refine veT<|vF ((i:Int)<(6:Int))<|vZ2<|zA<|vAe<|vT ((mn:Int)>(5000:Int))<|zA ?_;refine zB rfl<|veT<|zE<|zG<|vret (True)<|.inr rfl;simp only[decide_eq_false_iff_not]at hc;refine veT<|vf<|vZ2<|zA<|vAe<|vT ((mn:Int)>(5000:Int))<|zA ?_;refine zB rfl<|veT<|zE<|zG<|vret (True)<|.inr rfl
end
def Vt(v:Va):Prop:=(-9223372036854775808<=v.kind/\v.kind<=9223372036854775807)/\(-9223372036854775808<=v.int/\v.int<=9223372036854775807)
def Cs.Typ(c:Cs):Prop:=∀l∈c.R,∀x∈l,∀v∈x,Vt v
theorem Vt.vs{v:Va}(h:Vt v)(hv:vok v=Aa):Vs v:=by
 refine⟨h.1,h.2,?_⟩;unfold vok at hv;split at hv
 ·have:v.str=[]:=by simpa using hv
  rw[this];simp
 split at hv
 ·simp only[BB,decide_eq_true_eq]at hv;omega
 cases hv
def Cs.inp(c:Cs):Inp:=⟨c.n.toNat,c.f.toNat,c.desc,c.P.map Aq,(Az c.V.length).map λi=>((c.V.getD i []).map Aq,relR (c.R.getD i []))⟩
theorem atE_0{n:Int}{a:At}(h:atE n a=0):ascB a.V=Aa/\a.V.all (inB n)=Aa/\(a.V.length:Int)=a.ar:=by
 unfold atE at h;split at h
 ·omega
 split at h
 ·omega
 split at h
 ·omega
 rename_i h1 h2 h3;exact⟨by simpa using h1,by simpa using h2,by simpa using h3⟩
theorem atL_all{n:Int}:∀{L:List At},atL n L=0->∀a∈L,atE n a=0
 |[],_,a,h=>by cases h
 | b::L,h,a,ha=>by
  rw[atL]at h;split at h
  ·rename_i h1;exact absurd h h1
  rename_i h1;rcases Bs.1 ha with rfl|ha
  ·exact Ba h1
  exact atL_all h a ha
theorem asc_of{l:List Int}(h:ascB l=Aa):l.Pairwise (· <·):=by
 have key:∀l:List Int,(∀i,0<i->i<l.length->l.getD (i-1) 0<l.getD i 0)->l.Pairwise (· <·):=by
  intro l;induction l with
  |nil=>exact λ_=>List.Pairwise.nil
  | cons a l ih=>
   intro h;have h1:l.Pairwise (· <·):=ih λi h0 hi=>by
    have:=h (i+1) (by omega) (by simpa using hi)
    obtain⟨j,rfl⟩:∃j,i=j+1:=⟨i-1,by omega⟩;simpa using this
   refine List.pairwise_cons.2 ⟨λb hb=>?_,h1⟩;cases l with
   |nil=>cases hb
   | cons d l=>
    have h2:a<d:=by simpa using h 1 (by omega) (by simp)
    rcases Bs.1 hb with rfl|hb
    ·exact h2
    have:=(List.pairwise_cons.1 h1).1 b hb
    omega
 refine key l λi h0 hi=>?_;have h1:=Br.1 h i (AT.2 hi);unfold zVl at h1;rw[decide_eq_false (by omega),Bool.false_or,decide_eq_true_eq]at h1;exact h1
theorem zXz{ar:Int}:∀{L:List Rw},accL ar L=0->∀x∈L,(x.length:Int)=ar/\x.all vok=Aa
 |[],_,a,h=>by cases h
 | b ::L,h,a,ha=>by
  rw[accL]at h;split at h
  ·rename_i h1;exact absurd h h1
  rename_i h1;rcases Bs.1 ha with rfl|ha
  ·have h2:accE ar a=0:=Ba h1;unfold accE at h2;split at h2
   ·omega
   split at h2
   ·rename_i h3 h4;exact⟨by omega,h4⟩
   omega
  exact zXz h a ha
theorem foldl_r:∀(l:List Nat)(a:Nat),l.foldl (· *·) a=a*l.foldr (· *·) 1
 |[],a=>by simp
 |b::l,a=>by rw[Bw,foldl_r l (a*b),BC,BH]
section
variable {c : Cs} (hl : c.V.length = c.R.length) (he : ∀ i, i < c.V.length → c.err i = 0) (hc : icE c.n c.f c.desc.length c.P (c.ats c.V.length) = 0)
include hc
theorem Cs.ic:0<=c.n/\c.n<=32/\0<=c.f/\c.f<=c.n/\(c.desc.length:Int)=c.f/\(c.P.length:Int)=c.n-c.f/\pany c.f c.n c.P=Ad/\lfE c.n (c.ats c.V.length)=0:=by
 unfold icE at hc;split at hc
 ·omega
 split at hc
 ·omega
 split at hc
 ·omega
 rename_i h1 h2 h3;exact⟨by omega,by omega,by omega,by omega,by omega,by omega,by simpa using h3,hc⟩
theorem Cs.lf:c.V.length<=32/\atL c.n (c.ats c.V.length)=0/\(useP c.n.toNat (c.ats c.V.length) []).contains Ad=false:=by
 obtain⟨_,_,_,_,_,_,_,h⟩:=Cs.ic hc;unfold lfE at h;rw[Cs.ats_len]at h;split at h
 ·omega
 split at h
 ·omega
 split at h
 ·rename_i h1 h2 h3;exact absurd h h3
 split at h
 ·omega
 rename_i h1 h2 h3 h4;exact⟨by omega,Ba h3,by simpa using h4⟩
theorem Cs.perm:(∀z∈c.P,c.f<=z/\z<c.n)/\c.P.Nodup:=by
 obtain⟨_,_,_,_,_,_,h,_⟩:=Cs.ic hc;unfold pany at h;have hp:∀i,i<c.P.length->¬c.P.getD i 0<c.f/\¬c.n<=c.P.getD i 0/\c.P.getD i 0∉c.P.take i:=λi hi=>by
  have:=List.any_eq_false.1 h i (AT.2 hi)
  unfold pbad at this;simp only[BR,decide_eq_true_eq,not_or]at this;exact⟨this.1.1,this.1.2,this.2⟩
 constructor
 ·intro z hz;obtain⟨i,hi,rfl⟩:=Bc hz;obtain⟨h1,h2,_⟩:=hp i hi;rw[As,AA hi,AV]at h1 h2;omega
 rw[BE,BV];intro i j hi hj hij e;obtain⟨_,_,h3⟩:=hp j hj;rw[As,AA hj,AV,<-e]at h3;exact h3 (B3.2 ⟨i,by omega,rfl⟩)
theorem Cs.vars{i:Nat}(hi:i<c.V.length):(c.V.getD i []).Pairwise (· <·)/\∀z∈c.V.getD i [],0<=z/\z<c.n:=by
 obtain⟨_,h1,_⟩:=Cs.lf hc;have h2:=atE_0 (atL_all h1 (c.at i) (AO.2 ⟨i,AT.2 hi,rfl⟩));refine⟨asc_of h2.1,λz hz=>?_⟩
 have:=Br.1 h2.2.1 z hz
 unfold inB at this;simpa using this
include hl he in
theorem Cs.inp_ok(hf:c.Few)(ht:c.Typ):c.inp.Ok:=by
 obtain⟨i1,i2,i3,i4,i5,i6,i7,i8⟩:=Cs.ic hc;obtain⟨l1,l2,l3⟩:=Cs.lf hc;obtain⟨p1,p2⟩:=Cs.perm hc;have hn6:c.n<=6:=by rcases hf.n with h|h<;>omega
 have hAl:c.inp.A.length=c.V.length:=by simp[Cs.inp]
 have hAt:∀i,i<c.V.length->c.inp.A.getD i Ak=((c.V.getD i []).map Aq,relR (c.R.getD i [])):=λi hi=>by
  unfold Cs.inp;rw[As,Bf,A6 hi];rfl
 have hrow:∀i,i<c.V.length->(c.R.getD i []).length<=10/\∀x∈c.R.getD i [],x.length=(c.V.getD i []).length/\∀v∈x,vok v=Aa/\Vs v:=λi hi=>by
  have hm:c.R.getD i []∈c.R:=by rw[As,AA (by omega)];exact A2 _
  refine⟨hf.r _ hm,λx hx=>?_⟩;have h1:=he i hi;unfold Cs.err rofA at h1;split at h1
  ·omega
  unfold rofE at h1;split at h1
  ·rename_i h2;exact absurd h1 h2
  rename_i h2;have h3:accL ((c.V.getD i []).length:Nat) (c.R.getD i [])=0:=Ba h2;obtain⟨q1,q2⟩:=zXz h3 x hx;refine⟨by omega,λv hv=>?_⟩;have h4:=Br.1 q2 v hv;exact⟨h4,(ht _ hm x hx v hv).vs h4⟩
 refine⟨?_,?_,?_,?_,λv hv=>?_,?_,by rw[hAl];exact hf.V,?_,λa ha=>?_,?_⟩
 ·show c.n.toNat<=6;omega
 ·show c.f.toNat<=c.n.toNat;omega
 ·show c.desc.length=c.f.toNat;omega
 ·show(c.P.map Aq).length+c.f.toNat=c.n.toNat;rw[AR];omega
 ·obtain⟨z,hz,rfl⟩:=AO.1 hv
  have:=p1 z hz
  show c.f.toNat<=z.toNat/\z.toNat<c.n.toNat;omega
 ·show(c.P.map Aq).Nodup;rw[BE,BF];exact p2.imp_of_mem λ{x y} hx hy hne e=>by
   have:=p1 x hx
   have:=p1 y hy
   exact hne (by omega)
 ·rw [hAl];refine⟨λi hi=>?_,λi hi w hw=>?_,λv hv=>?_⟩
  ·rw[hAt i hi];obtain⟨q1,q2⟩:=Cs.vars hc hi;exact BF.2 (q1.imp_of_mem λ{x y} hx hy h=>by have:=q2 x hx;have:=q2 y hy;omega)
  ·rw[hAt i hi]at hw;obtain⟨z,hz,rfl⟩:=AO.1 hw
   have:=(Cs.vars hc hi).2 z hz
   show z.toNat<c.n.toNat;omega
  have hv:v<c.n.toNat:=hv;have h1:(useP c.n.toNat (c.ats c.V.length) []).getD v Aa=true:=by
   cases e:(useP c.n.toNat (c.ats c.V.length) []).getD v Aa with
   |true=>rfl
   |false=>
    have hlen:=zKl c.n.toNat (c.ats c.V.length) [];rw[As,AA (by omega),AV]at e;have:(useP c.n.toNat (c.ats c.V.length) []).contains Ad=true:=List.contains_iff_mem.2 (e▸A2 _);rw[l3]at this;cases this
  unfold useP at h1;rw[As,Bf,A6 hv,Option.map_some,AV]at h1;simp only[BW,decide_false,BA,List.any_eq_true,decide_eq_true_eq]at h1;obtain⟨a,ha,hm⟩:=h1;obtain⟨i,hi,rfl⟩:=AO.1 ha;have hi:=AT.1 hi;refine⟨i,hi,?_⟩;rw[hAt i hi];exact AO.2 ⟨(v:Int),hm,by omega⟩
 ·obtain⟨i,hi,rfl⟩:=AO.1 ha;have hi:=AT.1 hi;obtain⟨q1,q2⟩:=hrow i hi;refine⟨AN (zHq _) q1,zV8 _,λx hx=>?_⟩
  have:=q2 x (zKr.1 hx)
  exact⟨by rw[this.1];simp,this.2⟩
 have h1:=hf.C;rw[foldl_r,Nat.one_mul]at h1;refine AN ?_ h1;have e:c.R=(Az c.V.length).map λi=>c.R.getD i []:=by
  apply BD (by simp[hl]);intro i h1 h2;simp[As,h1]
 unfold combs Cs.inp;rw[e,AU,AU];refine zTa _ _ _ λi hi=>?_;have hi:=AT.1 hi;have e2:((Az c.V.length).map λi=>c.R.getD i []).getD i []=c.R.getD i []:=by rw[<-e]
 show max 1 (relR (((Az c.V.length).map λi=>c.R.getD i []).getD i [])).length<=max 1 (c.R.getD i []).length;rw[e2]
 have:=zHq (c.R.getD i [])
 omega
theorem Cs.inp_n:(c.inp.n:Int)=c.n/\(c.inp.f:Int)=c.f:=by
 obtain⟨i1,i2,i3,_⟩:=Cs.ic hc;exact⟨by show((c.n.toNat:Nat):Int)=c.n;omega,by show((c.f.toNat:Nat):Int)=c.f;omega⟩
theorem Cs.inp_P:nsD c.inp.P=c.P.map λz=>iD z:=by
 obtain⟨p1,_⟩:=Cs.perm hc;obtain⟨_,_,i3,_⟩:=Cs.ic hc;show(c.P.map Aq).map (λv:Nat=>iD (v:Int))=_;rw[AU];exact A8 λz hz=>by have:=p1 z hz;show iD ((z.toNat:Nat):Int)=iD z;rw[show((z.toNat:Nat):Int)=z by omega]
theorem Cs.inp_V:(c.inp.A.map (·.1)).map (λV=>Ae (nsD V) V.length)=c.V.map zBr:=by
 have e:c.V=(Az c.V.length).map λi=>c.V.getD i []:=by
  apply BD (by simp);intro i h1 h2;simp[As,h1]
 conv=>rhs;rw[e]
 unfold Cs.inp;rw[AU,AU,AU];refine A8 λi hi=>?_;have hi:=AT.1 hi;show Ae (((c.V.getD i []).map Aq).map λv:Nat=>iD (v:Int)) ((c.V.getD i []).map Aq).length=zBr (c.V.getD i []);rw[AU,AR];congr 1;exact A8 λz hz=>by have:=(Cs.vars hc hi).2 z hz;show iD ((z.toNat:Nat):Int)=iD z;rw[show((z.toNat:Nat):Int)=z by omega]
theorem Cs.inp_A:c.inp.A.flatMap atR=(c.ats c.V.length).flatMap atC:=by
 unfold Cs.inp Cs.ats;rw[BI,BI,Bv,Bv];refine congrArg List.flatten (A8 λi hi=>?_);have hi:=AT.1 hi;show[Ae (((c.V.getD i []).map Aq).map λv:Nat=>iD (v:Int)) ((c.V.getD i []).map Aq).length,iD (((c.V.getD i []).map Aq).length:Nat),_]=[Ae ((c.V.getD i []).map λz=>iD z) (c.V.getD i []).length,iD ((c.V.getD i []).length:Nat),_];rw[AU,AR];congr 2;exact A8 λz hz=>by have:=(Cs.vars hc hi).2 z hz;show iD ((z.toNat:Nat):Int)=iD z;rw[show((z.toNat:Nat):Int)=z by omega]
theorem Cs.inp_D:inpN c.inp.b=inpD c.n c.f c.desc c.P (c.ats c.V.length):=by
 obtain⟨h1,h2⟩:=Cs.inp_n hc;show AE [iD (c.inp.n:Nat),iD (c.inp.f:Nat), .row (c.desc.map bD) c.desc.length, .row (nsD c.inp.P) c.inp.P.length, .row (c.inp.A.flatMap atR) c.inp.A.length]=_;rw[h1,h2,Cs.inp_P hc,Cs.inp_A hc];have e1:c.inp.P.length=c.P.length:=by simp[Cs.inp]
 have e2:c.inp.A.length=(c.ats c.V.length).length:=by rw[Cs.ats_len];simp[Cs.inp]
 rw[e1,e2]
end
section
set_option maxRecDepth 100000
section
variable {B : Nat}
theorem zW9{P:Program}{n:Nat}{t e:TypeId}(hu:P.underlying t=Aw (.slice e))(he:P.underlying e=Aw (.int .i64)){ds:List D}(h:ShpB P B n t ds):∃l:List Int,ds=[zBr l]/\l.length<=B:=by
 obtain⟨m,ls,rfl,h1,hB⟩:=zEj hu h;obtain⟨bs,h2,h3,h4⟩:=zEr (g:=λz:Int=>iD z) (Q:=λx=>True) λx hx=>by
  obtain⟨z,rfl,h5⟩:=zLc he (h1 x hx);exact⟨z,rfl,trivial⟩
 exact⟨bs,by rw[h2,<-h3],by omega⟩
theorem in_vaB{n:Nat}{ds:List D}(h:ShpB Al B n 64 ds):∃a:Va,ds=vaC a/\Vt a:=by
 obtain⟨hl,m,hf⟩:=zM7 Tryz.underlying64 h;rw[show Al.cellsOf 64=3 by kernel_rfl]at hl;match ds,hl with
 |[a,b,c],_=>
  have c3:Al.cellsOf 3=1:=by kernel_rfl
  have c4:Al.cellsOf 2=1:=by kernel_rfl
  have c5:Al.cellsOf 9=1:=by kernel_rfl
  simp only[Bs,BW,or_false,forall_eq_or_imp,forall_eq,c3,c4,c5,AW,List.drop_succ_cons,List.take_succ_cons,List.take_zero]at hf;obtain⟨g0,g1,g2⟩:=hf;obtain⟨x2,e2,k2⟩:=zLc Tryz.underlying3 g0;obtain⟨x3,e3,k3⟩:=zLc Tryz.underlying2 g1;obtain⟨x4,e4,k4⟩:=zX8 Tryz.underlying9 g2;simp only[List.cons.injEq,and_true]at e2 e3 e4;subst e2 e3 e4;simp only[inK]at k2 k3;exact⟨⟨x2,x3,x4.data.toList⟩,rfl,⟨k2.1,k2.2⟩,⟨k3.1,k3.2⟩⟩
theorem in_rowB{n:Nat}{ds:List D}(h:ShpB Al B n 54 ds):∃x:Rw,ds=[rowV x]/\x.length<=B/\∀a∈x,Vt a:=by
 obtain⟨m,ls,rfl,h1,hB⟩:=zEj Tryz.underlying54 h;obtain⟨bs,h2,h3,h4⟩:=zRp (g:=vaC) (Q:=Vt) λx hx=>in_vaB (h1 x hx);exact⟨bs,by rw[h2,<-h3];rfl,by omega,h4⟩
theorem in_rowsB{n:Nat}{ds:List D}(h:ShpB Al B n 65 ds):∃l:List Rw,ds=[zC1 l]/\l.length<=B/\∀x∈l,x.length<=B/\∀a∈x,Vt a:=by
 obtain⟨m,ls,rfl,h1,hB⟩:=zEj Tryz.underlying65 h;obtain⟨bs,h2,h3,h4⟩:=zEr (g:=rowV) (Q:=λx=>x.length<=B/\∀a∈x,Vt a) λx hx=>in_rowB (h1 x hx);exact⟨bs,by rw[h2,<-h3],by omega,h4⟩
theorem arg_case{d:D}(hB:B<=2000000)(h:ArgB Al B 27 d):∃c:Cs,d= .agg (csC c)/\c.Small/\c.Typ:=by
 obtain⟨n,ds,rfl,h'⟩:=h.agg (by kernel_rfl);clear h;obtain⟨hl,m,hf⟩:=zM7 Tryz.underlying27 h';rw[show Al.cellsOf 27=6 by kernel_rfl]at hl;match ds,hl with
 | [a,b,c,d,e,f],_=>
  have c3:Al.cellsOf 3=1:=by kernel_rfl
  have c4:Al.cellsOf 22=1:=by kernel_rfl
  have c5:Al.cellsOf 23=1:=by kernel_rfl
  have c6:Al.cellsOf 24=1:=by kernel_rfl
  have c7:Al.cellsOf 25=1:=by kernel_rfl
  simp only[Bs,BW,or_false,forall_eq_or_imp,forall_eq,c3,c4,c5,c6,c7,AW,List.drop_succ_cons,List.take_succ_cons,List.take_zero]at hf;obtain⟨g0,g1,g2,g3,g4,g5⟩:=hf;obtain⟨z0,e0,_⟩:=zLc Tryz.underlying3 g0;obtain⟨z1,e1,_⟩:=zLc Tryz.underlying3 g1;obtain⟨_,l2,e2,k2,b2⟩:=zEj Tryz.underlying22 g2;obtain⟨desc,q2,r2,_⟩:=zEr (g:=bD) (Q:=λ_=>True) λx hx=>by
   obtain⟨b,rfl⟩:=shp_bool Tryz.underlying4 (k2 x hx);exact⟨b,rfl,trivial⟩
  obtain⟨P,e3,b3⟩:=zW9 Tryz.underlying23 Tryz.underlying3 g3;obtain⟨_,l4,e4,k4,b4⟩:=zEj Tryz.underlying24 g4;obtain⟨V,q4,r4,s4⟩:=zEr (g:=zBr) (Q:=λl=>l.length<=B) λx hx=>zW9 Tryz.underlying23 Tryz.underlying3 (k4 x hx);obtain⟨_,l5,e5,k5,b5⟩:=zEj Tryz.underlying25 g5;obtain⟨R,q5,r5,s5⟩:=zEr (g:=zC1) (Q:=λl=>l.length<=B/\∀x∈l,x.length<=B/\∀a∈x,Vt a) λx hx=>in_rowsB (k5 x hx);simp only[List.cons.injEq,and_true]at e0 e1 e2 e3 e4 e5;subst e0 e1 e2 e3 e4 e5;refine⟨⟨z0,z1,desc,P,V,R⟩,?_,⟨?_,?_,?_,?_,?_,?_⟩,λl hl x hx=>((s5 l hl).2 x hx).2⟩
  ·rw[q2,q4,q5,<-r2,<-r4,<-r5]
  ·show desc.length<=_;omega
  ·show P.length<=_;omega
  ·show V.length<=_;omega
  ·show R.length<=_;omega
  ·exact λl hl=>by have:=s4 l hl;omega
  exact λl hl=>⟨by have:=(s5 l hl).1;omega,λx hx=>by have:=((s5 l hl).2 x hx).1;omega⟩
end
end
section
attribute [local irreducible] seqW awp zAe zAn zAd Weak updS zAv retL Pure Acts rP setP setQ cP nP fr
set_option maxRecDepth 4096
theorem lfAll_c(n:Int)(ats:List At)(h0:0<=n)(hn:n<=32)(hl:∀a∈ats,a.V.length<=2000000):Pure Al 14 [iD n, .row (ats.flatMap atC) ats.length] [] (iD (lfE n ats)):=by
 obtain⟨k,rfl⟩:∃k:Nat,n=(k:Int):=⟨n.toNat,by omega⟩;unfold lfE;rw[if_neg (by omega)];by_cases hm:32<ats.length
 ·rw[if_pos hm];exact lfMany_c k _ _ h0 hn hm
 rw[if_neg hm,AM];exact zRq k ats (by omega) (by omega) hl
theorem Cs.ats_v{c:Cs}(h:c.Small){m:Nat}(hm:m<=c.V.length):∀a∈c.ats m,a.V.length<=2000000:=λa ha=>by
 obtain⟨i,hi,rfl⟩:=AO.1 ha;have hi:=AT.1 hi;refine h.v _ ?_;show c.V.getD i []∈c.V;rw[As,AA (by omega)];exact A2 _
theorem zNu(c:Cs)(h:c.Small){m:Nat}(hm:m<=c.V.length):Pure Al 16 [inpD c.n c.f c.desc c.P (c.ats m)] [] (iD (icE c.n c.f c.desc.length c.P (c.ats m))):=by
 have hv:=Cs.ats_v h hm;have hV:=h.V;exact icheck_c c.n c.f c.desc c.P (c.ats m) h.d h.P (by rw[Cs.ats_len];omega) hv λh0 h1=>lfAll_c c.n _ h0 h1 hv
theorem zY9(c:Cs)(h:c.Small):∃(m:Nat)(ok:Bool),m<=c.V.length/\(ok=Aa↔c.V.length=c.R.length/\(∀i,i<c.V.length->c.err i=0)/\icE c.n c.f c.desc.length c.P (c.ats c.V.length)=0)/\(ok=Aa->m=c.V.length)/\
  Pure Al 20 [.agg (csC c)] [] (.tup [inpD c.n c.f c.desc c.P (c.ats m),bD ok]):=by
 obtain⟨m,ok,h1,h2,h3,h4,h5⟩:=make_c c h;have hck:=zNu c h h1;cases ok
 ·refine⟨m,Ad,h1,⟨λhh=>(by cases hh),λhh=>?_⟩,λhh=>(by cases hh),?_⟩
  ·exact h3.2 ⟨hh.1,hh.2.1⟩
  generalize c.ats m=ats at*;refine zF zA8 mixed Tryz.func20 rfl ?_;refine vAu<|vA<|vr 1 (6<=6)<|vc h5<|ve (0<2/\1<2/\Ad=Ad/\Aa=Aa/\5=5/\5<=5)<|zA<|vd [1,2,0,3,4,5,6,7,8]<|ve (5<=5/\Ad=Ad/\Aa=Aa/\5=5/\5<=5)<|zE<|vret (5<=5)<|.inr rfl
 have hm:=h4 rfl;obtain⟨q1,q2⟩:=h3.1 rfl;by_cases hz:icE c.n c.f c.desc.length c.P (c.ats m)=0
 ·refine⟨m,Aa,h1,⟨λ_=>⟨q1,q2,hm▸hz⟩,λ_=>rfl⟩,λ_=>hm,?_⟩;rw[hz]at hck;generalize c.ats m=ats at*;refine zF zA8 mixed Tryz.func20 rfl ?_;focus
   refine vAu<|vA<|vr 1 (6<=6)<|vca [AE [iD<|Cs.n c,iD<|Cs.f c,(q40_ c),Ae (Ah (λ(z:Int)=>iD z)<|Cs.P c)<|Ab<|Cs.P c,(q41_ c),(q42_ c)]] (by(first|exact h5|exact hck))<|ve (0<2/\1<2/\Ad=Ad/\Aa=Aa/\5=5/\5<=5)<|zA<|vd [1,2,0,3,4,5,6,7,8]<|vr 4 (5<=5/\5<=5)<|vca [AE [iD<|Cs.n c,iD<|Cs.f c,(q40_ c),Ae (Ah (λ(z:Int)=>iD z)<|Cs.P c)<|Ab<|Cs.P c,Ae (Ap atC ats)<|Ab ats]] (by(first|exact h5|exact hck))<|ve (True/\Ad=Ad/\Aa=Aa/\5=5/\5<=5) ?_;refine zE<|vret (5<=5)<|.inr rfl
 refine⟨m,Ad,h1,⟨λhh=>(by cases hh),λhh=>absurd (hm▸hh.2.2) hz⟩,λhh=>(by cases hh),?_⟩;generalize icE c.n c.f c.desc.length c.P (c.ats m)=e at*;generalize c.ats m=ats at*;have hze:(e==0)=false:=by simpa using hz
 refine zF zA8 mixed Tryz.func20 rfl ?_;focus
  refine vAu<|vA<|vr 1 (6<=6)<|vca [AE [iD<|Cs.n c,iD<|Cs.f c,(q40_ c),Ae (Ah (λ(z:Int)=>iD z)<|Cs.P c)<|Ab<|Cs.P c,(q41_ c),(q42_ c)]] (by(first|exact h5|exact hck))<|ve (0<2/\1<2/\Ad=Ad/\Aa=Aa/\5=5/\5<=5)<|zA<|vd [1,2,0,3,4,5,6,7,8]<|vr 4 (5<=5/\5<=5)<|vca [AE [iD<|Cs.n c,iD<|Cs.f c,(q40_ c),Ae (Ah (λ(z:Int)=>iD z)<|Cs.P c)<|Ab<|Cs.P c,Ae (Ap atC ats)<|Ab ats]] (by(first|exact h5|exact hck))<|vrT 1 ?_;refine vs 16 (bD (e==(0:Int))) (bD Ad) (by simp(disch:=omega) only[hze])<|ve (Ad=Ad/\Aa=Aa/\5=5/\5<=5)<|zE<|vret (5<=5)<|.inr rfl
theorem look_p(z:D)(K:List (List Va×Nat))(r:List Va):zRo Aa z (K.map λp=>kyv p.1) (K.map λp=>iD ((p.2:Nat):Int)) (kyv r)=match tlk K r with
  |some w=> .tup [iD ((w:Nat):Int),bD Aa]
  |none=> .tup [z,bD Ad]:=by
 induction K with
 |nil=>rfl
 | cons p K ih=>
  unfold zRo zEo tlk at*;rw[A_,A_,List.findIdx?_cons,zVr,List.find?_cons];by_cases h:r=p.1
  ·rw[decide_eq_true h];rfl
  rw[decide_eq_false h];simp only[if_neg Bool.false_ne_true];rw[<-ih];cases e:(K.map λp=>kyv p.1).findIdx? (vEq (kyv r))<;>simp[ctD,As]
theorem pt_nd(l:List Bu)(hn:(l.map (·.key)).Nodup):∀j,j<=l.length->ptI l j=(Az j).map λi=>((l.getD i Ak).key,i)
 |0,_=>rfl
 | j+1,h=>by
  rw[ptI,pt_nd l hn j (by omega),List.range_succ,Bi,tput];rw[List.findIdx?_eq_none_iff.2 λx hx=>?_]
  ·rfl
  obtain⟨i,hi,rfl⟩:=AO.1 hx;have hi:=AT.1 hi;rw[decide_eq_false_iff_not];intro e;have h1:(l.map (·.key))[j]'(by simp;omega)=(l.map (·.key))[i]'(by simp;omega):=by
   have e1:(l.getD j Ak).key=(l.getD i Ak).key:=e;rw[As,As,AA (by omega),AA (by omega)]at e1;simpa using e1
  exact(BV.1 hn i j (by simp;omega) (by simp;omega) hi) h1.symm
theorem pt_at(l:List Bu)(hn:(l.map (·.key)).Nodup){p:Nat}(hp:p<l.length):tlk (ptI l l.length) (l.getD p Ak).key=Aw p:=by
 rw[pt_nd l hn _ (AP _),tlk];have:((Az l.length).map λi=>((l.getD i Ak).key,i)).find? (λq=>decide ((l.getD p Ak).key=q.1))=Aw ((l.getD p Ak).key,p):=by
  rw[List.find?_eq_some_iff_getElem];refine⟨by simp,p,by simpa using hp,by simp,λj hj=>?_⟩;simp only[List.getElem_map,List.getElem_range,Bool.not_eq_true',decide_eq_false_iff_not];intro e;have h1:(l.map (·.key))[p]'(by simp;omega)=(l.map (·.key))[j]'(by simp;omega):=by
   rw[As,As,AA (by omega),AA (by omega)]at e;simpa using e
  exact(BV.1 hn j p (by simp;omega) (by simp;omega) hj) h1.symm
 rw[this];rfl
section
variable (desc : List Bool) (L : List Bg) (U : Nat → List Bu) (tot : Nat)
theorem ifree_c(v:Int)(hd:desc.length<=1000000):Pure Al 58 [ixD desc L U tot,iD v] [] (bD (decide (0<=v)&&decide (v<(desc.length:Int)))):=free_c desc _ rfl _ _ _ _ _ _ tot v hd
theorem zW5(ht:Sm tot):Pure Al 19 [ixD desc L U tot] [] (natD tot):=by
 have hn:=zPs tot ht;refine zF zA8 mixed Tryz.func19 rfl ?_;refine vAu<|vA<|vr 2 (True/\0<1)<|vc hn<|veT<|zE<|vret (True)<|.inr rfl
theorem zNy(v:Nat)(p n:Nat)(hn:((U v).getD p Ak).key.length=n)(hl:n<=10000)(hs:∀x∈((U v).getD p Ak).key,Vs x)(hd:desc.length<=1000000)(hv:v<desc.length)(hu:((U v).map (·.key)).Nodup)(hp:p<(U v).length)(hb:(U v).length<=1000000):Pure Al 21 [ixD desc L U tot,iD (v:Nat), .row (zJ ((U v).getD p Ak).key) n] [] (.tup [zK6 ((U v).getD p Ak).desc ((U v).getD p Ak).t,bD Aa]):=by
 have hf:=ifree_c desc L U tot (v:Nat) hd;rw[show(decide (0<=((v:Nat):Int))&&decide (((v:Nat):Int)<(desc.length:Int)))=Aa by rw[BB,decide_eq_true_eq,decide_eq_true_eq];omega]at hf;have hid:=zC2 _ n hn (by omega) hs;have hlk:=look_p (iD 0) (ptI (U v) (U v).length) ((U v).getD p Ak).key;rw[pt_at _ hu hp]at hlk;dsimp only at hlk;have hg:((fA desc.length λc=>zDa (U c)).drop v).headD .unk=zDa (U v):=by rw[zEf hv]
 have hpo:=zCe (g:=λc=>zDa (U c)) hv;have hg2:((fA desc.length λc=>busD (U c)).drop v).headD .unk=busD (U v):=by rw[zEf hv]
 have hpo2:=zCe (g:=λc=>busD (U c)) hv;have hg3:=zCp zCh (U v) p hp;have hle:=zEe zCh (U v) p hp;have hne:=zDc zCh (by decide) (U v) (by omega);have hg4:Au 2 (Ao 1 (Ao (p*3) ((U v).flatMap buC)))=[bD ((U v).getD p Ak).desc,((U v).getD p Ak).t.x]:=by
  rw[<-List.drop_take (i:=1) (j:=3),hg3];rfl
 have hle2:2<=(Ao 1 (Ao (p*3) ((U v).flatMap buC))).length:=by rw[List.length_drop];omega
 generalize (U v).getD p Ak=b at*;refine zF zA8 mixed Tryz.func21 rfl ?_;focus
  refine vAu (zA (vA (vr 2 (5<=5) (vca [AE [Ae (Ah bD desc) (Ab desc),(q38_ L),Ae (fA (Ab desc) λ(c:Nat)=>busD (U c)) (Ab desc),Ae (fA (Ab desc) λ(c:Nat)=>zDa (U c)) (Ab desc),natD tot],iD v] (by(first|exact hf|exact hid)) (veT (vf (vK ?_)))))));refine zA (vd [0,2,5,1,3,4,6,7,8,9,10,11,12] (vr 5 (True/\0<2/\ix ↑v ↑(Ab desc) ((fA (Ab desc) λ(c:Nat)=>zDa (U c))≠[])) (vp 19 v (fA (Ab desc) λ(c:Nat)=>zDa (U c)) (vr 1 (0<Ab (Ao v (fA (Ab desc) λ(c:Nat)=>zDa (U c)))) (vsh 20 hg (vca [Ae (zJ (Bu.key b)) n] (by(first|exact hf|exact hid)) (vr 1 (zX (TypeInfo.desc (TypeInfo.mk TypeDesc.string "string" 1 16 Aa 8 8 (Aw (Value.string (ByteArray.mk #[]))) Aa #[])) (Value.string (bs (idR (Bu.key b))))=Aa/\List.all (Ah (λ(p:List Va×Nat)=>kyv (AC p)) (ptI (U v) (Ab (U v)))) (zX (TypeInfo.desc (TypeInfo.mk TypeDesc.string "string" 1 16 Aa 8 8 (Aw (Value.string (ByteArray.mk #[]))) Aa #[])))=Aa) (vsh 23 hlk (ve (0<2/\1<2) (zA (vAe ?_)))) ⟨(by kernel_rfl),(by exact zG8 _)⟩))))) ⟨trivial,(by omega),⟨(by omega),⟨(by omega),(by exact fA_ne hv)⟩⟩⟩));refine vf (vK (vA (vr 4 (True/\0<3/\ix ↑v ↑(Ab desc) ((fA (Ab desc) λ(c:Nat)=>busD (U c))≠[])) (vp 32 v (fA (Ab desc) λ(c:Nat)=>busD (U c)) (vr 1 (0<Ab (Ao v (fA (Ab desc) λ(c:Nat)=>busD (U c)))) (vsh 33 hg2 (vr 4 (ix ↑p (Ab (U v):Int) (Ap buC (U v)≠[])/\True/\2<=Ab (Ao 1 (Ao (p*3) (Ap buC (U v))))) (vs 37 (AE (Au 2 (Ao 1 (Ao (p*3) (Ap buC (U v)))))) (AE [bD (Bu.desc b),WT.x (Bu.t b)]) (by simp(disch:=omega) only[hg4]) (ve (Ad=Ad/\Aa=Aa/\2=2/\2<=2) (zE ?_))))))) ⟨trivial,(by omega),⟨(by omega),⟨(by omega),(by exact fA_ne hv)⟩⟩⟩)));refine vret (2<=2) (.inr rfl)
end
end
section
set_option maxRecDepth 100000
def nm(z:Int):Va:=⟨1,z,[]⟩
def exR:List (List Rw):=[[[nm 1,nm 1],[nm 1,nm 2],[nm 2,nm 2]],[[nm 1,nm 7],[nm 2,nm 7],[nm 2,nm 8]]]
def ex1:Cs:=⟨3,3,[Ad,Ad,Ad],[],[[0,1],[1,2]],exR⟩
def ex2:Cs:=⟨3,1,[Ad],[2,1],[[0,1],[1,2]],exR⟩
theorem exR_t:∀l∈exR,∀x∈l,∀v∈x,Vt v:=by unfold Vt;decide+kernel
theorem ex1_s:ex1.Small:=⟨by decide,by decide,by decide,by decide,by decide,by decide⟩
theorem ex2_s:ex2.Small:=⟨by decide,by decide,by decide,by decide,by decide,by decide⟩
theorem ex1_f:ex1.Few:=⟨by decide,by decide,by decide,by decide,by decide,by decide,by decide,by decide⟩
theorem ex2_f:ex2.Few:=⟨by decide,by decide,by decide,by decide,by decide,by decide,by decide,by decide⟩
theorem ex1_v:ex1.V.length=ex1.R.length/\(∀i,i<ex1.V.length->ex1.err i=0)/\icE ex1.n ex1.f ex1.desc.length ex1.P (ex1.ats ex1.V.length)=0:=by decide+kernel
theorem ex2_v:ex2.V.length=ex2.R.length/\(∀i,i<ex2.V.length->ex2.err i=0)/\icE ex2.n ex2.f ex2.desc.length ex2.P (ex2.ats ex2.V.length)=0:=by decide+kernel
theorem ex1_t:ex1.inp.tot=5:=by decide+kernel
theorem ex2_t:ex2.inp.tot=2:=by decide+kernel
theorem ex1_0:(ex1.inp.U 0).length=1/\((ex1.inp.U 0).getD 0 Ak).key=[]/\((ex1.inp.U 0).getD 0 Ak).desc=Ad/\((ex1.inp.U 0).getD 0 Ak).t.look Ad (nm 1)=Aw 3:=by decide+kernel
theorem ex1_2:(ex1.inp.U 2).length=2/\((ex1.inp.U 2).getD 1 Ak).key=[nm 2]/\((ex1.inp.U 2).getD 1 Ak).desc=Ad/\((ex1.inp.U 2).getD 1 Ak).t.sz=2:=by decide+kernel
theorem ex1_k:((ex1.inp.U 0).getD 0 Ak).t.sz<=10/\((ex1.inp.U 0).getD 0 Ak).t.tot<=2^10:=by decide+kernel
theorem ex1_n:((ex1.inp.U 0).map (·.key)).Nodup/\((ex1.inp.U 2).map (·.key)).Nodup:=by decide+kernel
end
section
attribute [local irreducible] seqW awp zAe zAn zAd Weak updS zAv retL Pure Acts rP setP setQ cP nP fr
set_option maxRecDepth 4096
theorem zHt(z:Int):Pure Al 43 [iD z] [] (vaD (nm z)):=by
 refine zF zA8 mixed Tryz.func43 rfl ?_;refine vAu<|vA<|ve (((1=1/\1<=3/\1=1/\2<=3/\True)/\Aa=Aa)/\Ad=Ad/\Aa=Aa/\3=3/\3<=3)<|zE<|vret (3<=3)<|.inr rfl
def Tex:Par:=⟨λ_=>Ad,λ_ _=>AQ,λ_=>Ad,λ_=>Ad,λt=>t==54||t==23||t==65⟩
theorem Tex_ok:zBd Al Tex:=by intro t n f h;cases h
theorem zR8:Pure Al 47 [] [] (.agg (csC ex1)):=by
 refine zF Tex_ok mixed Tryz.func47 rfl ?_;focus
  refine vAu<|zA<|vd [0,1,2,3,4,5,6,7,8,9,10,11,12,13,14,15,16,17,18,19,20,21,22,23,24,25,26]<|vr 4 (((0:Int)<=(3:Int)/\(3:Int)<=(3:Int)/\(↑(1:Nat):Int)*(3:Int)<=(281474976710656:Int)/\(3:Int)<=(281474976710656:Int)/\0<1/\1=1)/\((1=1/\1<=2/\1=1/\2<=2/\True)/\0<1/\1=1/\2<=16777216/\2<=9223372036854775807)/\((1=1/\1<=2/\1=1/\2<=2/\True)/\0<1/\1=1/\2<=16777216/\2<=9223372036854775807)/\(1=1/\1<=2/\1=1/\2<=2/\True)/\0<1/\1=1/\2<=16777216/\2<=9223372036854775807)<|vc (zHt 1)<|vc (zHt 1)<|vr 1 ((3=3/\3<=6/\3=3/\6<=6/\True)/\0<3/\3=3/\6<=16777216/\2<=9223372036854775807)<|vc (zHt 1)<|vc (zHt 2)<|vr 1 ((3=3/\3<=6/\3=3/\6<=6/\True)/\0<3/\3=3/\6<=16777216/\2<=9223372036854775807)<|vc (zHt 2) ?_;refine vc (zHt 2)<|vr 2 (((3=3/\3<=6/\3=3/\6<=6/\True)/\0<3/\3=3/\6<=16777216/\2<=9223372036854775807)/\(1=1/\1<=3/\1=1/\2<=3/\1=1/\3<=3/\True)/\0<1/\1=1/\3<=16777216/\3<=9223372036854775807)<|vc (zHt 1)<|vc (zHt 7)<|vr 1 ((3=3/\3<=6/\3=3/\6<=6/\True)/\0<3/\3=3/\6<=16777216/\2<=9223372036854775807)<|vc (zHt 2)<|vc (zHt 7)<|vr 1 ((3=3/\3<=6/\3=3/\6<=6/\True)/\0<3/\3=3/\6<=16777216/\2<=9223372036854775807)<|vc (zHt 2)<|vc (zHt 8)<|ve (((3=3/\3<=6/\3=3/\6<=6/\True)/\0<3/\3=3/\6<=16777216/\2<=9223372036854775807)/\((1=1/\1<=3/\1=1/\2<=3/\1=1/\3<=3/\True)/\0<1/\1=1/\3<=16777216/\3<=9223372036854775807)/\((1=1/\1<=2/\1=1/\2<=2/\True)/\0<1/\1=1/\2<=16777216/\2<=9223372036854775807)/\((1=1/\1<=6/\1=1/\2<=6/\1=1/\3<=6/\1=1/\5<=6/\1=1/\6<=6/\True)/\Aa=Aa)/\Ad=Ad/\Aa=Aa/\6=6/\6<=6)<|zE<|vret (6<=6)<|.inr rfl
theorem zQc(c:Cs)(h:c.Small)(hl:c.V.length=c.R.length)(he:∀i,i<c.V.length->c.err i=0)(hc:icE c.n c.f c.desc.length c.P (c.ats c.V.length)=0)(hf:c.Few)(ht:c.Typ):∃S:Nat,S+zBu c.inp.R<=1000000000000000000/\Pure Al 32 [iD (c.inp.n:Nat), .row (c.inp.L.flatMap bgC) c.inp.L.length, .row (c.inp.A.flatMap atR) c.inp.A.length] [] (.tup [.row (c.inp.R.flatMap atR) c.inp.R.length,iD ((S:Nat):Int),iD 0])/\
  Pure Al 15 [inpD c.n c.f c.desc c.P (c.ats c.V.length)] [] (.tup [c.inp.ix,iD ((S+zBu c.inp.R:Nat):Int),iD 0]):=by
 have hck:=zNu c h (AP _);rw[hc,<-Cs.inp_D hc]at hck;obtain⟨S,h1,h2,h3⟩:=Inp.build (Cs.inp_ok hl he hc hf ht) hck;rw[Cs.inp_D hc]at h3;exact⟨S,h1,h2,h3⟩
theorem zTf(a:Nat)(ha:Sm a):Pure Al 27 [natD a,natD a] [] (iD 0):=by
 have h:=ncmp_c a a ha ha;rwa[show cmpD a a=0 by simp[cmpD]]at h
section
variable (a1 a2 a3 b1 b2 b3 : List D) (l1 l2 l3 k1 k2 k3 : Nat) (c1 c2 c3 c4 d1 d2 d3 d4 : List D) (m1 m2 m3 m4 n1 n2 n3 n4 : Nat) (t u : WT) (s1 s2 : Int) (five three two : Nat)
abbrev exI1:D:= .agg [iD 3,iD 3, .row a1 l1, .row a2 l2, .row a3 l3]
abbrev exX(five:Nat):D:= .agg [.row c1 m1, .row c2 m2, .row c3 m3, .row c4 m4,natD five]
abbrev exI2:D:= .agg [iD 3,iD 1, .row b1 k1, .row b2 k2, .row b3 k3]
set_option maxHeartbeats 4000000 in
theorem awakeW(e5:five=5)(e3:three=3)(e2:two=2)(hsz:u.sz=2)
  (h1:Pure Al 20 [.agg (csC ex1)] [] (.tup [exI1 a1 a2 a3 l1 l2 l3,bD Aa]))
  (h2:Pure Al 15 [exI1 a1 a2 a3 l1 l2 l3] [] (.tup [exX c1 c2 c3 c4 m1 m2 m3 m4 five,iD s1,iD 0]))
  (h3:Pure Al 21 [exX c1 c2 c3 c4 m1 m2 m3 m4 five,iD 0, .val (.slice AQ 0 0)] [] (.tup [zK6 Ad t,bD Aa]))
  (h4:Pure Al 23 [zK6 Ad t,vaD (nm 1)] [] (.tup [natD three,bD Aa]))
  (h5:Pure Al 21 [exX c1 c2 c3 c4 m1 m2 m3 m4 five,iD 2, .row (vaC (nm 2)) 1] [] (.tup [zK6 Ad u,bD Aa]))
  (h6:Pure Al 20 [.agg (csC ex2)] [] (.tup [exI2 b1 b2 b3 k1 k2 k3,bD Aa]))
  (h7:Pure Al 15 [exI2 b1 b2 b3 k1 k2 k3] [] (.tup [exX d1 d2 d3 d4 n1 n2 n3 n4 two,iD s2,iD 0]))
  (h8:Pure Al 19 [exX c1 c2 c3 c4 m1 m2 m3 m4 five] [] (natD five))
  (h9:Pure Al 19 [exX d1 d2 d3 d4 n1 n2 n3 n4 two] [] (natD two)):Pure Al 11 [] [] (bD Aa):=by
 have o5:Pure Al 36 [.val (.int .u64 5)] [] (natD five):=by subst e5;exact of_c 5 (by decide)
 have o3:Pure Al 36 [.val (.int .u64 3)] [] (natD three):=by subst e3;exact of_c 3 (by decide)
 have o2:Pure Al 36 [.val (.int .u64 2)] [] (natD two):=by subst e2;exact of_c 2 (by decide)
 have q5:=zTf five (by subst e5;exact Sm.pow (e:=10) (by decide) (by decide));have q3:=zTf three (by subst e3;exact Sm.pow (e:=10) (by decide) (by decide));have q2:=zTf two (by subst e2;exact Sm.pow (e:=10) (by decide) (by decide));have hwl:=wlen_c Ad u;rw[hsz]at hwl;refine zF zA8 mixed Tryz.func11 rfl ?_;focus
  refine vAu<|vA<|vc zR8<|vc h1<|ve (0<2/\1<2/\Ad=Ad/\Aa=Aa/\5=5/\5<=5)<|vA<|vr 1 (5<=5)<|vc h2<|ve (0<3/\1<3/\2<3/\Ad=Ad/\Aa=Aa/\5=5/\5<=5) ?_;refine vA<|vr 1 (5<=5)<|vc h3<|ve (0<2/\1<2/\Ad=Ad/\Aa=Aa/\2=2/\2<=2)<|zA<|vd [0,1,2,3,4,5,6,7]<|vr 1 (2<=2)<|vc (zHt 1)<|vc h4<|ve (0<2/\1<2)<|zA<|vd [0,1,2,3,4,5,6,7,8,9]<|vr 1 (5<=5) ?_;refine vc (zHt 2)<|vr 1 ((3=3/\3<=3/\True)/\0<3/\3=3/\3<=16777216/\1<=9223372036854775807)<|vc h5<|ve (0<2/\1<2/\Ad=Ad/\Aa=Aa/\2=2/\2<=2)<|vA<|vc zR8<|ve (Ad=Ad/\Aa=Aa/\6=6/\6<=6)<|zA ?_;refine zA7 [2,0,1] [(3,[(0,6),(1,7)],[4]),(5,[(1,7)],[6,7])] rfl ?_;refine vr 3 (True/\((0:Int)<=(1:Int)/\(1:Int)<=(1:Int)/\(↑(1:Nat):Int)*(1:Int)<=(281474976710656:Int)/\(1:Int)<=(281474976710656:Int)/\0<1/\1=1)/\(1=1/\1<=2/\1=1/\2<=2/\True)/\0<1/\1=1/\2<=16777216/\2<=9223372036854775807)<|vnil<|zB3 rfl rfl (by kernel_rfl)<|vr 1 (Ad=Ad/\Aa=Aa/\1=1/\2<=6)<|vnil ?_;refine zE3 (C:=((0:Int)<=(1:Int)/\(1:Int)<=(1:Int)/\(↑(1:Nat):Int)*(1:Int)<=(281474976710656:Int)/\(1:Int)<=(281474976710656:Int)/\0<1/\1=1)/\Aw (AB 6 0 1 1 Aa)=Aw (AB 6 0 1 1 Aa)/\eqDL [bD Ad] [bD Ad]/\4=4/\1=1/\Aa=Aa/\(kdOf Ad)=kdOf Ad/\((1=1/\1<=2/\1=1/\2<=2/\True)/\0<1/\1=1/\2<=16777216/\2<=9223372036854775807)/\Aw (AB 7 0 2 2 Aa)=Aw (AB 7 0 2 2 Aa)/\eqDL [iD 2,iD 1] [iD 2,iD 1]/\3=3/\1=1/\Aa=Aa/\AL=AL) ⟨(by omega),(by kernel_rfl),rfl,(by kernel_rfl),(by kernel_rfl),(by kernel_rfl),(by kernel_rfl),⟨⟨(by kernel_rfl),⟨(by omega),⟨(by kernel_rfl),⟨(by omega),trivial⟩⟩⟩⟩,(by omega)⟩,(by kernel_rfl),rfl,(by kernel_rfl),(by kernel_rfl),(by kernel_rfl),(by kernel_rfl)⟩ ?_;refine vrT 1<|vnil<|zB3 rfl rfl (by kernel_rfl)<|vr 1 (Ad=Ad/\Aa=Aa/\1=1/\3<=6)<|vnil ?_;refine zE3 (C:=((1=1/\1<=2/\1=1/\2<=2/\True)/\0<1/\1=1/\2<=16777216/\2<=9223372036854775807)/\Aw (AB 7 0 2 2 Aa)=Aw (AB 7 0 2 2 Aa)/\eqDL [iD 2,iD 1] [iD 2,iD 1]/\3=3/\1=1/\Aa=Aa/\AL=AL) ⟨⟨⟨(by kernel_rfl),⟨(by omega),⟨(by kernel_rfl),⟨(by omega),trivial⟩⟩⟩⟩,(by omega)⟩,(by kernel_rfl),rfl,(by kernel_rfl),(by kernel_rfl),(by kernel_rfl),(by kernel_rfl)⟩ ?_;refine vr 2 (True/\Ad=Ad/\Aa=Aa/\1=1/\4<=6)<|vnil<|zBv<|vN<|vA<|vr 1 (6<=6)<|vc h6<|ve (0<2/\1<2/\Ad=Ad/\Aa=Aa/\5=5/\5<=5)<|vA<|vr 1 (5<=5)<|vc h7 ?_;refine ve (0<3/\1<3/\2<3/\Ad=Ad/\Aa=Aa/\5=5/\5<=5)<|vA<|vr 23 (True/\True/\5<=5)<|vc h8<|vc o5<|vc q5<|vrT 4<|vc o3<|vc q3<|vr 4 (True/\2<=2)<|vc hwl<|vr 4 (True/\5<=5)<|vc h9 ?_;refine vc o2<|vc q2<|veT<|zE<|vret (True)<|.inr rfl
end
theorem zVq(c:Cs)(h:c.Small)(hv:c.V.length=c.R.length/\(∀i,i<c.V.length->c.err i=0)/\icE c.n c.f c.desc.length c.P (c.ats c.V.length)=0):Pure Al 20 [.agg (csC c)] [] (.tup [inpD c.n c.f c.desc c.P (c.ats c.V.length),bD Aa]):=by
 obtain⟨m,ok,_,h1,h2,h3⟩:=zY9 c h;obtain rfl:=h1.2 hv;rw[h2 rfl]at h3;exact h3
theorem zVf:Pure Al 11 [] [] (bD Aa):=by
 have v1:=zVq ex1 ex1_s ex1_v;have v2:=zVq ex2 ex2_s ex2_v;obtain⟨S1,_,_,b1⟩:=zQc ex1 ex1_s ex1_v.1 ex1_v.2.1 ex1_v.2.2 ex1_f exR_t;obtain⟨S2,_,_,b2⟩:=zQc ex2 ex2_s ex2_v.1 ex2_v.2.1 ex2_v.2.2 ex2_f exR_t;obtain⟨p1,p2,p3,p4⟩:=ex1_0;obtain⟨q1,q2,q3,q4⟩:=ex1_2;obtain⟨k1,k2⟩:=ex1_k;have u0:=zNy ex1.inp.desc (ex1.inp.L.take ex1.inp.f) ex1.inp.U ex1.inp.tot 0 0 0 (by rw[p2];rfl) (by omega) (by rw[p2];simp) (by decide) (by decide) ex1_n.1 (by omega) (by omega);have u2:=zNy ex1.inp.desc (ex1.inp.L.take ex1.inp.f) ex1.inp.U ex1.inp.tot 2 1 1 (by rw[q2];rfl) (by omega) (by rw[q2];intro x hx;obtain rfl:=BP.1 hx;exact Vt.vs (by unfold Vt;decide) (by decide)) (by decide) (by decide) ex1_n.2 (by omega) (by omega);rw[p2,p3]at u0;rw[q2,q3]at u2;have g0:=wget_c Ad ((ex1.inp.U 0).getD 0 Ak).t (nm 1) ⟨by omega,Sm.pow k2 (by decide)⟩;rw[p4]at g0;have t1:=zW5 ex1.inp.desc (ex1.inp.L.take ex1.inp.f) ex1.inp.U ex1.inp.tot (by rw[ex1_t];exact Sm.pow (e:=10) (by decide) (by decide));have t2:=zW5 ex2.inp.desc (ex2.inp.L.take ex2.inp.f) ex2.inp.U ex2.inp.tot (by rw[ex2_t];exact Sm.pow (e:=10) (by decide) (by decide));refine awakeW (t:=((ex1.inp.U 0).getD 0 Ak).t) (u:=((ex1.inp.U 2).getD 1 Ak).t) (five:=ex1.inp.tot) (three:=3) (two:=ex2.inp.tot) (e5:=ex1_t) (e3:=rfl) (e2:=ex2_t) (hsz:=q4) (h1:=v1) (h2:=b1) (h3:=u0.le (.cons (.refl _) (.cons (.refl _) (.cons LeD.nil_row .nil)))) (h4:=g0) (h5:=u2) (h6:=v2) (h7:=b2) (h8:=t1) (h9:=t2)
section
variable (c : Cs) (ats : List At) (es ls x1 x2 x3 x4 : List D) (en ln n1 n2 n3 n4 tot : Nat) (R : List (List Nat × List Rw)) (S : Nat)
set_option maxHeartbeats 4000000 in
theorem stepsW(hS:S+zBu R<=1000000000000000000)(hn0:0<=c.n)(hn:c.n<=32)(hR:R.length<=32)
  (h1:Pure Al 20 [.agg (csC c)] [] (.tup [inpD c.n c.f c.desc c.P ats,bD Aa]))
  (h2:Pure Al 13 [.agg (csC c)] [] (bD Aa))
  (h3:Pure Al 30 [iD c.n, .row (c.V.map zBr) c.V.length] [] (.tup [.agg [iD c.n, .row es en],iD 0]))
  (h4:Pure Al 31 [.agg [iD c.n, .row es en],iD c.f,zBr c.P] [] (.tup [.row ls ln,iD 0]))
  (h5:Pure Al 32 [iD c.n, .row ls ln, .row (ats.flatMap atC) ats.length] [] (.tup [.row (R.flatMap atR) R.length,iD ((S:Nat):Int),iD 0]))
  (h6:Pure Al 15 [inpD c.n c.f c.desc c.P ats] [] (.tup [exX x1 x2 x3 x4 n1 n2 n3 n4 tot,iD ((S+zBu R:Nat):Int),iD 0])):Pure Al 6 [.agg (csC c)] [] (bD Aa):=by
 have hRl:∀i,i<=R.length->zBu (R.take i)<=zBu R:=λi hi=>by
  unfold zBu;conv=>rhs;rw[<-List.take_append_drop i R,Bi,BO]
  omega
 have hRc:∀a:List Nat×List Rw,(atR a).length=3:=λ_=>rfl;have h0:zBu (R.take 0)=0:=rfl;refine zF zA8 mixed Tryz.func6 rfl ?_;focus
  refine vAu<|zA<|vA<|vc zVf<|veT<|vf<|vK<|zA ?_;refine zB rfl<|vr 1 (6<=6)<|vc h1<|ve (0<2/\1<2/\Ad=Ad/\Aa=Aa/\5=5/\5<=5)<|zA<|vA<|vr 1 (6<=6)<|vc h2<|veT<|vf<|vK ?_;refine vA<|vr 4 (True/\0<6/\True/\0<2)<|vc h3<|ve (0<2/\1<2/\Ad=Ad/\Aa=Aa/\2=2/\2<=2)<|vA<|vr 5 (2<=2/\True/\0<5/\True/\0<3)<|vc h4<|ve (0<2/\1<2)<|vA<|vr 5 (True/\0<6/\True/\0<1)<|vc h5 ?_;refine ve (0<3/\1<3/\2<3)<|vA<|vr 1 (5<=5)<|vc h6<|ve (0<3/\1<3/\2<3/\Ad=Ad/\Aa=Aa/\5=5/\5<=5)<|vAe<|zA<|vAe<|zH ?_;rotate_left
 refine zK (λ(i:Nat)=>fr 107 [(1,An 0 0),(2,bD Ad),(6,iD 0),(8,iD 0),(9,(q14_ R)),(10,iD S),(11,iD 0),(13,iD ↑(S+zBu R)),(14,iD 0),(15,iD (↑(zBu<|Au i R):Int)),(16,iD i)]) (λ(i:Nat)=>[csB c,inpK c<|.row (ats.flatMap atC) ats.length,⟨[iD c.n,.row es en],77,0,Ad,Ad,.plain⟩,⟨[.row x1 n1,.row x2 n2,.row x3 n3,.row x4 n4,natD tot],46,0,Ad,Ad,.plain⟩]) (λ(i:Nat)=>R.length-i) (λ(i:Nat)=>i<=R.length) 0 ?_ ?_ ?_
 ·omega
 ·rw[h0];refine vk 4
 intro i h1;rcases AI i R.length with h2'|h2'
 ·have hg:=zCp hRc R i h2';have hle:=zEe hRc R i h2';have hne:=zDc hRc (by decide) R (by omega);have hsu:=zNa R i h2';have hb:=hRl (i+1) (by omega);have hg2:Au 2 (Ao 1 (Ao (i*3) (R.flatMap atR)))=[iD ((R.getD i Ak).1.length:Nat), .row ((R.getD i Ak).2.map rowV) (R.getD i Ak).2.length]:=by
   rw[<-List.drop_take (i:=1) (j:=3),hg];rfl
  have hle2:2<=(Ao 1 (Ao (i*3) (R.flatMap atR))).length:=by rw[List.length_drop];omega
  generalize R.getD i Ak=a at*;have hrl:=zHp (a.1.length:Nat) (a.2.map rowV) a.2.length;rw[hsu]at hb;focus
   refine zA<|vAu<|vT ((i:Int)<↑(Ab R))<|vKB<|zB rfl<|vr 6 (ix ↑i ↑(Ab R) (Ap atR R≠[])/\True/\2<=Ab (Ao 1<|Ao (i*3)<|Ap atR R))<|vs 75 (AE<|Au 2<|Ao 1<|Ao (i*3)<|Ap atR R) (AE [iD (Ab (AC a):Int),Ae (Ah rowV<|Prod.snd a)<|Ab<|Prod.snd a]) (by simp(disch:=omega) only[hg2]) ?_;refine vc hrl<|vr 2 (i6 ((↑(zBu<|Au i R):Int)+(Ab (Prod.snd a):Int)))<|vnil<|zD<|vN<|zB rfl<|vr 3 (i6 (↑i+1))<|vnil<|zC ?_;rotate_left
  refine⟨i+1,by omega,by omega,?_⟩;rw[hsu,Int.natCast_add];refine vk 4
 obtain rfl:i=R.length:=by omega
 rw[A0];focus
  refine zA<|vAu<|vF ((Ab R:Int)<↑(Ab R))<|vZ2<|vA ?_;refine vew [] [(18,Aa)] (True/\True/\True/\True/\decide ((↑(S+zBu R):Int)>=(0:Int))=Aa/\i6 ((S:Int)+(↑(zBu R):Int))/\i6 ((4:Int)*((S:Int)+(↑(zBu R):Int)))/\True/\0<6/\i6 ((4:Int)*((S:Int)+(↑(zBu R):Int))+Cs.n c))<|zE ?_;refine vre (True) (Ai<|AZ<|decide ((↑(S+zBu R):Int)<=(4:Int)*((S:Int)+(↑(zBu R):Int))+Cs.n c)) (.inr rfl) ?_;rotate_left
 exact congrArg (λb=>bD b) (decide_eq_true (by omega))
end
theorem stepsNo(c:Cs)(ats:List At)(ok b:Bool)(h:ok=Ad\/b=Ad)
  (h1:Pure Al 20 [.agg (csC c)] [] (.tup [inpD c.n c.f c.desc c.P ats,bD ok]))
  (h2:Pure Al 13 [.agg (csC c)] [] (bD b)):Pure Al 6 [.agg (csC c)] [] (bD Aa):=by
 cases b
 ·refine zF zA8 mixed Tryz.func6 rfl ?_;focus
   refine vAu<|zA<|vA<|vc zVf<|veT<|vf<|vK<|zA ?_;refine zB rfl<|vr 1 (6<=6)<|vc h1<|ve (0<2/\1<2/\Ad=Ad/\Aa=Aa/\5=5/\5<=5)<|zA<|vA<|vr 1 (6<=6)<|vc h2<|veT<|vt<|vAe ?_;refine zE<|zG<|vret (True)<|.inr rfl
 obtain rfl:ok=false:=by simpa using h
 refine zF zA8 mixed Tryz.func6 rfl ?_;focus
  refine vAu<|zA<|vA<|vc zVf<|veT<|vf<|vK<|zA ?_;refine zB rfl<|vr 1 (6<=6)<|vc h1<|ve (0<2/\1<2/\Ad=Ad/\Aa=Aa/\5=5/\5<=5)<|zA<|vA<|vr 1 (6<=6)<|vc h2<|veT<|vt<|vAe ?_;refine zE<|zG<|vret (True)<|.inr rfl
theorem zZq(c:Cs)(h:c.Small)(ht:c.Typ):Pure Al 6 [.agg (csC c)] [] (bD Aa):=by
 obtain⟨b,hb,hfew⟩:=few_c c h;obtain⟨m,ok,h1,h2,h3,h4⟩:=zY9 c h;by_cases hn:ok=Ad\/b=Ad
 ·exact stepsNo c _ ok b hn h4 hfew
 obtain⟨rfl,rfl⟩:ok=Aa/\b=true:=by simpa using hn
 obtain⟨hl,he,hc⟩:=h2.1 rfl;obtain rfl:=h3 rfl;have hf:=hb rfl;have hok:=Cs.inp_ok hl he hc hf ht;obtain⟨S,s1,s2,s3⟩:=zQc c h hl he hc hf ht;obtain⟨n1,n2⟩:=Cs.inp_n hc;obtain⟨i1,i2,_⟩:=Cs.ic hc;have hA:=hok.A;have hof:=hof_c c.inp.n (by have:=hok.n;omega) (c.inp.A.map (·.1)) (by rw[AR];omega) λV hV=>by
  obtain⟨a,ha,rfl⟩:=AO.1 hV;obtain⟨v1,v2⟩:=zQo hok.V a ha
  have:=zEs (n:=c.inp.n) (v1.imp λ{x y} hxy=>by omega) v2
  exact⟨by have:=hok.n;omega,v2⟩
 rw[n1,Cs.inp_V hc,show(c.inp.A.map (·.1)).map msk=c.inp.E by rw[AU];rfl,AR,show c.inp.A.length=c.V.length by simp[Cs.inp]]at hof;have hbg:=Inp.bags_c hok;rw[n1,n2,Cs.inp_P hc,show c.inp.P.length=c.P.length by simp[Cs.inp],AR,show c.inp.A.length=c.V.length by simp[Cs.inp]]at hbg;rw[n1,Cs.inp_A hc,show c.inp.A.length=(c.ats c.V.length).length by rw[Cs.ats_len];simp[Cs.inp]]at s2;exact stepsW c _ _ _ _ _ _ _ _ _ _ _ _ _ _ c.inp.R S s1 i1 i2 (by simp;have:=hok.n;omega) h4 hfew hof hbg s2 s3
end
end Go.Proofs.YtjcofbkhoeockaaGreatDoor
