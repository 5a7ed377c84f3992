/- Texts of this claim, joined: Dic Oc DapP Dap Dwt Did FkiP Dwe Dwa Dre Dix GrP Dgr Dbd Dbe Dbf Dbu Rrl Dbv Dbw Dhg Dhh Del -/
import Derived.Test.YtjcofbkhoeockaaGreatDoorM04
import Derived.Lib.RowBridge
import Derived.BigCall
import Derived.Lib.ItoaLen
import Derived.Lib.Walk
import Derived.WalkKit
import Derived.Lib.Strings
import Derived.Lib.ItoaWalk
import Derived.Lib.LaidTab
import Derived.Lib.Hide
set_option linter.unusedVariables false
set_option linter.unusedSimpArgs false
namespace Go.Proofs.YtjcofbkhoeockaaGreatDoor
open _root_.List renaming length->Aa,drop->Ai,flatMap->Aj,map->Al,getD->Ap,take->Au,getD_eq_getElem?_getD->AI,getElem?_eq_getElem->AL,getElem_mem->AV,length_map->AZ,range->A1,mem_map->A4,getElem?_map->A9,drop_zero->Bf,take_length->Bn,mem_cons->Bq,length_append->Br,map_cons->Bt,mem_range->Bv,toArray->Bw,take_succ_eq_append_getElem->By,all->Bz,map_append->BB,all_eq_true->BD,foldl_append->BE,headD->BF,cons_append->BH,getElem?_range->BJ,length_filter_le->BK,nil_append->BL,replicate->BM,take_of_length_le->BN,mem_singleton->BP,mem_filter->BR,cons->BT,getElem?_set->BU,length_cons->BV,length_nil->BW,sum_cons->B3,flatMap_append->B6,foldl_cons->B7,length_range->B8,pairwise_cons->Cb,range_succ->Cc,filter_append->Cd,filter_cons->Ce,filter_nil->Cf,not_mem_nil->Ch,take_append_drop->Cj,findIdx?_eq_some_iff_getElem->Cl,map_set->Cn,ext_getElem?->Co,set_append_right->Cp,any_eq_true->Cr,append_nil->Ct,getElem?_take->Cu,sum_append->CA,mem_append->CB,mem_cons_of_mem->CC,eq_nil_or_concat->CE,concat_eq_append->CF,length_take->CG,mem_of_mem_take->CH,length_pos_iff->CI,getElem_of_mem->CJ,map_congr_left->CM,getElem?_append_left->CN,take_append_of_le_length->CO,findIdx?_eq_none_iff->CP,drop_eq_getElem_cons->CQ,mem_of_find?_eq_some->CS
open _root_.Bool renaming true->Ab,false->Ad,and_eq_true->BS,or_eq_false_iff->Cg,or_eq_true->Ci
open _root_.Inhabited renaming default->Ae
open D renaming own->Af,val->Ah,row->Am,osl->Ao,fx->Aw,ptr->AE,agg->AF,mref->AM,clo->Bc
open Lib renaming itoa->Ag,decDigits->AH,nDigits->AN,itoa_length_le->BO,bitLen->BX,byteCells->BY,decDigits_length->Cv,nDigits_le20->Cz
open Bk renaming mk->Ak,cells->AK,kd->AY,ty->Ba,sz->Bb,fz->Bo
open Value renaming int->An,string->AD,pointer->B_
open Kd renaming plain->Aq,sh->A0,isMap->Bh,isSh->Bi,map->BC
open Va renaming kind->Ar,int->AA,str->AB
open IntKind renaming u8->As,u32->AU,u64->A5,wrap->A_,i64->Bm
open _root_.Option renaming some->Ax,none->AJ,map_some->BA,getD_some->BQ,map_eq_some_iff->CR
open _root_.Go.Proofs.Tryz renaming prog->Ay,func118->B5,func84->Ck
open _root_.Prod renaming fst->Az,snd->AG
open _root_.Int renaming toNat->AC,toNat_natCast->AW,natAbs->BZ
open _root_.BitVec renaming ofInt->AO,toNat->Bp
open Bg renaming k->AP,p->AS
open _root_.ByteArray renaming mk->AQ,data->Bl
open _root_.Nat renaming lt_or_ge->AR,le_refl->AT,le_trans->A2,mul_one->A3,testBit->Bs,zero_le->BG,zero_mul->Cm,zero_add->Cq,eq_zero_or_pos->CD,lt_of_lt_of_le->CK,pow_le_pow_right->CL
open LeL renaming refl->AX
open TypeInfo renaming desc->A6,mk->A7
open TypeDesc renaming string->A8
open _root_.Array renaming toList->Bj,replicate->Cx,size_replicate->Cy
open LeD renaming fx->Bx,refl->BI
open Weak renaming fzCell->B9
section
open Go.RowKit
attribute [local irreducible] seqW awp zAe zAn zAd Weak updS zAv retL Pure Acts rP setP setQ cP nP fr
set_option maxRecDepth 4096
abbrev chC(c:Nat×List Nat):List D:=[iD (c.1:Nat), .row (nsD c.2) c.2.length]
abbrev chB(l:List (Nat×List Nat)):Bk:=⟨l.flatMap chC,200,2,Ab,Ad, .plain⟩
def chI(L:List Bg)(V:List Nat)(v i:Nat):List (Nat×List Nat):=((A1 i).filter λc=>decide ((L.getD c Ae).p=(v:Int))).map λc=>(c,zC4 (λu=>(L.getD c Ae).k.testBit u) V)
theorem chI_succ(L:List Bg)(V:List Nat)(v i:Nat):chI L V v (i+1)=chI L V v i++if(L.getD i Ae).p=(v:Int)then[(i,zC4 (λu=>(L.getD i Ae).k.testBit u) V)]else[]:=by
 unfold chI;rw[Cc,Cd,BB];congr 1;simp only[Ce,Cf];by_cases h:(L.getD i Ae).p=(v:Int)
 ·rw[if_pos h,if_pos (by simpa using h)];rfl
 rw[if_neg h,if_neg (by simpa using h)];rfl
theorem zVb(L:List Bg)(V:List Nat)(v i:Nat):(chI L V v i).length<=i:=by
 unfold chI;rw[AZ];exact A2 (BK _ _) (by simp)
theorem killL{k:Nat}:∀{c:List D},zV k c=Ad->c.map (zAi k)=c
 |[],_=>rfl
 |d::c,h=>by
  simp only[zV,Cg]at h;rw[Bt,killL h.2];congr 1;unfold zAi;rw[h.1];rfl
structure Bd where
 n:Nat
 f:Nat
 desc:List Bool
 P:List Nat
 A:List (List Nat×List Rw)
 L:List Bg
 R:List (List Nat×List Rw)
 E:List Nat
abbrev blI(b:Bd):Bk:=⟨[iD (b.n:Nat),iD (b.f:Nat), .row (b.desc.map bD) b.desc.length, .row (nsD b.P) b.P.length, .row (b.A.flatMap atR) b.A.length],31,0,Ad,Ad, .plain⟩
abbrev blX:Bk:=⟨[nl0,nl0,nl0,nl0,nl0],46,0,Ad,Ad, .plain⟩
abbrev blG(b:Bd):Bk:=⟨[iD (b.n:Nat), .osl 3 0 b.A.length b.A.length Ab],77,0,Ad,Ad, .plain⟩
abbrev blE(b:Bd):Bk:=⟨b.E.map u32D,36,1,Ab,Ab, .plain⟩
abbrev blB(b:Bd):Bk:=⟨[iD (b.n:Nat),iD (b.f:Nat), .row (b.desc.map bD) b.desc.length, .row (nsD b.P) b.P.length, .row (b.A.flatMap atR) b.A.length, .row (b.L.flatMap bgC) b.L.length, .row (b.R.flatMap atR) b.R.length, .osl 5 0 b.n b.n Ab, .osl 6 0 b.n b.n Ab, .osl 7 0 b.f b.f Ab],120,0,Ad,Ad, .plain⟩
abbrev blV(c:List D):Bk:=⟨c,170,1,Ab,Ad, .sh⟩
abbrev blT(c:List D):Bk:=⟨c,177,1,Ab,Ad, .sh⟩
abbrev blU(c:List D):Bk:=⟨c,88,1,Ab,Ad, .plain⟩
abbrev blM(t:TypeId)(ks:List Value)(c:List D):Bk:=⟨c,t,0,Ab,Ad, .map ks⟩
def blw(m:Nat)(c:List D):Prop:=∀j,m<=j->zV j c=Ad
theorem zHb{m:Nat}{b:Bd}{c5 c6 c7:List D}{rest:List Bk}(hm:8<=m)(h5:blw m c5)(h6:blw m c6)(hr:∀e∈rest,namB m e):∀e∈blI b::blX::blG b::blE b::blB b::blV c5::blT c6::blU c7::rest,namB m e:=λe he=>by
 have hne:∀{i j:Nat},j<8->m<=i->(j==i)=false:=λh1 h2=>by rw[beq_eq_false_iff_ne];omega
 simp only[Bq]at he;rcases he with rfl|rfl|rfl|rfl|rfl|rfl|rfl|rfl|he
 ·exact .inr λj hj=>by simp[zV,refs]
 ·exact .inr λj hj=>by simp[zV,refs]
 ·exact .inr λj hj=>by simp[zV,refs];omega
 ·exact .inl rfl
 ·exact .inr λj hj=>by simp[zV,refs];omega
 ·exact .inr h5
 ·exact .inr h6
 ·exact .inl rfl
 exact hr e he
def Tch:Par:=⟨λ_=>Ad,λ_ _=>AJ,λk=>decide (k<9),λ_=>Ad,λ_=>Ad⟩
theorem Tch_ok:zBd Ay Tch:=by intro t n f h;cases h
theorem keep9{st:List Bk}(h:st.length=9):∀k,k<st.length->Tch.keep k=true:=λk hk=>by
 show decide (k<9)=Ab;rw[decide_eq_true_eq];omega
theorem zW4:∀k,9<=k->Tch.keep k=false:=λk hk=>by
 show decide (k<9)=Ad;rw[decide_eq_false_iff_not];omega
abbrev q15_(x0:Bd):=Am (Aj atR (Bd.R x0)) (Aa (Bd.R x0))
abbrev q16_(x0:Bd):=Am (Aj bgC (Bd.L x0)) (Aa (Bd.L x0))
abbrev q17_(x0:Bd):=Am (Al bD (Bd.desc x0)) (Aa (Bd.desc x0))
abbrev q18_(x0:Bd):=Am (nsD (Bd.P x0)) (Aa (Bd.P x0))
abbrev q19_(x0:Bd):=Am (Aj atR (Bd.A x0)) (Aa (Bd.A x0))
theorem zYx(b:Bd)(v:Nat)(hv:v<b.R.length)(hl:b.L.length<=1000)(hV:(b.R.getD v Ae).1.length<=1000)(hV2:∀u∈(b.R.getD v Ae).1,u<32)(hk:∀c∈b.L,c.k<4294967296)(c5 c6 c7 c8:List D)(t8:TypeId)(ks:List Value)(h5:blw 9 c5)(h6:blw 9 c6):
  Acts Ay 94 [.own 4 0,iD (v:Nat)] [blI b,blX,blG b,blE b,blB b,blV c5,blT c6,blU c7,blM t8 ks c8] [] (.osl 9 0 (chI b.L (b.R.getD v Ae).1 v b.L.length).length ((chI b.L (b.R.getD v Ae).1 v b.L.length).length*2) Ab)
   [blI b,blX,blG b,blE b,blB b,blV c5,blT c6,blU c7,blM t8 ks c8,chB (chI b.L (b.R.getD v Ae).1 v b.L.length)]:=by
 have hbc:∀c:Bg,(bgC c).length=3:=λ_=>rfl;have hac:∀a:List Nat×List Rw,(atR a).length=3:=λ_=>rfl;have hav:(b.R.flatMap atR).drop (v*3)= .row (nsD (b.R.getD v Ae).1) (b.R.getD v Ae).1.length::iD ((b.R.getD v Ae).1.length:Nat):: .row ((b.R.getD v Ae).2.map rowV) (b.R.getD v Ae).2.length::(b.R.drop (v+1)).flatMap atR:=zL3 hac b.R v hv;have hne:=zDc hac (by decide) b.R (by omega);generalize hVd:(b.R.getD v Ae).1=V at*;have hcl:∀l:List (Nat×List Nat),(l.flatMap chC).length=l.length*2:=λl=>zDk (g:=chC) (λ_=>rfl) l;have hnm:∀l,∀e∈[blI b,blX,blG b,blE b,blB b,blV c5,blT c6,blU c7,blM t8 ks c8,chB l],namB 10 e:=λl=>zHb (by omega) (λj hj=>h5 j (by omega)) (λj hj=>h6 j (by omega)) λe he=>by
  simp only[Bq,Ch,or_false]at he;rcases he with rfl|rfl<;>exact .inl rfl
 have k5:=killL (h5 9 (by omega));have k6:=killL (h6 9 (by omega));refine zP Tch_ok mixed Tryz.func94 rfl (keep9 rfl) ?_;focus
  refine vAu<|vAe<|zA<|vA<|ve (True/\0<5)<|zH ?_;rotate_left
 refine zK (λ(i:Nat)=>fr 49 [(0,Af 4 0),(1,iD v),(4,nl),(5,Ao 9 0 (Aa<|chI (Bd.L b) V v i) (Aa (chI (Bd.L b) V v i)*2) Ab),(11,iD (Aa (Bd.L b):Int)),(12,iD i)]) (λ(i:Nat)=>[blI b,blX,blG b,blE b,blB b,blV c5,blT c6,blU c7,blM t8 ks c8,chB<|chI b.L V v i]) (λ(i:Nat)=>b.L.length-i) (λ(i:Nat)=>i<=b.L.length) 0 ?_ ?_ ?_
 ·omega
 ·refine vk 9 ?_;exact zW4
 intro i h1;have hlen:=zVb b.L V v i;have hc2:=hcl (chI b.L V v i);rcases AR i b.L.length with h3|h3
 ·have hbat:=zL3 hbc b.L i h3;have hbne:=zDc hbc (by decide) b.L (by omega);have hmem:b.L.getD i Ae∈b.L:=by rw[AI,AL h3];exact AV h3
  have hic:=icols_c V V.length rfl hV hV2 (b.L.getD i Ae).k (hk _ hmem);have hsu:=chI_succ b.L V v i;generalize b.L.getD i Ae=c at*;have happ:∀l:List (Nat×List Nat),chB (l++[(i,zC4 (λu=>c.k.testBit u) V)])=⟨l.flatMap chC++[iD (i:Nat), .row (nsD (zC4 (λu=>c.k.testBit u) V)) (zC4 (λu=>c.k.testBit u) V).length],200,2,Ab,Ad, .plain⟩:=λl=>by
   show Ak ((l++[_]).flatMap chC) _ _ _ _ _=_;rw[<-zR2]
  focus
   refine vAu<|zA<|vT ((i:Int)<(Aa (Bd.L b):Int))<|vKB<|vAe ?_;refine vA<|vr 6 (True/\0<5/\ix ↑i (Aa (Bd.L b):Int) (Aj bgC (Bd.L b)≠[]))<|vs 20 (AE<|Ai (AC (i:Int)*3)<|Aj bgC<|Bd.L b) (AE (iD ↑(Bg.v c)::u32D (AP c)::iD (AS c)::Aj bgC (Ai (i+1)<|Bd.L b))) (by simp(disch:=omega) only[AW,BH,BL,hbat])<|ve (True/\0<Aa (iD (AS c)::Aj bgC (Ai (i+1)<|Bd.L b))/\True) ?_;refine zAa (t:=AS c==(v:Int)) (by kernel_rfl) (λhc=>?_)<|λhc=>?_;simp only[beq_iff_eq]at hc;refine vd [0,1,2,3,4,6,10,11,12,14,5,7,8,9,13,15,16,17,18,19,20,21,22]<|vr 12 (True/\True/\0<4/\ix ↑v (Aa (Bd.R b):Int) (Aj atR (Bd.R b)≠[]))<|vs 32 (AE<|Ai (AC (v:Int)*3)<|Aj atR<|Bd.R b) (AE (Am (nsD V) (Aa V)::iD (Aa V)::Am (Al rowV<|AG<|Ap (Bd.R b) v Ae) (Aa<|AG<|Ap (Bd.R b) v Ae)::Aj atR (Ai (v+1)<|Bd.R b))) (by simp(disch:=omega) only[AW,hav])<|vr 4 (True/\0<Aa (Am (nsD V) (Aa V)::iD (Aa V)::Am (Al rowV<|AG<|Ap (Bd.R b) v Ae) (Aa<|AG<|Ap (Bd.R b) v Ae)::Aj atR (Ai (v+1)<|Bd.R b))/\0<5/\ix ↑i (Aa (Bd.L b):Int) (Aj bgC (Bd.L b)≠[]))<|vs 40 (AE<|Ai (AC (i:Int)*3)<|Aj bgC<|Bd.L b) (AE (iD ↑(Bg.v c)::u32D (AP c)::iD (AS c)::Aj bgC (Ai (i+1)<|Bd.L b))) (by simp(disch:=omega) only[AW,BH,BL,hbat])<|vr 2 (True/\0<Aa (u32D (AP c)::iD (AS c)::Aj bgC (Ai (i+1)<|Bd.L b)))<|vc hic<|vr 4 (((1=1/\1<=2/\1=1/\2<=2/\True)/\Ab=Ab)/\((2=2/\2<=2/\True)/\0<2/\2=2/\2<=16777216/\1<=9223372036854775807)/\Bk.arr (chB<|chI (Bd.L b) V v i)=Ab/\Aa (AK<|chB<|chI (Bd.L b) V v i)=Aa (chI (Bd.L b) V v i)*2/\Aa (chI (Bd.L b) V v i)*2=Aa (chI (Bd.L b) V v i)*2/\Ba (chB<|chI (Bd.L b) V v i)=200/\Bb (chB<|chI (Bd.L b) V v i)=2/\2=2/\0<2/\0<32/\200=200/\(Aa (chI (Bd.L b) V v i)+1)*32<=140737488355328/\2=2/\Bh (AY<|chB<|chI (Bd.L b) V v i)=Ad/\(Ad=Ad\/Bi (AY<|chB<|chI (Bd.L b) V v i)=Ab))<|vnil<|zD<|vN<|zB rfl<|vr 2 (i6 (↑i+1)) ?_;refine vnil<|zC ?_;rotate_left;simp only[beq_eq_false_iff_ne]at hc;refine zQ<|zD<|vN<|zB rfl<|vr 2 (i6 (↑i+1))<|vnil<|zC ?_;rotate_left
  ·have hcp:c.p=(v:Int):=by assumption
   rw[if_pos hcp]at hsu;have hn2:=hnm (chI b.L V v i++[(i,zC4 (λu=>c.k.testBit u) V)]);rw[happ]at hn2;refine⟨i+1,by omega,by omega,?_⟩;rw[hsu,Br,happ];refine wkn (fr 49 [(0,Af 4 0),(1,iD v),(4,nl),(5,Ao 9 0 (Aa (chI (Bd.L b) V v i)+1) ((Aa (chI (Bd.L b) V v i)+1)*2) Ab),(6,iD i),(11,iD (Aa (Bd.L b):Int)),(12,iD ↑(i+1)),(24,bD (AS c==(v:Int))),(26,iD i),(27,Af 4 0),(28,Af 4 0),(29,Af 4 6),(30,(q15_ b)),(31,iD v),(32,AE ((q5_ V)::iD (Aa V)::Am (Al rowV (AG (Ap (Bd.R b) v Ae))) (Aa (AG (Ap (Bd.R b) v Ae)))::Aj atR (Ai (v+1) (Bd.R b)))),(33,AE ((q5_ V)::iD (Aa V)::Am (Al rowV (AG (Ap (Bd.R b) v Ae))) (Aa (AG (Ap (Bd.R b) v Ae)))::Aj atR (Ai (v+1) (Bd.R b)))),(34,(q5_ V)),(35,Af 4 0),(36,Af 4 0),(37,Af 4 5),(38,(q16_ b)),(39,iD i),(40,AE (iD ↑(Bg.v c)::u32D (AP c)::iD (AS c)::Aj bgC (Ai (i+1) (Bd.L b)))),(41,AE (u32D (AP c)::iD (AS c)::Aj bgC (Ai (i+1) (Bd.L b)))),(42,dig (AP c)),(43,Am (nsD (zC4 (λ(v:Nat)=>Bs (AP c) v) V)) (Aa (zC4 (λ(v:Nat)=>Bs (AP c) v) V))),(44,AF [iD i,Am (nsD (zC4 (λ(v:Nat)=>Bs (AP c) v) V)) (Aa (zC4 (λ(v:Nat)=>Bs (AP c) v) V))]),(45,Ao 10 0 1 2 Ab),(46,Ao 9 0 (Aa (chI (Bd.L b) V v i)+1) ((Aa (chI (Bd.L b) V v i)+1)*2) Ab),(47,iD ↑(i+1))]) [Ak [iD ↑(Bd.n b),iD ↑(Bd.f b),(q17_ b),(q18_ b),(q19_ b)] (31:TypeId) 0 Ad Ad Aq,Ak [nl0,nl0,nl0,nl0,nl0] (46:TypeId) 0 Ad Ad Aq,Ak [iD ↑(Bd.n b),Ao 3 0 (Aa (Bd.A b)) (Aa (Bd.A b)) Ab] (77:TypeId) 0 Ad Ad Aq,Ak (Al u32D (Bd.E b)) (36:TypeId) 1 Ab Ab Aq,Ak [iD ↑(Bd.n b),iD ↑(Bd.f b),(q17_ b),(q18_ b),(q19_ b),(q16_ b),(q15_ b),Ao 5 0 (Bd.n b) (Bd.n b) Ab,Ao 6 0 (Bd.n b) (Bd.n b) Ab,Ao 7 0 (Bd.f b) (Bd.f b) Ab] (120:TypeId) 0 Ad Ad Aq,Ak (Al (zAi 9) c5) (170:TypeId) 1 Ab Ad A0,Ak (Al (zAi 9) c6) (177:TypeId) 1 Ab Ad A0,Ak c7 (88:TypeId) 1 Ab Ad Aq,Ak c8 t8 0 Ab Ad (BC ks),Ak (Aj chC (chI (Bd.L b) V v i)++[iD i,Am (nsD (zC4 (λ(v:Nat)=>Bs (AP c) v) V)) (Aa (zC4 (λ(v:Nat)=>Bs (AP c) v) V))]) (200:TypeId) 2 Ab Ad Aq,Ak [iD i,Am (nsD (zC4 (λ(v:Nat)=>Bs (AP c) v) V)) (Aa (zC4 (λ(v:Nat)=>Bs (AP c) v) V))] 200 2 Ab Ad Aq] ?_;rw[k5,k6];refine zA4 (N:=10) (4<10/\9<10/\True) rfl hn2 (λk hk=>zW4 k (by omega)) ?_ ⟨by omega,by omega,trivial⟩;refine vk 11 ?_;all_goals exact λk hk=>zW4 k (by omega)
  have hcp:¬c.p=(v:Int):=by assumption
  rw[if_neg hcp,Ct]at hsu;refine⟨i+1,by omega,by omega,?_⟩;rw[hsu];refine vk 10 ?_;all_goals exact λk hk=>zW4 k (by omega)
 obtain rfl:i=b.L.length:=by omega
 focus
  refine vAu<|zA<|vF ((Aa (Bd.L b):Int)<(Aa (Bd.L b):Int))<|vZ2<|vA ?_;refine veT<|zE ?_;refine zM (True) [Ao 9 0 (Aa<|chI (Bd.L b) V v<|Aa<|Bd.L b) (Aa (chI (Bd.L b) V v<|Aa<|Bd.L b)*2) Ab] (.inr rfl) ?_;rotate_left
 exact⟨by kernel_rfl,by kernel_rfl⟩
end
section
open Go.RowKit
section
variable {P : Program} {T : Par}
theorem Acts.res{f:FuncId}{args:List D}{st st':List Bk}{x x':D}{ch:List Nat}(h:Acts P f args st ch x st')(hx:LeD x x'):Acts P f args st ch x' st':=λβ I w vs hr hsr hinj hfz hdom hi hg=>(h β I w vs hr hsr hinj hfz hdom hi hg).mono λe w' ⟨v,β',I',p0,p1,p2,p3,p4,p5,p6,p7,p8⟩=>⟨v,β',I',p0,p1,p2,p3,p4,p5,p6,p7,hx _ _ _ _ p8⟩
theorem Acts.cutN{f:FuncId}{args:List D}{st st0 bs:List Bk}{x:D}{ch:List Nat}(h:Acts P f args st ch x (st0++bs))(hm:st.length<=st0.length)(hn:∀b∈st0,namB st0.length b)(hx:∀j,st0.length<=j->refs j x=Ad):Acts P f args st ch x st0:=by
 have ht:(st0++bs).take st0.length=st0:=List.take_left' rfl
 have:=Acts.cut st0.length h hm ?_
 ·rw[ht]at this;exact this
 unfold zEn;simp only[BD,Bv,BS,Bool.not_eq_true',Ci];intro i hi;refine⟨by simp only[zV,hx _ (show st0.length<=st0.length+i by omega),Bool.or_false],λe he=>?_⟩;rw[ht]at he;rcases hn e he with h|h
 ·exact .inl h
 exact .inr (h _ (by omega))
theorem Acts.post{f:FuncId}{args:List D}{st s s':List Bk}{x x':D}{ch:List Nat}(h:Acts P f args st ch x s)(hw:Weak T [x] s [x'] s')(hk:∀k,k<st.length->T.keep k=Ab):Acts P f args st ch x' s':=λβ I w vs hr hsr hinj hfz hdom hi hg=>by
 refine(h β I w vs hr hsr hinj hfz hdom hi hg).mono ?_;rintro e w' ⟨v,β',I',rfl,p1,p2,p3,p4,p5,p6,p7,p8⟩;have hs:Sim β' I' w' [x] s [v]:=⟨by simp only[RelT];exact⟨v,[],rfl,p8,rfl⟩,p4,p5,p6,p7,p1,hg.mono p2.fix⟩;obtain⟨β2,I2,s2,t2,k2⟩:=hw β' I' w' _ hs;have hx:=s2.rel;simp only[RelT]at hx;obtain⟨v2,us,hv,hx,_⟩:=hx;simp only[BT.injEq]at hv;obtain⟨rfl,_⟩:=hv;exact⟨v,β2,I2,rfl,s2.imb,p2.trans t2,λk y hc hb=>k2 k y (hk k (hdom k y hb)) (p3 k y hc hb),s2.sr,s2.inj,s2.fz,s2.dom,hx⟩
theorem Weak.phant{sl:List D}{st:List Bk}(b:Bk):Weak T sl st sl (st++[b]):=λβ I w tm h=>by
 have hk:∀k y,β k=Ax y->(st++[b])[k]?=st[k]?:=λk y hy=>CN (h.dom k y hy);refine⟨β,I,⟨h.rel,λk bb cap hb=>?_,h.inj,λk bb c j e hb he hi=>?_,λk x hb=>?_,h.imb,h.gl⟩,Stp.refl _ _ _,Kp.refl _ _⟩
 ·rw[hk k _ hb];exact h.sr k bb cap hb
 ·rw[hk k _ hb]at he;exact h.fz k bb c j e hb he hi
 have:=h.dom k x hb
 simp;omega
theorem Weak.nilS{sl:List D}{st:List Bk}(s k:Nat)(wh:Bool)(hs:sl[s]?=Ax (.val (.slice AJ 0 0))):Weak T sl st (sl.set s (.osl k 0 0 0 wh)) st:=λβ I w tm h=>by
 refine⟨β,I,⟨RelT.of_get ?_ λi d v hd hv=>?_,h.sr,h.inj,h.fz,h.dom,h.imb,h.gl⟩,Stp.refl _ _ _,Kp.refl _ _⟩
 ·rw[List.length_set];exact h.rel.length
 rw[BU]at hd;split at hd
 ·rename_i e;subst e;split at hd
  ·cases hd;obtain⟨v2,h1,h2⟩:=h.rel.get s _ hs;rw[hv]at h1;cases h1;simp only[Rel]at h2⊢;exact .inl ⟨trivial,trivial,h2⟩
  cases hd
 obtain⟨v2,h1,h2⟩:=h.rel.get i d hd;rw[hv]at h1;cases h1;exact h2
end
end
section
open Go.RowKit Go.Shelf Go.Lib
theorem zRf{P:Program}{f:FuncId}{us:List Value}{v:Value}(h:∀I w,Gl I w->Calls P f us.toArray w λe w'=>e= .returned v/\w=w'):Pure P f (us.map .val) [] (.val v):=by
 intro I w vs hr hi hg;rw[zKn us vs hr];refine(h I w hg).mono ?_;rintro e w' ⟨rfl,rfl⟩;exact⟨v,I,noB,rfl,Ext.refl _,hi,Fix.refl _ _,λ_ _ h=> .inl h,λ_ _ _ h=>(by cases h),λ_ _ _ h=>(by cases h),λ_ _ _ _ _ h=>(by cases h),λ_ _ _ _ _ h=>(by cases h),λ_ _ h=>(by cases h),by simp only[Rel],by simp⟩
section
variable {P : Program} {I : Im} {w : World} {β : Be} {st : List Bk}
theorem zM9:∀(ys xs pre zs:List D),xs.length=ys.length->setAt (pre++xs++zs) pre.length ys=pre++ys++zs
 |[],xs,pre,zs,hl=>by
  obtain rfl:xs=[]:=List.eq_nil_of_length_eq_zero (by simpa using hl);rfl
 |y::ys,[],pre,zs,hl=>by simp at hl
 |y::ys,x::xs,pre,zs,hl=>by
  simp only[setAt];have e1:(pre++x::xs++zs).set pre.length y=(pre++[y])++xs++zs:=by simp
  rw[e1]
  have:=zM9 ys xs (pre++[y]) zs (by simpa using hl)
  simp only[Br,BV,BW]at this;rw[this];simp
theorem acts_fill{f:FuncId}{k n:Nat}{e:Bk}{wh:Bool}{us vs:List Value}{margs:List D}{more:List Value}(hmore:∀I w β vs,RelT I w β margs vs->vs=more)(he:st[k]?=Ax e)(hkd:e.kd.isMap=Ad)(hf:e.fz=Ad)(hc:e.cells.take n=us.map .val)(hn:n<=e.cells.length)(hu:us.length=n)(hv:vs.length=n)(h1:∀v∈vs,v.oneCell'=Ab)(hpos:0<n)
  (h:∀b c w,(∀j,j<n->w.cell? ⟨b,0+j,AJ⟩=Ax (us.getD j undef))->(∀j,j<n->w.frozen? ⟨b,0+j,AJ⟩=Ad)->n<=c->Calls P f (#[.slice (Ax ⟨b,0,AJ⟩) n c]++more.toArray) w λx w'=>x= .returned (.tuple #[])/\∃q,w'=(w.drewN q).setCells b 0 vs):
  Acts P f (.osl k 0 n n wh::margs) st [] (.val (.tuple #[])) (st.set k {e with cells:=vs.map .val++e.cells.drop n}):=by
 intro β I w xs hr hsr hinj hfz hdom hi hg;simp only[RelT]at hr;obtain⟨v,ys,rfl,hr,hys⟩:=hr;obtain rfl:=hmore _ _ _ _ hys;simp only[Rel]at hr;rcases hr with⟨e0,_,rfl⟩|⟨e0,_,_,a,c,rfl,_⟩|⟨b,c,cap,hb,rfl,k1,k2,k3⟩
 ·omega
 ·omega
 have hs0:Sim β I w ([]:List D) st ({tmps:=#[],defers:=[]}:Act).tmps.toList:=⟨by simp only[RelT],hsr,hinj,hfz,hdom,hi,hg⟩;obtain⟨e',he',hown⟩:=hsr k b c hb;rw[he]at he';cases he';obtain⟨cur,c1,c2,c3,c4⟩:=hown.c hkd;have hul:(cur.take n)=us:=by
  have hx:RelL I w (if e.nob then noB else β) (e.cells.take n) (cur.take n):=by
   refine RelL.of_get (by simp;omega) λi d v hd hv=>?_;rw[Cu]at hd hv;split at hd
   ·rename_i hi;rw[if_pos hi]at hv;obtain⟨v',k1,k2,k3⟩:=c3.get i d hd;rw[Cu,if_pos (by omega)]at k1;rw[hv]at k1;cases k1;exact⟨k2,k3⟩
   cases hd
  rw[hc]at hx;exact zQ8 hx
 have hpre:=(hs0.put (off:=0) (cs:=e.cells) (vs:=cur.take e.cells.length) (ks:=[]) hb he hf hkd (by simp) (RelL.mono (zAu _) _ _ (BeLe.refl _) _ _ c3) (by simp) AJ undef).2.2;have hlc:(cur.take e.cells.length).length=e.cells.length:=c3.length.symm;have e1:(#[Value.slice (Ax ⟨b,0,AJ⟩) n cap]++ys.toArray)=(Value.slice (Ax ⟨b,0,AJ⟩) n cap::ys).toArray:=by apply Array.ext';simp
 rw[<-e1];refine(h b cap w (λj hj=>?_) (λj hj=>(hpre j (by omega)).2) k1).mono ?_
 ·have hlt:j<cur.length:=by omega
  rw[<-hul,AI,Cu,if_pos hj,AL hlt];simp[World.cell?,c1,hlt]
 rintro x w' ⟨rfl,q,rfl⟩;obtain⟨s1,s2,s3⟩:=(hs0.drew q).put (off:=0) (cs:=vs.map .val) (vs:=vs) (ks:=[]) hb he hf hkd (by simp) (zJ5 h1) (by simp;omega) AJ undef;have hset2:setAt e.cells 0 (vs.map .val)=vs.map .val++e.cells.drop n:=by
  have:=zM9 (vs.map .val) (e.cells.take n) [] (e.cells.drop n) (by simp;omega)
  simpa[Cj]using this
 rw[hset2]at s1;exact⟨_,β,_,rfl,s1.imb,(Stp.drew β I w q).trans s2,λ_ _ _ h=>h,s1.sr,s1.inj,s1.fz,s1.dom,by simp only[Rel]⟩
end
theorem small_c(n:Nat)(h:n<100):Pure Ay 157 [.val (.int .i64 n)] [] (.val (.string ⟨(AH n).toArray⟩)):=
 zG3 (us:=[.int .i64 n]) λw=>(Tryz.internal_strconv_small n h w).mono λe w' h=>⟨h.1,h.2.symm⟩
theorem zTd(u:Nat)(h1:1<=u)(h2:u<18446744073709551616):Pure Ay 158 [.val (.int .u64 u)] [] (.val (.int .i64 (AN u))):=by
 refine zRf (us:=[.int .u64 u]) λI w hG=>?_;obtain⟨hnd,h19⟩:=Lib.numDigits_eq u h1 h2;have hL:BX u<=64:=Lib.bitLen_le u 64 (AT _) h2;have hcell:w.cell? ⟨1,Lib.l10 (BX u),AJ⟩=Ax (.int .u64 ((10^Lib.l10 (BX u):Nat):Int)):=by
  refine(hG (1,Lib.pow10Tab.map λz=>An .u64 z) (by simp[globT]) (Lib.l10 (BX u)) _ ?_).2;rw[A9,<-Lib.pow10Tab_at _ (by omega)];rw[AI,AL (by rw[Lib.pow10Tab_length];omega)];rfl
 have hto:((u:Int)).toNat=u:=by omega
 generalize hq:Lib.l10 (BX u)=q at hnd h19 hcell;generalize hT:10^q=T at hnd hcell;have h20:q<20:=by omega
 have Hnd:=Lib.hid hnd;clear hnd;clear hG;go_enter Tryz.func158,Tryz.ntmps158;go_wp2_with fail;refine(Tryz.bits_Len64 (u:Int) w (by omega) (by omega)).mono ?_;rintro e w' ⟨rfl,rfl⟩;rw[hto];go_wp2_with fail;refine(Tryz.internal_strconv_log10Pow2 _ hL _).mono ?_;rintro e w' ⟨rfl,rfl⟩;rw[hq];go_wp2_with fail;all_goals (
  refine(Tryz.internal_strconv_bool2_int _ _).mono ?_;rintro e w' ⟨rfl,rfl⟩)
 all_goals go_wp2_with fail
 all_goals go_ret
 all_goals (
  refine⟨?_,rfl⟩;have hnd:=Hnd.out;congr 2;split at hnd<;>simp_all<;>omega)
open Go.Sort in
theorem zTv{st:List Bk}{k u n:Nat}{e:Bk}{wh:Bool}(hn:n=AN u)(he:st[k]?=Ax e)(hkd:e.kd.isMap=Ad)(hf:e.fz=Ad)(hc:e.cells.take n=BM n (.val (.int .u8 0)))(hl:n<=e.cells.length)(hu:u<18446744073709551616):
  Acts Ay 159 [.osl k 0 n n wh, .val (.int .u64 u)] st [] (.val (.tuple #[])) (st.set k {e with cells:=(BY (AH u)).map .val++e.cells.drop n}):=by
 have hpos:0<n:=by rw[hn];unfold AN;split<;>omega
 have hdl:(AH u).length=n:=by rw[Cv,hn]
 refine acts_fill (us:=BM n (.int .u8 0)) (more:=[.int .u64 u]) (λI w β vs h=>?_) he hkd hf (by rw[hc,List.map_replicate]) hl (by simp) (by rw[Lib.byteCells_length,hdl]) (λv hv=>?_) hpos (λb c w h1 h2 h3=>?_)
 ·exact zKn [.int .u64 u] vs h
 ·obtain⟨x,_,rfl⟩:=A4.1 hv;rfl
 have hH:Holds (λ(b:UInt8)=>An .u8 (b.toNat:Int)) w b 0 (Cx n (0:UInt8)):=λj hj=>by
  have hj':j<n:=by simpa using hj
  refine⟨?_,h2 j hj'⟩;rw[h1 j hj',AI,List.getElem?_replicate,if_pos hj',getElem!_pos _ j hj];simp
 have main:=Tryz.internal_strconv_formatBase10 b 0 c u (Cx n (0:UInt8)) w hH (by
  rw[Cy,hn];exact Lib.lt_pow_nDigits u) hu (by
  rw[Cy,hn]
  have:=Cz u hu;omega)
 rw[Cy]at main;refine main.mono ?_;rintro x w' ⟨rfl,q,v',dk,rfl,hfm⟩;refine⟨rfl,q,?_⟩;have hsz:=hfm.size;have hdk:dk.toList=AH u:=by
  apply List.ext_getElem
  ·rw[Array.length_toList,hsz,hdl]
  intro j a b';subst hn;rw[Lib.row_is_numeral hfm j b',Array.getElem_toList,getElem!_pos dk j (by simpa using a)]
 have:=Lib.putRow_eq_setCells (λ(b:UInt8)=>An .u8 (b.toNat:Int)) w b 0 (Cx n (0:UInt8)) dk.toList q hH (by simp[hsz])
 rw[hdk]at this;rw[show(AH u).toArray=dk by rw[<-hdk]]at this;exact this
end
section
open Go.RowKit
attribute [local irreducible] seqW awp zAe zAn zAd Weak updS zAv retL Pure Acts rP setP setQ cP nP fr
set_option maxRecDepth 4096
abbrev byB(l:List UInt8):Bk:=⟨zAg l,5,1,Ab,Ad, .plain⟩
def Ta:Par:=⟨λf=>f==102||f==126||f==140||f==159,λ_ _=>AJ,λk=>k==1,λ_=>Ad,λ_=>Ad⟩
theorem Ta_ok:zBd Ay Ta:=by intro t n f h;cases h
theorem zC5(a b:List UInt8):zAg a++zAg b=zAg (a++b):=by simp[zAg]
theorem zBe(a:List UInt8):(zAg a).length=a.length:=by simp[zAg]
theorem zHa(l:List UInt8):(BY l).map Ah=zAg l:=by simp[BY,zAg]
theorem zMg(l:List UInt8):(zAg l).map zKf=zAg l:=by simp[zAg,zKf]
theorem zX6(l:List UInt8)(r:List D)(n:Nat)(h:l.length=n):(zAg l++r).take n=zAg l:=by
 rw[CO (by rw[zBe];omega),BN (by rw[zBe];omega)]
theorem bs_dl(l:List UInt8):(bs l).data.toList=l:=rfl
theorem dd_len(u:Nat)(h:u<18446744073709551616):(AH u).length<=20:=by
 rw[Cv];exact Cz u h
set_option maxHeartbeats 2000000 in
theorem zSo(l:List UInt8)(u:Nat)(n:Nat)(hn:l.length=n)(hl:n<=1000000000)(hu:u<18446744073709551616):Acts Ay 140 [.osl 0 0 n n Ab, .val (.int .u64 u), .val (.int .i64 10)] [byB l] [0] (.osl 0 0 (n+(AH u).length) (n+(AH u).length) Ab) [byB (l++AH u)]:=by
 subst hn;have hd:=dd_len u hu;by_cases h1:u<100
 ·refine zAj Ta_ok mixed Tryz.func140 rfl (by intro k hk;match k,hk with|0,_=>exact .inr (by simp)|1,_=>exact .inl rfl) ?_;focus
   refine vAu<|zA<|vAe<|vt<|zA<|vAe<|vT ((u:Int)<(100:Int)) ?_;refine vA<|vr 3 (i6 (u:Int))<|vc (small_c u h1)<|vr 1 (Bk.arr (byB l)=Ab/\Aa (AK<|byB l)=Aa l*1/\Aa l=Aa l*1/\Ba (byB l)=5/\Bb (byB l)=1/\Aa (zAg<|Bj<|Bl<|AQ<|Bw<|AH u)=Aa (Bj<|Bl<|AQ<|Bw<|AH u)*1/\0<1/\0<1/\5=5/\(Aa l+Aa (Bj<|Bl<|AQ<|Bw<|AH u))*1<=140737488355328/\1=1/\Bh (AY<|byB l)=Ad/\(Ad=Ad\/Bi (AY<|byB l)=Ab)) (vb 0 (Ak (AK (byB l)++zAg (Bj<|Bl<|AQ<|Bw<|AH u)) (Ba<|byB l) (Bb<|byB l) Ab Ad<|AY<|byB l) (Ak (zAg (l++AH u)) (5:TypeId) 1 Ab Ad Aq) (by simp(disch:=omega) only[zC5])<|vrT 1<|vs 6 (Ao 0 0 (Aa l+Aa (Bj<|Bl<|AQ<|Bw<|AH u)) ((Aa l+Aa (Bj<|Bl<|AQ<|Bw<|AH u))*1) Ab) (Ao 0 0 (Aa l+Aa (AH u)) (Aa l+Aa (AH u)) Ab) (by simp(disch:=omega) only[A3])<|veT<|zE<|zG<|zG ?_) ⟨(by kernel_rfl),⟨(by simp[zBe]),⟨(by omega),⟨(by kernel_rfl),⟨(by kernel_rfl),⟨(by simp[zBe]),⟨(by omega),⟨(by omega),⟨(by kernel_rfl),⟨(by(simp;omega)),⟨(by kernel_rfl),⟨(by kernel_rfl),(by simp)⟩⟩⟩⟩⟩⟩⟩⟩⟩⟩⟩⟩;refine zM (True) [Ao 0 0 (Aa l+Aa (AH u)) (Aa l+Aa (AH u)) Ab] (.inr rfl) ?_;rotate_left
  exact⟨by kernel_rfl,by kernel_rfl⟩
 have h2:AN u<=20:=Cz u hu;have hz:∀n,n<=20->(BM 24 (Ah (.int .u8 0))).take n=BM n (.val (.int .u8 0)):=λn h=>by rw[List.take_replicate,Nat.min_eq_left (by omega)]
 have hx:=Cv u;have hk:∀r,(zAg (AH u)++r).take (AN u)=zAg (AH u):=λr=>zX6 _ r _ hx;have main:Acts Ay 140 [.osl 0 0 l.length l.length Ab, .val (.int .u64 u), .val (.int .i64 10)] [byB l] [0] (.osl 0 0 (l.length+(AH u).length) (l.length+(AH u).length) Ab) [byB (l++AH u),⟨Al (zAi 0) (zAg (AH u)++Ai (AN u) (BM 24 (.val (.int .u8 0)))),237,0,Ad,Ad, .plain⟩]:=by
  refine zAj Ta_ok mixed Tryz.func140 rfl (by intro k hk;match k,hk with|0,_=>exact .inr (by simp)|1,_=>exact .inl rfl) ?_;focus
   refine vAu<|zA<|vAe<|vt<|zA<|vAe<|vF ((u:Int)<(100:Int)) ?_;refine vK<|vAe<|vA<|vrT 1<|vc (zTd u (by omega) hu)<|veT<|vA<|vr 2 (True/\(0:Int)<=(↑(AN u):Int)/\0<1/\AC (↑(AN u):Int)<=24/\24<=maxLen) ?_;refine vs 21 (Ao 1 0 (AC (↑(AN u):Int)) (AC (↑(AN u):Int)*1) Ad) (Ao 1 0 (AN u) (AN u) Ad) (by simp(disch:=omega) only[AW,A3])<|vrT 1<|vnt [byB l,Ak [Ah<|An As 0,Ah<|An As 0,Ah<|An As 0,Ah<|An As 0,Ah<|An As 0,Ah<|An As 0,Ah<|An As 0,Ah<|An As 0,Ah<|An As 0,Ah<|An As 0,Ah<|An As 0,Ah<|An As 0,Ah<|An As 0,Ah<|An As 0,Ah<|An As 0,Ah<|An As 0,Ah<|An As 0,Ah<|An As 0,Ah<|An As 0,Ah<|An As 0,Ah<|An As 0,Ah<|An As 0,Ah<|An As 0,Ah<|An As 0] 237 0 Ad Ad Aq] ?_;refine zZ [] [] [Ao 1 0 (AN u) (AN u) Ad,Ah<|An A5 (u:Int)] [Ao 1 0 (AN u) (AN u) Ad,Ah<|An A5 (u:Int)] (AX _) (by exact zTv (k:=1) rfl rfl rfl rfl (hz _ h2) (by simp;omega) hu) ?_;refine v0s<|veT<|vA<|vr 3 (True/\(0:Int)<=(↑(AN u):Int)/\0<1/\AC (↑(AN u):Int)<=24/\24<=maxLen)<|vs 26 (Ao 1 0 (AC (↑(AN u):Int)) (AC (↑(AN u):Int)*1) Ad) (Ao 1 0 (AN u) (AN u) Ad) (by simp(disch:=omega) only[AW,A3])<|vr 1 (Ab=Ab/\Aa (zAg l)=Aa l*1/\Aa l=Aa l*1/\5=5/\1=1/\Aa (Al zKf<|Au (AN u)<|Ai 0 (Al Ah (BY<|AH u)++Ai (AN u) [Ah<|An As 0,Ah<|An As 0,Ah<|An As 0,Ah<|An As 0,Ah<|An As 0,Ah<|An As 0,Ah<|An As 0,Ah<|An As 0,Ah<|An As 0,Ah<|An As 0,Ah<|An As 0,Ah<|An As 0,Ah<|An As 0,Ah<|An As 0,Ah<|An As 0,Ah<|An As 0,Ah<|An As 0,Ah<|An As 0,Ah<|An As 0,Ah<|An As 0,Ah<|An As 0,Ah<|An As 0,Ah<|An As 0,Ah<|An As 0]))=AN u*1/\0<1/\0<1/\5=5/\(Aa l+AN u)*1<=140737488355328/\1=1/\Bh Aq=Ad/\(Ad=Ad\/Bi Aq=Ab)) ?_ ⟨(by kernel_rfl),⟨(by simp[zBe]),⟨(by omega),⟨(by kernel_rfl),⟨(by kernel_rfl),⟨(by simp[zBe,hk,zMg,zHa,hx]),⟨(by omega),⟨(by omega),⟨(by kernel_rfl),⟨(by omega),⟨(by kernel_rfl),⟨(by kernel_rfl),(by simp)⟩⟩⟩⟩⟩⟩⟩⟩⟩⟩⟩⟩;refine vb 0 (Ak (zAg l++Al zKf (Au (AN u)<|Ai 0 (Al Ah (BY<|AH u)++Ai (AN u) [Ah<|An As 0,Ah<|An As 0,Ah<|An As 0,Ah<|An As 0,Ah<|An As 0,Ah<|An As 0,Ah<|An As 0,Ah<|An As 0,Ah<|An As 0,Ah<|An As 0,Ah<|An As 0,Ah<|An As 0,Ah<|An As 0,Ah<|An As 0,Ah<|An As 0,Ah<|An As 0,Ah<|An As 0,Ah<|An As 0,Ah<|An As 0,Ah<|An As 0,Ah<|An As 0,Ah<|An As 0,Ah<|An As 0,Ah<|An As 0]))) 5 1 Ab Ad Aq) (Ak (zAg (l++AH u)) 5 1 Ab Ad Aq) (by simp(disch:=omega) only[zHa,Bf,zMg,zC5,hk])<|vrT 1<|vs 6 (Ao 0 0 (Aa l+AN u) ((Aa l+AN u)*1) Ab) (Ao 0 0 (Aa l+AN u) (Aa l+AN u) Ab) (by simp(disch:=omega) only[A3])<|veT<|zE<|zG ?_;refine zM (True) [Ao 0 0 (Aa l+AN u) (Aa l+AN u) Ab] (.inr rfl) ?_;rotate_left
  exact⟨by rw[hx];rfl,by rw[<-zHa (AH u)];kernel_rfl⟩
 exact main.cut 1 (by simp) rfl
set_option maxHeartbeats 2000000 in
theorem appIntI_c(l:List UInt8)(z:Int)(n:Nat)(hn:l.length=n)(hl:n<=900000000)(h0:-9223372036854775808<=z)(h1:z<=9223372036854775807):Acts Ay 126 [.osl 0 0 n n Ab,iD z,iD 10] [byB l] [0] (.osl 0 0 (n+(Ag z).length) (n+(Ag z).length) Ab) [byB (l++Ag z)]:=by
 subst hn;by_cases hz:z<0
 ·have e:Ag z=45::AH z.natAbs:=by unfold Ag;rw[if_pos hz]
  have e1:(A5.wrap (0-A5.wrap z))=((z.natAbs:Nat):Int):=by
   simp only[A_,IntKind.bits,IntKind.signed,Bool.false_and,Bool.false_eq_true,if_false];omega
  have j1:=(zSo (l++[45]) z.natAbs (l.length+1) (by simp) (by omega) (by omega)).atC 0 (st:=[byB (l++[45]),byB [45]]) rfl (.inl rfl) (.inl rfl) (zPo [.int .u64 z.natAbs, .int .i64 10]) (λj e0 hj he=>by match j,hj,he with|0,hj,_=>exact absurd rfl hj|1,_,he=>cases he;exact .inl rfl);have main:Acts Ay 126 [.osl 0 0 l.length l.length Ab,iD z,iD 10] [byB l] [0] (.osl 0 0 (l.length+1+(AH z.natAbs).length) (l.length+1+(AH z.natAbs).length) Ab) [byB (l++[45]++AH z.natAbs),byB [45]]:=by
   refine zAj Ta_ok mixed Tryz.func126 rfl (by intro k hk;match k,hk with|0,_=>exact .inr (by simp)|1,_=>exact .inl rfl) ?_;focus
    refine vAu<|vA<|vew [9] [] (True)<|zA<|vAe<|vT (z<0)<|vA ?_;refine vr 3 (((1=1/\1<=1/\True)/\0<1/\1=1/\1<=16777216/\1<=9223372036854775807)/\Bk.arr (byB l)=Ab/\Aa (AK<|byB l)=Aa l*1/\Aa l=Aa l*1/\Ba (byB l)=5/\Bb (byB l)=1/\1=1/\0<1/\0<1/\5=5/\(Aa l+1)*1<=140737488355328/\1=1/\Bh (AY<|byB l)=Ad/\(Ad=Ad\/Bi (AY<|byB l)=Ab)) (vb 0 (Ak (AK (byB l)++[Ah<|An As 45]) (Ba<|byB l) (Bb<|byB l) Ab Ad<|AY<|byB l) (Ak (zAg (l++[(45:UInt8)])) (5:TypeId) 1 Ab Ad Aq) (by simp(disch:=omega) only[zC5,show([Ah (An As 45)]:List D)=zAg [45]from rfl])<|vrT 1<|vs 0 (Ao 0 0 (Aa l+1) ((Aa l+1)*1) Ab) (Ao 0 0 (Aa l+1) (Aa l+1) Ab) (by simp(disch:=omega) only[A3])<|veT<|zB rfl<|vw 2 [16] [] (True)<|vs 16 (Ah<|An A5<|A_ A5 ((0:Int)-A_ A5 z)) (Ah<|An A5 (↑(BZ z):Int)) (by simp(disch:=omega) only[e1])<|veT<|vA<|vrT 3<|vnt [Ak (zAg (l++[(45:UInt8)])) (5:TypeId) 1 Ab Ad Aq,Ak (zAg [(45:UInt8)]) 5 1 Ab Ad Aq] ?_) ⟨⟨⟨(by kernel_rfl),⟨(by omega),trivial⟩⟩,(by omega)⟩,⟨(by kernel_rfl),⟨(by simp[zBe]),⟨(by omega),⟨(by kernel_rfl),⟨(by kernel_rfl),⟨(by kernel_rfl),⟨(by omega),⟨(by omega),⟨(by kernel_rfl),⟨(by omega),⟨(by kernel_rfl),⟨(by kernel_rfl),(by simp)⟩⟩⟩⟩⟩⟩⟩⟩⟩⟩⟩⟩⟩;refine zGz [] [] [Ao 0 0 (Aa l+1) (Aa l+1) Ab,Ah<|An A5 (↑(BZ z):Int),iD 10] [Ao 0 0 (Aa l+1) (Aa l+1) Ab,Ah<|An A5 (↑(BZ z):Int),iD 10] (AX _) (by exact j1) ?_;refine v0s<|veT<|zE ?_;refine zM (True) [Ao 0 0 (Aa l+1+Aa (AH<|BZ z)) (Aa l+1+Aa (AH<|BZ z)) Ab] (.inr rfl) ?_;rotate_left
   exact⟨by kernel_rfl,by kernel_rfl⟩
  have h2:=main.cut 1 (by simp) rfl;rw[e,show l++45::AH z.natAbs=l++[45]++AH z.natAbs by simp,show l.length+(45::AH z.natAbs).length=l.length+1+(AH z.natAbs).length by simp;omega];exact h2
 obtain⟨u,rfl⟩:∃u:Nat,z=u:=⟨z.toNat,by omega⟩;have e:Ag u=AH u:=Lib.itoa_nonneg u;have j1:=zSo l u l.length rfl (by omega) (by omega);rw[e];refine zAj Ta_ok mixed Tryz.func126 rfl (by intro k hk;match k,hk with|0,_=>exact .inr (by simp)|1,_=>exact .inl rfl) ?_;focus
  refine vAu<|vA<|ve (u6 (u:Int))<|zA<|vAe<|vF ((u:Int)<0)<|zQ<|zC ?_;refine zA5<|vA<|vrT 3<|vnt [byB l] ?_;refine zGz [] [] [Ao 0 0 (Aa l) (Aa l) Ab,Ah<|An A5 (u:Int),iD 10] [Ao 0 0 (Aa l) (Aa l) Ab,Ah<|An A5 (u:Int),iD 10] (AX _) (by exact j1) ?_;refine v0s<|veT<|zE ?_;refine zM (True) [Ao 0 0 (Aa l+Aa (AH u)) (Aa l+Aa (AH u)) Ab] (.inr rfl) ?_;rotate_left
 exact⟨by kernel_rfl,by kernel_rfl⟩
theorem appInt_c(l:List UInt8)(z:Int)(n:Nat)(hn:l.length=n)(hl:n<=900000000)(h0:-9223372036854775808<=z)(h1:z<=9223372036854775807):Acts Ay 102 [.osl 0 0 n n Ab,iD z,iD 10] [byB l] [0] (.osl 0 0 (n+(Ag z).length) (n+(Ag z).length) Ab) [byB (l++Ag z)]:=by
 refine zAj Ta_ok mixed Tryz.func102 rfl (by intro k hk;match k,hk with|0,_=>exact .inr (by simp)|1,_=>exact .inl rfl) ?_;focus
  refine vAu<|vA<|vrT 3<|vnt [byB l] ?_;refine zGz [] [] [Ao 0 0 n n Ab,iD z,iD 10] [Ao 0 0 n n Ab,iD z,iD 10] (AX _) (by exact appIntI_c l z n hn hl h0 h1) ?_;refine v0s<|veT<|zE ?_;refine zM (True) [Ao 0 0 (n+Aa (Ag z)) (n+Aa (Ag z)) Ab] (.inr rfl) ?_;rotate_left
 exact⟨by kernel_rfl,by kernel_rfl⟩
theorem zMo{st:List Bk}(k:Nat)(l:List UInt8)(z:Int)(n:Nat)(hn:l.length=n)(hl:n<=900000000)(h0:-9223372036854775808<=z)(h1:z<=9223372036854775807)(he:st[k]?=Ax (byB l))(hno:∀j e0,j≠k->st[j]?=Ax e0->e0.nob=Ab\/zV k e0.cells=Ad):Acts Ay 102 [.osl k 0 n n Ab,iD z,iD 10] st [k] (.osl k 0 (n+(Ag z).length) (n+(Ag z).length) Ab) (st.set k (byB (l++Ag z))):=
 (appInt_c l z n hn hl h0 h1).atC k he (.inl rfl) (.inl rfl) (zPo [.int .i64 z, .int .i64 10]) hno
inductive WT where
  |nil
  |node(v:Va)(w:Nat)(l r:WT)
namespace WT
def ht:WT->Nat
  |nil=>0
  |node _ _ l r=>max l.ht r.ht+1
def sz:WT->Nat
  |nil=>0
  |node _ _ l r=>l.sz+1+r.sz
def tot:WT->Nat
  |nil=>0
  |node _ w l r=>l.tot+w+r.tot
def lst:WT->List (Va×Nat)
  |nil=>[]
  |node v w l r=>l.lst++(v,w)::r.lst
def d:WT->D
  |nil=> .val (.pointer AJ)
  |node v w l r=> .ptr (vaC v++[natD w, .fx l.d, .fx r.d,iD (max l.ht r.ht+1:Nat),iD (l.sz+1+r.sz:Nat),natD (l.tot+w+r.tot)])
def bal(l:WT)(v:Va)(w:Nat)(r:WT):WT:=
  if r.ht+1<l.ht then match l with
    | node lv lw ll lr=>if lr.ht<=ll.ht then node lv lw ll (node v w lr r)else match lr with
      |node mv mw ml mr=>node mv mw (node lv lw ll ml) (node v w mr r)
      |nil=>nil
    |nil=>nil
  else if l.ht+1<r.ht then match r with
    | node rv rw rl rr=>if rl.ht<=rr.ht then node rv rw (node v w l rl) rr else match rl with
      |node mv mw ml mr=>node mv mw (node v w l ml) (node rv rw mr rr)
      |nil=>nil
    |nil=>nil
  else node v w l r
def cmp(desc:Bool)(a b:Va):Int:=if desc then vcmp b a else vcmp a b
def put(desc:Bool)(v:Va)(w:Nat):WT->WT
  |nil=>node v w nil nil
  |node u x l r=>if cmp desc v u<0 then bal (put desc v w l) u x r else if cmp desc v u>0 then bal l u x (put desc v w r)else node v w l r
theorem zEq:∀t:WT,t.lst.length=t.sz
  |nil=>rfl
  |node v w l r=>by simp only[lst,sz,Br,BV,zEq l,zEq r];omega
theorem ht_le_sz:∀t:WT,t.ht<=t.sz
  |nil=>AT _
  |node v w l r=>by have:=ht_le_sz l;have:=ht_le_sz r;simp only[ht,sz];omega
theorem ht_pos{t:WT}(h:0<t.ht):∃v w l r,t=node v w l r:=by
  cases t with
  |nil=>simp[ht]at h
  |node v w l r=>exact⟨v,w,l,r,rfl⟩
theorem bal_lst(l:WT)(v:Va)(w:Nat)(r:WT):(bal l v w r).lst=l.lst++(v,w)::r.lst:=by
  unfold bal;split
  · rename_i h
    obtain⟨lv,lw,ll,lr,rfl⟩:=ht_pos (t:=l) (by omega);simp only;split
    ·simp[lst]
    · obtain⟨mv,mw,ml,mr,rfl⟩:=ht_pos (t:=lr) (by omega)
      simp[lst]
  · split
    · rename_i h
      obtain⟨rv,rw',rl,rr,rfl⟩:=ht_pos (t:=r) (by omega);simp only;split
      ·simp[lst]
      · obtain⟨mv,mw,ml,mr,rfl⟩:=ht_pos (t:=rl) (by omega)
        simp[lst]
    rfl
theorem zK7:∀t:WT,(t.lst.map AG).sum=t.tot
  |nil=>rfl
  |node v w l r=>by simp only[lst,tot,BB,Bt,CA,B3,zK7 l,zK7 r];omega
theorem bal_sz(l:WT)(v:Va)(w:Nat)(r:WT):(bal l v w r).sz=l.sz+1+r.sz:=by
  rw[<-zEq,bal_lst,Br,BV,zEq,zEq];omega
theorem bal_tot(l:WT)(v:Va)(w:Nat)(r:WT):(bal l v w r).tot=l.tot+w+r.tot:=by
  rw[<-zK7,bal_lst,BB,Bt,CA,B3,zK7,zK7];simp only;omega
theorem put_le(desc:Bool)(v:Va)(w:Nat):∀t:WT,(put desc v w t).sz<=t.sz+1/\(put desc v w t).tot<=t.tot+w
  |nil=>by simp[put,sz,tot]
  | node u x l r=>by
    have h1:=put_le desc v w l;have h2:=put_le desc v w r;simp only[put];split
    ·rw[bal_sz,bal_tot];simp only[sz,tot];omega
    · split
      ·rw[bal_sz,bal_tot];simp only[sz,tot];omega
      simp only[sz,tot];omega
def Ok(t:WT):Prop:=t.sz<=1000000000/\Sm t.tot
theorem Ok.node{v:Va}{w:Nat}{l r:WT}(h:(node v w l r).Ok):l.Ok/\r.Ok/\Sm w:=by
  obtain⟨h1,h2⟩:=h;simp only[sz,tot]at h1 h2;exact⟨⟨by omega,h2.le (by omega)⟩,⟨by omega,h2.le (by omega)⟩,h2.le (by omega)⟩
end WT
abbrev zMx(v:Va)(w:Nat)(l r:WT):D:= .ptr (vaC v++[natD w, .fx l.d, .fx r.d,iD (max l.ht r.ht+1:Nat),iD (l.sz+1+r.sz:Nat),natD (l.tot+w+r.tot)])
theorem LeL.relC{I:Im}{w:World}:∀{cs cs':List D}{b o:Nat},LeL cs cs'->RelC I w cs b o->RelC I w cs' b o
  |_,_,_,_, .nil,h=>h
  | _,_,b,o, .cons h1 h2,h=>by
    simp only[RelC]at h⊢;obtain⟨⟨k1,v,k2,k3,k4⟩,k5⟩:=h;exact⟨⟨k1,v,k2,k3,h1 _ _ _ _ k4⟩,h2.relC k5⟩
theorem LeD.ptr{cs cs':List D}(h:LeL cs cs'):LeD (.ptr cs) (.ptr cs'):=λI w β v hr=>by
  simp only[Rel]at hr⊢;obtain⟨b,o,h1,h2⟩:=hr;exact⟨b,o,h1,h.relC h2⟩
theorem LeD.row{cs cs':List D}{n:Nat}(h:LeL cs cs'):LeD (.row cs n) (.row cs' n):=λI w β v hr=>by
  cases h with
  |nil=>exact hr
  | cons h1 h2=>
    simp only[Rel]at hr⊢;obtain⟨a,cap,h3,h4,h5,h6,h7⟩:=hr;refine⟨a,cap,h3,h4,h5,h6,?_⟩;rcases h7 with h7|⟨b,o,h7,h8⟩
    ·cases h7
    exact .inr ⟨b,o,h7,(LeL.cons h1 h2).relC h8⟩
theorem WT.d_node(v:Va)(w:Nat)(l r:WT):(WT.node v w l r).d=zMx v w l r:=rfl
theorem WT.one(t:WT)(I:Im)(w:World)(v:Value)(h:Rel I w noB t.d v):v.oneCell'=true:=by
  cases t with
  |nil=>simp only[WT.d,Rel]at h;subst h;rfl
  |node a b l r=>simp only[WT.d,Rel]at h;obtain⟨b,o,rfl,_⟩:=h;rfl
abbrev WT.x(t:WT):D:= .fx t.d
theorem whtd_c (t : WT):Pure Ay 116 [t.d] [] (iD (t.ht:Nat)):=by
  refine zF zBk mixed Tryz.func116 rfl ?_;cases t with
  |nil=>focus
             refine vAu<|zA<|vAe<|vt<|vAe<|zE<|zG ?_;refine vret (True)<|.inr rfl
  |node v w l r=>focus
                      refine vAu<|zA<|vAe<|vf<|vK<|vA ?_;refine ve (True/\0<3)<|zE<|vret (True)<|.inr rfl
theorem zHh(t:WT):Pure Ay 116 [t.x] [] (iD (t.ht:Nat)):=(whtd_c t).le (.cons (Bx _) .nil)
theorem wszd_c (t : WT):Pure Ay 68 [t.d] [] (iD (t.sz:Nat)):=by
  refine zF zBk mixed Tryz.func68 rfl ?_;cases t with
  |nil=>focus
             refine vAu<|zA<|vAe<|vt<|vAe<|zE<|zG ?_;refine vret (True)<|.inr rfl
  |node v w l r=>focus
                      refine vAu<|zA<|vAe<|vf<|vK<|vA ?_;refine ve (True/\0<2)<|zE<|vret (True)<|.inr rfl
theorem wsz_c(t:WT):Pure Ay 68 [t.x] [] (iD (t.sz:Nat)):=(wszd_c t).le (.cons (Bx _) .nil)
theorem wtotd_c(t:WT):Pure Ay 121 [t.d] [] (natD t.tot):=by
  refine zF zBk mixed Tryz.func121 rfl ?_;cases t with
  | nil=>
    focus
      refine vAu<|zA<|vAe<|vt<|vAe<|zE<|zG ?_;refine vret (True)<|.inr rfl
  |node v w l r=>focus
                      refine vAu<|zA<|vAe<|vf<|vK<|vA ?_;refine ve (True/\0<1)<|zE<|vret (True)<|.inr rfl
theorem zY4(t:WT):Pure Ay 121 [t.x] [] (natD t.tot):=(wtotd_c t).le (.cons (Bx _) .nil)
theorem zQl(v:Va)(w:Nat)(l r:WT):Pure Ay 116 [zMx v w l r] [] (iD ((WT.node v w l r).ht:Nat)):=whtd_c (.node v w l r)
abbrev entD(v:Va)(w:Nat):D:= .agg (vaC v++[natD w])
theorem zCz(l r:WT)(v:Va)(w:Nat)(h:(WT.node v w l r).Ok):Pure Ay 115 [l.x,entD v w,r.x] [] (WT.node v w l r).x:=by
  refine Pure.fx ?_ (WT.one _);refine zF zBk mixed Tryz.func115 rfl ?_;have h1:=l.ht_le_sz;have h2:=r.ht_le_sz;have h3:=h.1;have h4:=h.2;simp only[WT.sz,WT.tot]at h3 h4;have h5:Sm [l.tot,w,r.tot].sum:=by simp only[B3,List.sum_nil];exact h4.le (by omega)
  focus
    refine vAu<|zA<|vd [1,2,3,5,9,12,15,17,19,0,4,6,7,8,10,11,13,14,16,18,20,21,22,23,24,25]<|vr 10 (True/\4<=4)<|vca [Aw<|WT.d l] (by exact zHh _)<|vca [Aw<|WT.d r] (by exact zHh _)<|vr 2 (i6 ((if(↑(WT.ht r):Int)>(↑(WT.ht l):Int)then(↑(WT.ht r):Int)else(↑(WT.ht l):Int))+(1:Int)))<|vca [Aw<|WT.d l] (by exact wsz_c _)<|vr 1 (i6 (↑(WT.sz l)+1))<|vca [Aw<|WT.d r] (by exact wsz_c _)<|vr 1 (i6 ((↑(WT.sz l):Int)+(1:Int)+(↑(WT.sz r):Int))) ?_;refine vca [Aw<|WT.d l] (by exact zY4 _)<|vr 1 (0<1)<|vca [Aw<|WT.d r] (by exact zY4 _)<|vr 1 ((1=1/\1<=3/\1=1/\2<=3/\1=1/\3<=3/\True)/\0<1/\1=1/\3<=16777216/\3<=9223372036854775807)<|vc (nsum_c [l.tot,w,r.tot] 3 rfl (by omega) h5)<|ve ((4=4/\4<=9/\1=1/\5<=9/\1=1/\6<=9/\1=1/\7<=9/\1=1/\8<=9/\1=1/\9<=9/\True)/\Ab=Ab)<|zE ?_;refine vre (True) (AE [Ah<|An Bm<|Ar v,Ah<|An Bm<|AA v,Ah<|AD<|bs<|AB v,natD w,Aw<|WT.d l,Aw<|WT.d r,Ah<|An Bm ((if(↑(WT.ht r):Int)>(↑(WT.ht l):Int)then(↑(WT.ht r):Int)else(↑(WT.ht l):Int))+(1:Int)),Ah<|An Bm ((↑(WT.sz l):Int)+(1:Int)+(↑(WT.sz r):Int)),natD<|List.sum [WT.tot l,w,WT.tot r]]) (.inr rfl) ?_;rotate_left
  have e1:((if(r.ht:Int)>(l.ht:Int)then(r.ht:Int)else(l.ht:Int))+1)=((max l.ht r.ht+1:Nat):Int):=by
    rw[Nat.max_def];split<;>split<;>omega
  have e2:(l.sz:Int)+1+(r.sz:Int)=((l.sz+1+r.sz:Nat):Int):=by omega
  have e3:[l.tot,w,r.tot].sum=l.tot+w+r.tot:=by simp only[B3,List.sum_nil];omega
  rw[e1,e2,e3];rfl
theorem wnil_x(v:Va)(w:Nat):LeL [.val (.pointer AJ),entD v w, .val (.pointer AJ)] [WT.nil.x,entD v w,WT.nil.x]:=by
  have h:LeD (.val (.pointer AJ)) WT.nil.x:=λI w β v h=>by
    simp only[Rel]at h;subst h;simp only[Rel,WT.d];exact⟨rfl,trivial⟩
  exact .cons h (.cons (BI _) (.cons h .nil))
theorem zM3(desc:Bool)(t:WT)(a b:Va):Pure Ay 62 [.agg [bD desc,t.x],vaD a,vaD b] [] (iD (WT.cmp desc a b)):=by
  refine zF zBk mixed Tryz.func62 rfl ?_;cases desc
  ·focus
      refine vAu<|zA<|vA<|ve (True/\0<2)<|vf<|vK<|vA ?_;refine vr 2 (3<=3/\3<=3)<|vca [AF [iD<|Ar a,iD<|AA a,Ah<|AD<|bs<|AB a],AF [iD<|Ar b,iD<|AA b,Ah<|AD<|bs<|AB b]] (by exact zDp _ _)<|veT<|zE<|vret (True)<|.inr rfl
  focus
     refine vAu<|zA<|vA<|ve (True/\0<2)<|vt<|vA<|vr 2 (3<=3/\3<=3)<|vca [AF [iD<|Ar b,iD<|AA b,Ah<|AD<|bs<|AB b],AF [iD<|Ar a,iD<|AA a,Ah<|AD<|bs<|AB a]] (by exact zDp _ _)<|veT ?_;refine zE<|zG<|vret (True)<|.inr rfl
set_option maxHeartbeats 2000000 in
theorem wbal_c(l r:WT)(v:Va)(w:Nat)(h:(WT.node v w l r).Ok):Pure Ay 118 [l.x,entD v w,r.x] [] (WT.bal l v w r).x:=by
  have k1:=l.ht_le_sz;have k2:=r.ht_le_sz;have k3:=h.1;have k4:=h.2;simp only[WT.sz,WT.tot]at k3 k4;by_cases c1:r.ht+1<l.ht
  · obtain⟨lv,lw,ll,lr,rfl⟩:=WT.ht_pos (t:=l) (by omega)
    simp only[WT.sz,WT.tot]at k3 k4;have e1:(WT.node lv lw ll lr).ht=max ll.ht lr.ht+1:=rfl;have g1:=ll.ht_le_sz;have g2:=lr.ht_le_sz;rw[WT.bal.eq_def,if_pos c1];simp only;refine Pure.le (args':=[zMx lv lw ll lr,entD v w,r.x]) ?_ (.cons (Bx _) (.refl _));by_cases c2:lr.ht<=ll.ht
    · rw[if_pos c2]
      have j1:=zCz lr r v w ⟨by simp only[WT.sz];omega,k4.le (by simp only[WT.tot];omega)⟩;have j2:=zCz ll (.node v w lr r) lv lw ⟨by simp only[WT.sz];omega,k4.le (by simp only[WT.tot];omega)⟩;refine zF zBk mixed B5 rfl ?_;focus
        refine vAu<|zA<|vA<|vrT 1<|vc (zQl lv lw ll lr)<|vrT 1<|vca [Aw<|WT.d r] (by exact zHh _)<|veT<|zH<|zA ?_;refine vd [0,1,2,3,4,5,6,7,10,11,12,8,9,13,14,15,16,17]<|vw 12 [] [(4,Ab)] (i6 (↑(WT.ht r)+1)/\decide ((↑(WT.ht<|WT.node lv lw ll lr):Int)>(↑(WT.ht r):Int)+(1:Int))=Ab/\True/\True/\0<5)<|vca [Aw<|WT.d ll] (by exact zHh _)<|vr 1 (0<4)<|vca [Aw<|WT.d lr] (by exact zHh _)<|veT<|vT ((↑(WT.ht ll):Int)>=(↑(WT.ht lr):Int))<|zA<|vd [0,1,2,4,5,6,8,9,10,13,3,7,11,12,14,15,16]<|vr 14 (True/\True/\True/\0<5/\4<=9/\0<4/\4<=4)<|vc j1<|vc j2<|veT<|zE ?_;refine zL<|zG<|vret (True)<|.inr rfl
    · rw [if_neg c2]
      obtain⟨mv,mw,ml,mr,rfl⟩:=WT.ht_pos (t:=lr) (by omega);simp only[WT.sz,WT.tot]at k3 k4;have e2:(WT.node mv mw ml mr).ht=max ml.ht mr.ht+1:=rfl;have j1:=zCz ll ml lv lw ⟨by simp only[WT.sz];omega,k4.le (by simp only[WT.tot];omega)⟩;have j2:=zCz mr r v w ⟨by simp only[WT.sz];omega,k4.le (by simp only[WT.tot];omega)⟩;have j3:=zCz (.node lv lw ll ml) (.node v w mr r) mv mw ⟨by simp only[WT.sz];omega,k4.le (by simp only[WT.tot];omega)⟩;simp only[WT.sz]at k1;have o1:=zQl lv lw ll (.node mv mw ml mr);refine Pure.le (args':=[.ptr (vaC lv++[natD lw, .fx ll.d,zMx mv mw ml mr,iD (max ll.ht (WT.node mv mw ml mr).ht+1:Nat),iD (ll.sz+1+(WT.node mv mw ml mr).sz:Nat),natD (ll.tot+lw+(WT.node mv mw ml mr).tot)]),entD v w,r.x]) ?_ (.cons (LeD.ptr (.cons (.refl _) (.cons (.refl _) (.cons (.refl _) (.cons (.refl _) (.cons (.refl _) (.cons (Bx _) (.refl _)))))))) (.refl _));have o2:Pure Ay 116 [.ptr (vaC lv++[natD lw, .fx ll.d,zMx mv mw ml mr,iD (max ll.ht (WT.node mv mw ml mr).ht+1:Nat),iD (ll.sz+1+(WT.node mv mw ml mr).sz:Nat),natD (ll.tot+lw+(WT.node mv mw ml mr).tot)])] [] (iD ((WT.node lv lw ll (.node mv mw ml mr)).ht:Nat)):=by
        refine zF zBk mixed Tryz.func116 rfl ?_;focus
          refine vAu<|zA<|vAe<|vf<|vK<|vA ?_;refine ve (True/\0<3)<|zE<|vret (True)<|.inr rfl
      refine zF zBk mixed B5 rfl ?_;focus
        refine vAu<|zA<|vA<|vrT 1<|vc o2<|vrT 1<|vca [Aw<|WT.d r] (by exact zHh _)<|veT<|zH<|zA ?_;refine vd [0,1,2,3,4,5,6,7,10,11,12,8,9,13,14,15,16,17]<|vw 12 [] [(4,Ab)] (i6 (↑(WT.ht r)+1)/\decide ((↑(WT.ht<|WT.node lv lw ll<|WT.node mv mw ml mr):Int)>(↑(WT.ht r):Int)+(1:Int))=Ab/\True/\True/\0<5)<|vca [Aw<|WT.d ll] (by exact zHh _)<|vr 1 (0<4)<|vc (zQl mv mw ml mr)<|veT<|vF ((↑(WT.ht ll):Int)>=(↑(WT.ht<|WT.node mv mw ml mr):Int))<|vA<|ve (i6 (↑(WT.ht r)+1))<|vT ((↑(WT.ht<|WT.node lv lw ll<|WT.node mv mw ml mr):Int)>(↑(WT.ht r):Int)+(1:Int))<|vA<|ve (True/\0<4) ?_;refine zA<|vd [0,1,2,4,5,6,8,9,10,13,14,15,17,18,19,22,3,7,11,12,16,20,21,23,24,25]<|vr 19 (True/\True/\True/\True/\True/\0<5/\4<=9/\0<5)<|vc j1<|vr 3 (4<=9/\0<4/\4<=4)<|vc j2<|vc j3<|veT<|zE<|zL<|zG<|vret (True)<|.inr rfl
  · by_cases c3:l.ht+1<r.ht
    · obtain⟨rv,rw',rl,rr,rfl⟩:=WT.ht_pos (t:=r) (by omega)
      simp only[WT.sz,WT.tot]at k3 k4;have e1:(WT.node rv rw' rl rr).ht=max rl.ht rr.ht+1:=rfl;have g1:=rl.ht_le_sz;have g2:=rr.ht_le_sz;rw[WT.bal.eq_def,if_neg c1,if_pos c3];simp only;refine Pure.le (args':=[l.x,entD v w,zMx rv rw' rl rr]) ?_ (.cons (BI _) (.cons (BI _) (.cons (Bx _) .nil)));by_cases c2:rl.ht<=rr.ht
      · rw[if_pos c2]
        have j1:=zCz l rl v w ⟨by simp only[WT.sz];omega,k4.le (by simp only[WT.tot];omega)⟩;have j2:=zCz (.node v w l rl) rr rv rw' ⟨by simp only[WT.sz];omega,k4.le (by simp only[WT.tot];omega)⟩;refine zF zBk mixed B5 rfl ?_;focus
          refine vAu<|zA<|vA<|vrT 1<|vca [Aw<|WT.d l] (by exact zHh _)<|vrT 1<|vc (zQl rv rw' rl rr)<|veT<|zH<|zA ?_;refine vd [0,1,2,3,4,5,6,7,10,11,12,8,9,13,14,15,16,17]<|vew [] [(4,Ad)] (i6 ((↑(WT.ht<|WT.node rv rw' rl rr):Int)+(1:Int))/\decide ((↑(WT.ht l):Int)>(↑(WT.ht<|WT.node rv rw' rl rr):Int)+(1:Int))=Ad)<|vf<|vA<|ve (i6 ((↑(WT.ht<|WT.node rv rw' rl rr):Int)+(1:Int)))<|vF ((↑(WT.ht l):Int)>(↑(WT.ht<|WT.node rv rw' rl rr):Int)+(1:Int))<|zA<|vd [0,1,2,3,4,5,6,7,10,11,12,8,9,13,14,15,16,17]<|vw 12 [] [(4,Ab)] (i6 (↑(WT.ht l)+1)/\decide ((↑(WT.ht<|WT.node rv rw' rl rr):Int)>(↑(WT.ht l):Int)+(1:Int))=Ab/\True/\True/\0<4)<|vca [Aw<|WT.d rr] (by exact zHh _)<|vr 1 (0<5)<|vca [Aw<|WT.d rl] (by exact zHh _)<|veT ?_;refine vT ((↑(WT.ht rr):Int)>=(↑(WT.ht rl):Int))<|zA<|vd [0,2,3,4,7,8,9,11,12,13,1,5,6,10,14,15,16]<|vr 12 (True/\True/\True/\4<=4/\0<5)<|vc j1<|vr 2 (4<=9/\0<4)<|vc j2<|veT<|zE<|zL<|zG<|vret (True)<|.inr rfl
      · rw [if_neg c2]
        obtain⟨mv,mw,ml,mr,rfl⟩:=WT.ht_pos (t:=rl) (by omega);simp only[WT.sz,WT.tot]at k3 k4;have e2:(WT.node mv mw ml mr).ht=max ml.ht mr.ht+1:=rfl;have j1:=zCz l ml v w ⟨by simp only[WT.sz];omega,k4.le (by simp only[WT.tot];omega)⟩;have j2:=zCz mr rr rv rw' ⟨by simp only[WT.sz];omega,k4.le (by simp only[WT.tot];omega)⟩;have j3:=zCz (.node v w l ml) (.node rv rw' mr rr) mv mw ⟨by simp only[WT.sz];omega,k4.le (by simp only[WT.tot];omega)⟩;simp only[WT.sz]at k2;refine Pure.le (args':=[l.x,entD v w, .ptr (vaC rv++[natD rw',zMx mv mw ml mr, .fx rr.d,iD (max (WT.node mv mw ml mr).ht rr.ht+1:Nat),iD ((WT.node mv mw ml mr).sz+1+rr.sz:Nat),natD ((WT.node mv mw ml mr).tot+rw'+rr.tot)])]) ?_ (.cons (.refl _) (.cons (.refl _) (.cons (LeD.ptr (.cons (.refl _) (.cons (.refl _) (.cons (.refl _) (.cons (.refl _) (.cons (Bx _) (.refl _))))))) .nil)));have o2:Pure Ay 116 [.ptr (vaC rv++[natD rw',zMx mv mw ml mr, .fx rr.d,iD (max (WT.node mv mw ml mr).ht rr.ht+1:Nat),iD ((WT.node mv mw ml mr).sz+1+rr.sz:Nat),natD ((WT.node mv mw ml mr).tot+rw'+rr.tot)])] [] (iD ((WT.node rv rw' (.node mv mw ml mr) rr).ht:Nat)):=by
          refine zF zBk mixed Tryz.func116 rfl ?_;focus
            refine vAu<|zA<|vAe<|vf<|vK<|vA ?_;refine ve (True/\0<3)<|zE<|vret (True)<|.inr rfl
        refine zF zBk mixed B5 rfl ?_;focus
          refine vAu<|zA<|vA<|vrT 1<|vca [Aw<|WT.d l] (by exact zHh _)<|vrT 1<|vc o2<|veT<|zH<|zA ?_;refine vd [0,1,2,3,4,5,6,7,10,11,12,8,9,13,14,15,16,17]<|vew [] [(4,Ad)] (i6 ((↑(WT.ht<|WT.node rv rw' (WT.node mv mw ml mr) rr):Int)+(1:Int))/\decide ((↑(WT.ht l):Int)>(↑(WT.ht<|WT.node rv rw' (WT.node mv mw ml mr) rr):Int)+(1:Int))=Ad)<|vf<|vA<|ve (i6 ((↑(WT.ht<|WT.node rv rw' (WT.node mv mw ml mr) rr):Int)+(1:Int)))<|vF ((↑(WT.ht l):Int)>(↑(WT.ht<|WT.node rv rw' (WT.node mv mw ml mr) rr):Int)+(1:Int))<|zA<|vd [0,1,2,3,4,5,6,7,10,11,12,8,9,13,14,15,16,17]<|vw 12 [] [(4,Ab)] (i6 (↑(WT.ht l)+1)/\decide ((↑(WT.ht<|WT.node rv rw' (WT.node mv mw ml mr) rr):Int)>(↑(WT.ht l):Int)+(1:Int))=Ab/\True/\True/\0<4)<|vca [Aw<|WT.d rr] (by exact zHh _)<|vr 1 (0<5)<|vc (zQl mv mw ml mr)<|veT ?_;refine vF ((↑(WT.ht rr):Int)>=(↑(WT.ht<|WT.node mv mw ml mr):Int))<|vA<|ve (i6 (↑(WT.ht l)+1))<|vT ((↑(WT.ht<|WT.node rv rw' (WT.node mv mw ml mr) rr):Int)>(↑(WT.ht l):Int)+(1:Int))<|vA<|ve (True/\0<5)<|zA<|vd [0,2,3,4,7,8,9,11,12,13,15,16,17,19,20,21,1,5,6,10,14,18,22,23,24,25]<|vr 18 (True/\True/\True/\True/\True/\4<=4/\0<5)<|vc j1<|vr 4 (4<=9/\0<4/\4<=9/\0<4)<|vc j2 ?_;refine vc j3<|veT<|zE<|zL<|zG<|vret (True)<|.inr rfl
    · rw[WT.bal.eq_def,if_neg c1,if_neg c3]
      have j1:=zCz l r v w h;refine zF zBk mixed B5 rfl ?_;focus
        refine vAu<|zA<|vA<|vrT 1<|vca [Aw<|WT.d l] (by exact zHh _)<|vrT 1<|vca [Aw<|WT.d r] (by exact zHh _)<|veT<|zH<|zA ?_;refine vd [0,1,2,3,4,5,6,7,10,11,12,8,9,13,14,15,16,17]<|vew [] [(4,Ad)] (i6 (↑(WT.ht r)+1)/\decide ((↑(WT.ht l):Int)>(↑(WT.ht r):Int)+(1:Int))=Ad)<|vf<|vA<|ve (i6 (↑(WT.ht r)+1))<|vF ((↑(WT.ht l):Int)>(↑(WT.ht r):Int)+(1:Int))<|zA<|vd [0,1,2,3,4,5,6,7,10,11,12,8,9,13,14,15,16,17]<|vew [] [(4,Ad)] (i6 (↑(WT.ht l)+1)/\decide ((↑(WT.ht r):Int)>(↑(WT.ht l):Int)+(1:Int))=Ad)<|vf<|vA<|ve (i6 (↑(WT.ht l)+1)) ?_;refine vF ((↑(WT.ht r):Int)>(↑(WT.ht l):Int)+(1:Int))<|zQ<|zD<|vN<|vA<|vr 3 (4<=4)<|vc j1<|veT<|zE<|vret (True)<|.inr rfl
theorem zY5(desc:Bool)(root:WT)(v:Va)(w:Nat):∀(t:WT),t.sz+1<=1000000000->Sm (t.tot+w)->Pure Ay 84 [.agg [bD desc,root.x],t.x,entD v w] [] (t.put desc v w).x
  | .nil,h1,h2=>by
    have j1:=(zCz .nil .nil v w ⟨by simp[WT.sz],h2.le (by simp[WT.tot])⟩).le (wnil_x v w);refine Pure.le (args':=[.agg [bD desc,root.x], .val (.pointer AJ),entD v w]) ?_ (.cons (BI _) (.cons (Bx _) (.refl _)));rw[WT.put];refine zF zBk mixed Ck rfl ?_;focus
      refine vAu<|zA<|vAe<|vt<|vA<|vr 1 (4<=4)<|vc j1<|veT ?_;refine zE<|zG<|vret (True)<|.inr rfl
    all_goals skip
  | .node u x l r,h1,h2=>by
    simp only[WT.sz,WT.tot]at h1 h2;have i1:=zY5 desc root v w l (by omega) (h2.le (by omega));have i2:=zY5 desc root v w r (by omega) (h2.le (by omega));have c:=zM3 desc root v u;have p1:=WT.put_le desc v w l;have p2:=WT.put_le desc v w r;have b1:=wbal_c (l.put desc v w) r u x ⟨by simp only[WT.sz];omega,h2.le (by simp only[WT.tot];omega)⟩;have b2:=wbal_c l (r.put desc v w) u x ⟨by simp only[WT.sz];omega,h2.le (by simp only[WT.tot];omega)⟩;have b3:=zCz l r v w ⟨by simp only[WT.sz];omega,h2.le (by simp only[WT.tot];omega)⟩;refine Pure.le (args':=[.agg [bD desc,root.x],zMx u x l r,entD v w]) ?_ (.cons (BI _) (.cons (Bx _) (.refl _)));rw[WT.put];by_cases c1:WT.cmp desc v u<0
    · rw[if_pos c1]
      refine zF zBk mixed Ck rfl ?_;focus
        refine vAu<|zA<|vAe<|vf<|vK<|zA<|zA ?_;refine vd [1,3,4,5,6,0,2,7,8,9]<|vr 8 (True/\True/\True/\2<=2/\3<=4/\3<=9)<|vc c<|veT<|zH<|vAe<|vT (WT.cmp desc v u<0)<|zA<|vd [1,2,3,7,8,9,11,12,13,0,4,5,6,10,14,15,16]<|vr 12 (True/\True/\True/\2<=2/\0<5/\4<=4)<|vc i1<|vr 2 (4<=9/\0<4) ?_;refine vc b1<|veT<|zE<|zL<|zG<|vret (True)<|.inr rfl
    · rw [if_neg c1]
      by_cases c2:WT.cmp desc v u>0
      · rw[if_pos c2]
        refine zF zBk mixed Ck rfl ?_;focus
          refine vAu<|zA<|vAe<|vf<|vK<|zA<|zA ?_;refine vd [1,3,4,5,6,0,2,7,8,9]<|vr 8 (True/\True/\True/\2<=2/\3<=4/\3<=9)<|vc c<|veT<|zH<|vAe<|vF (WT.cmp desc v u<0)<|vAe<|vT (WT.cmp desc v u>(0:Int))<|zA ?_;refine vd [0,1,2,4,5,6,9,10,11,3,7,8,12,13,14,15,16]<|vr 14 (True/\True/\True/\0<5/\4<=9/\2<=2/\0<4/\4<=4)<|vc i2<|vc b2<|veT<|zE<|zL<|zG<|vret (True)<|.inr rfl
      · rw[if_neg c2]
        refine zF zBk mixed Ck rfl ?_;focus
          refine vAu<|zA<|vAe<|vf<|vK<|zA<|zA ?_;refine vd [1,3,4,5,6,0,2,7,8,9]<|vr 8 (True/\True/\True/\2<=2/\3<=4/\3<=9)<|vc c<|veT<|zH<|vAe<|vF (WT.cmp desc v u<0)<|vAe<|vF (WT.cmp desc v u>(0:Int))<|zQ ?_;refine zD<|vN<|zA<|vd [0,1,2,5,6,7,3,4,8,9,10]<|vr 9 (True/\True/\0<5/\4<=4/\0<4)<|vc b3<|veT<|zE<|vret (True)<|.inr rfl
def idV(v:Va):List UInt8:=Ag v.kind++[44]++Ag v.int++[44]++Ag (v.str.length:Nat)++[44]++v.str
def idR(r:List Va):List UInt8:=r.flatMap idV
def Vs(v:Va):Prop:=(-9223372036854775808<=v.kind/\v.kind<=9223372036854775807)/\(-9223372036854775808<=v.int/\v.int<=9223372036854775807)/\v.str.length<=10000
theorem idV_len(v:Va)(h:Vs v):(idV v).length<=10100:=by
 have h1:=BO v.kind h.1.1 h.1.2;have h2:=BO v.int h.2.1.1 h.2.1.2;have h3:=BO (v.str.length:Nat) (by omega) (by have:=h.2.2;omega);have h4:=h.2.2;simp only[idV,Br,BV,BW];omega
theorem zXa(r:List Va)(i:Nat)(h:i<r.length):idR (r.take (i+1))=idR (r.take i)++idV (r.getD i Ae):=by
 rw[By h,idR,B6,AI,AL h];simp[idR]
theorem idR_len(r:List Va)(h:∀v∈r,Vs v)(i:Nat)(hi:i<=r.length):(idR (r.take i)).length<=10100*i:=by
 induction i with
 |zero=>simp[idR]
 |succ i ih=>
  rw[zXa r i (by omega),Br]
  have:=ih (by omega)
  have:=idV_len (r.getD i Ae) (by rw[AI,AL (by omega)];exact h _ (AV _))
  omega
def isConv:Op->Bool
 | .convert s d _=>s==180&&d==9
 |_=>Ad
def Tid:Par:=⟨λf=>f==102,λ_ _=>AJ,λ_=>Ad,isConv,λ_=>Ad⟩
theorem Tid_ok:zBd Ay Tid:=by intro t n f h;cases h
theorem zSi(l:List UInt8):zFo (zAg l)=Ax l:=by
 induction l with
 |nil=>rfl
 |cons b l ih=>
  show(zFo (zAg l)).map (UInt8.ofNat ((b.toNat:Int)).toNat::·)=_;rw[ih];simp
theorem zQb(l:List UInt8):zNx (zAg l)=l:=by
 induction l with
 |nil=>rfl
 |cons b l ih=>
  show byteG (.val (.int .u8 b.toNat))::zNx (zAg l)=_;rw[ih];simp[byteG]
theorem zGy(l:List UInt8)(n:Nat)(h:l.length=n):(zAg l).take n=zAg l:=BN (by rw[zBe];omega)
def zNd(k:Nat)(st:List Bk):Bool:=st.zipIdx.all λp=>p.2==k||p.1.nob||!zV k p.1.cells
theorem zFb{k:Nat}{st:List Bk}(h:zNd k st=Ab):∀j e0,j≠k->st[j]?=Ax e0->e0.nob=Ab\/zV k e0.cells=false:=λj e0 hj he=>by
 unfold zNd at h;rw[BD]at h
 have:=h (e0,j) (List.mem_zipIdx_iff_getElem?.2 he)
 simp only[Ci,beq_iff_eq,Bool.not_eq_true']at this;rcases this with(h1|h1)|h1
 ·exact absurd h1 hj
 ·exact .inl h1
 exact .inr h1
set_option maxHeartbeats 4000000 in
theorem zC2(r:List Va)(n:Nat)(hn:r.length=n)(hl:n<=10000)(hv:∀v∈r,Vs v):Pure Ay 59 [.row (zJ r) n] [] (strD (idR r)):=by
 subst hn;refine zF Tid_ok mixed Tryz.func59 rfl ?_;focus
  refine vAu<|vAe<|zA<|vAe<|zH ?_;rotate_left
 refine zK (λ(i:Nat)=>fr 38 [(2,q7_),(3,Ao 0 0 (Aa<|idR<|Au i r) (Aa<|idR<|Au i r) Ab),(6,(q3_ r)),(7,iD<|Aa r),(8,iD i)]) (λi=>[byB<|idR<|r.take i]) (λi=>r.length-i) (λi=>i<=r.length) 0 ?_ ?_ ?_
 ·omega
 ·rw[show idR (r.take 0)=[]from rfl];refine vk 0
 rintro i h1;have hb:=idR_len r hv i (by omega);generalize ex:idR (r.take i)=x at*;rcases AR i r.length with hi|hi
 ·have hvi:Vs (r.getD i Ae):=by rw[AI,AL hi];exact hv _ (AV _)
  have e2:=zXa r i hi;rw[ex]at e2;obtain⟨v,ev⟩:∃v,v=r.getD i default:=⟨_,rfl⟩;rw[<-ev]at e2 hvi;have l1:=BO v.kind hvi.1.1 hvi.1.2;have l2:=BO v.int hvi.2.1.1 hvi.2.1.2;have l3:=hvi.2.2;have l4:=BO (v.str.length:Nat) (by omega) (by omega);have e3:x++idV v=x++Ag v.kind++[44]++Ag v.int++[44]++Ag (v.str.length:Nat)++[44]++v.str:=by simp[idV]
  focus
   refine vAu<|zA<|vT ((i:Int)<↑(Aa r))<|vKB<|vA<|vr 2 (ix ↑i ↑(Aa r) (zJ r≠[])/\3<=Aa (Ai (i*3)<|zJ r)) ?_ ⟨⟨(by omega),⟨(by omega),(by exact zHl _ (by omega))⟩⟩,(by exact zGu _ _ (by omega))⟩;refine vs 11 (AF<|Au 3<|Ai (i*3)<|zJ r) (AF<|vaC v) (by simp(disch:=omega) only[zDt,<-ev])<|ve (Ad=Ad/\Ab=Ab/\3=3/\3<=3)<|vA<|vr 3 (True/\0<3)<|vnt [byB x,Ak [iD<|Ar v,iD<|AA v,Ah<|AD<|bs<|AB v] 64 0 Ad Ad Aq] ?_;refine zGz [] [] [Ao 0 0 (Aa x) (Aa x) Ab,iD<|Ar v,iD 10] [Ao 0 0 (Aa x) (Aa x) Ab,iD<|Ar v,iD 10] (AX _) (by exact zMo 0 _ v.kind _ (by simp) (by omega) hvi.1.1 hvi.1.2 rfl (zFb rfl)) ?_;refine v0s<|vr 2 (((1=1/\1<=1/\True)/\0<1/\1=1/\1<=16777216/\1<=9223372036854775807)/\Ab=Ab/\Aa (zAg (x++Ag (Ar v)))=(Aa x+Aa (Ag<|Ar v))*1/\Aa x+Aa (Ag<|Ar v)=(Aa x+Aa (Ag<|Ar v))*1/\5=5/\1=1/\1=1/\0<1/\0<1/\5=5/\(Aa x+Aa (Ag<|Ar v)+1)*1<=140737488355328/\1=1/\Bh Aq=Ad/\(Ad=Ad\/Bi Aq=Ab)) (vb 0 (Ak (zAg (x++Ag (Ar v))++[Ah<|An As 44]) 5 1 Ab Ad Aq) (Ak (zAg (x++Ag (Ar v)++[(44:UInt8)])) 5 1 Ab Ad Aq) (by simp(disch:=omega) only[zC5,show([Ah (An As 44)]:List D)=zAg [44]from rfl])<|vrT 1<|vs 3 (Ao 0 0 (Aa x+Aa (Ag<|Ar v)+1) ((Aa x+Aa (Ag<|Ar v)+1)*1) Ab) (Ao 0 0 (Aa x+Aa (Ag<|Ar v)+1) (Aa x+Aa (Ag<|Ar v)+1) Ab) (by simp(disch:=omega) only[A3])<|veT<|zA ?_) ⟨⟨⟨(by kernel_rfl),⟨(by omega),trivial⟩⟩,(by omega)⟩,⟨(by kernel_rfl),⟨(by simp[zBe]),⟨(by omega),⟨(by kernel_rfl),⟨(by kernel_rfl),⟨(by kernel_rfl),⟨(by omega),⟨(by omega),⟨(by kernel_rfl),⟨(by omega),⟨(by kernel_rfl),⟨(by kernel_rfl),(by simp)⟩⟩⟩⟩⟩⟩⟩⟩⟩⟩⟩⟩⟩;refine zB rfl<|vr 3 (True/\0<2)<|vnt [Ak (zAg (x++Ag (Ar v)++[(44:UInt8)])) 5 1 Ab Ad Aq,Ak [iD<|Ar v,iD<|AA v,Ah<|AD<|bs<|AB v] 64 0 Ad Ad Aq,Ak (zAg [(44:UInt8)]) 5 1 Ab Ad Aq] ?_;refine zGz [] [] [Ao 0 0 (Aa x+Aa (Ag<|Ar v)+1) (Aa x+Aa (Ag<|Ar v)+1) Ab,iD<|AA v,iD 10] [Ao 0 0 (Aa x+Aa (Ag<|Ar v)+1) (Aa x+Aa (Ag<|Ar v)+1) Ab,iD<|AA v,iD 10] (AX _) (by exact zMo 0 _ v.int _ (by simp;omega) (by omega) hvi.2.1.1 hvi.2.1.2 rfl (zFb rfl)) ?_;refine v0s<|vr 2 (((1=1/\1<=1/\True)/\0<1/\1=1/\1<=16777216/\1<=9223372036854775807)/\Ab=Ab/\Aa (zAg (x++Ag (Ar v)++[(44:UInt8)]++Ag (AA v)))=(Aa x+Aa (Ag<|Ar v)+1+Aa (Ag<|AA v))*1/\Aa x+Aa (Ag<|Ar v)+1+Aa (Ag<|AA v)=(Aa x+Aa (Ag<|Ar v)+1+Aa (Ag<|AA v))*1/\5=5/\1=1/\1=1/\0<1/\0<1/\5=5/\(Aa x+Aa (Ag<|Ar v)+1+Aa (Ag<|AA v)+1)*1<=140737488355328/\1=1/\Bh Aq=Ad/\(Ad=Ad\/Bi Aq=Ab)) (vb 0 (Ak (zAg (x++Ag (Ar v)++[(44:UInt8)]++Ag (AA v))++[Ah<|An As 44]) 5 1 Ab Ad Aq) (Ak (zAg (x++Ag (Ar v)++[(44:UInt8)]++Ag (AA v)++[(44:UInt8)])) 5 1 Ab Ad Aq) (by simp(disch:=omega) only[zC5,show([Ah (An As 44)]:List D)=zAg [44]from rfl]) ?_) ⟨⟨⟨(by kernel_rfl),⟨(by omega),trivial⟩⟩,(by omega)⟩,⟨(by kernel_rfl),⟨(by(simp[zBe];omega)),⟨(by omega),⟨(by kernel_rfl),⟨(by kernel_rfl),⟨(by kernel_rfl),⟨(by omega),⟨(by omega),⟨(by kernel_rfl),⟨(by omega),⟨(by kernel_rfl),⟨(by kernel_rfl),(by simp)⟩⟩⟩⟩⟩⟩⟩⟩⟩⟩⟩⟩⟩;refine vrT 1<|vs 3 (Ao 0 0 (Aa x+Aa (Ag<|Ar v)+1+Aa (Ag<|AA v)+1) ((Aa x+Aa (Ag<|Ar v)+1+Aa (Ag<|AA v)+1)*1) Ab) (Ao 0 0 (Aa x+Aa (Ag<|Ar v)+1+Aa (Ag<|AA v)+1) (Aa x+Aa (Ag<|Ar v)+1+Aa (Ag<|AA v)+1) Ab) (by simp(disch:=omega) only[A3])<|veT<|vA<|vr 4 (True/\0<1)<|vnt [Ak (zAg (x++Ag (Ar v)++[(44:UInt8)]++Ag (AA v)++[(44:UInt8)])) 5 1 Ab Ad Aq,Ak [iD<|Ar v,iD<|AA v,Ah<|AD<|bs<|AB v] 64 0 Ad Ad Aq,Ak [Ah<|An As (↑(44:Nat):Int)] 5 1 Ab Ad Aq,Ak (zAg [(44:UInt8)]) 5 1 Ab Ad Aq] ?_;refine zGz [] [] [Ao 0 0 (Aa x+Aa (Ag<|Ar v)+1+Aa (Ag<|AA v)+1) (Aa x+Aa (Ag<|Ar v)+1+Aa (Ag<|AA v)+1) Ab,iD (Aa (AB v):Int),iD 10] [Ao 0 0 (Aa x+Aa (Ag<|Ar v)+1+Aa (Ag<|AA v)+1) (Aa x+Aa (Ag<|Ar v)+1+Aa (Ag<|AA v)+1) Ab,iD (Aa (AB v):Int),iD 10] (AX _) (by exact zMo 0 _ (v.str.length:Nat) _ (by simp;omega) (by omega) (by omega) (by omega) rfl (zFb rfl)) ?_;refine v0s<|vr 2 (((1=1/\1<=1/\True)/\0<1/\1=1/\1<=16777216/\1<=9223372036854775807)/\Ab=Ab/\Aa (zAg (x++Ag (Ar v)++[(44:UInt8)]++Ag (AA v)++[(44:UInt8)]++Ag (Aa (AB v):Int)))=(Aa x+Aa (Ag<|Ar v)+1+Aa (Ag<|AA v)+1+Aa (Ag (Aa (AB v):Int)))*1/\Aa x+Aa (Ag<|Ar v)+1+Aa (Ag<|AA v)+1+Aa (Ag (Aa (AB v):Int))=(Aa x+Aa (Ag<|Ar v)+1+Aa (Ag<|AA v)+1+Aa (Ag (Aa (AB v):Int)))*1/\5=5/\1=1/\1=1/\0<1/\0<1/\5=5/\(Aa x+Aa (Ag<|Ar v)+1+Aa (Ag<|AA v)+1+Aa (Ag (Aa (AB v):Int))+1)*1<=140737488355328/\1=1/\Bh Aq=Ad/\(Ad=Ad\/Bi Aq=Ab)) ?_ ⟨⟨⟨(by kernel_rfl),⟨(by omega),trivial⟩⟩,(by omega)⟩,⟨(by kernel_rfl),⟨(by(simp[zBe];omega)),⟨(by omega),⟨(by kernel_rfl),⟨(by kernel_rfl),⟨(by kernel_rfl),⟨(by omega),⟨(by omega),⟨(by kernel_rfl),⟨(by omega),⟨(by kernel_rfl),⟨(by kernel_rfl),(by simp)⟩⟩⟩⟩⟩⟩⟩⟩⟩⟩⟩⟩⟩;refine vb 0 (Ak (zAg (x++Ag (Ar v)++[(44:UInt8)]++Ag (AA v)++[(44:UInt8)]++Ag (Aa (AB v):Int))++[Ah<|An As 44]) 5 1 Ab Ad Aq) (Ak (zAg (x++Ag (Ar v)++[(44:UInt8)]++Ag (AA v)++[(44:UInt8)]++Ag (Aa (AB v):Int)++[(44:UInt8)])) 5 1 Ab Ad Aq) (by simp(disch:=omega) only[zC5,show([Ah (An As 44)]:List D)=zAg [44]from rfl])<|vrT 1<|vs 3 (Ao 0 0 (Aa x+Aa (Ag<|Ar v)+1+Aa (Ag<|AA v)+1+Aa (Ag (Aa (AB v):Int))+1) ((Aa x+Aa (Ag<|Ar v)+1+Aa (Ag<|AA v)+1+Aa (Ag (Aa (AB v):Int))+1)*1) Ab) (Ao 0 0 (Aa x+Aa (Ag<|Ar v)+1+Aa (Ag<|AA v)+1+Aa (Ag (Aa (AB v):Int))+1) (Aa x+Aa (Ag<|Ar v)+1+Aa (Ag<|AA v)+1+Aa (Ag (Aa (AB v):Int))+1) Ab) (by simp(disch:=omega) only[A3])<|veT<|zB rfl ?_;refine vwh 4 [] [] (True/\0<1/\Ab=Ab/\Aa (zAg (x++Ag (Ar v)++[(44:UInt8)]++Ag (AA v)++[(44:UInt8)]++Ag (Aa (AB v):Int)++[(44:UInt8)]))=(Aa x+Aa (Ag<|Ar v)+1+Aa (Ag<|AA v)+1+Aa (Ag (Aa (AB v):Int))+1)*1/\Aa x+Aa (Ag<|Ar v)+1+Aa (Ag<|AA v)+1+Aa (Ag (Aa (AB v):Int))+1=(Aa x+Aa (Ag<|Ar v)+1+Aa (Ag<|AA v)+1+Aa (Ag (Aa (AB v):Int))+1)*1/\5=5/\1=1/\Aa (zAg<|Bj<|Bl<|bs<|AB v)=Aa (Bj<|Bl<|bs<|AB v)*1/\0<1/\0<1/\5=5/\(Aa x+Aa (Ag<|Ar v)+1+Aa (Ag<|AA v)+1+Aa (Ag (Aa (AB v):Int))+1+Aa (Bj<|Bl<|bs<|AB v))*1<=140737488355328/\1=1/\Bh Aq=Ad/\(Ad=Ad\/Bi Aq=Ab)) ⟨trivial,(by omega),?_⟩ ?_;rotate_left;refine vb 0 (Ak (zAg (x++Ag (Ar v)++[(44:UInt8)]++Ag (AA v)++[(44:UInt8)]++Ag (Aa (AB v):Int)++[(44:UInt8)])++zAg (Bj<|Bl<|bs<|AB v)) 5 1 Ab Ad Aq) (Ak (zAg (x++Ag (Ar v)++[(44:UInt8)]++Ag (AA v)++[(44:UInt8)]++Ag (Aa (AB v):Int)++[(44:UInt8)]++AB v)) 5 1 Ab Ad Aq) (by simp(disch:=omega) only[bs_dl,zC5])<|vrT 1<|vs 3 (Ao 0 0 (Aa x+Aa (Ag<|Ar v)+1+Aa (Ag<|AA v)+1+Aa (Ag (Aa (AB v):Int))+1+Aa (Bj<|Bl<|bs<|AB v)) ((Aa x+Aa (Ag<|Ar v)+1+Aa (Ag<|AA v)+1+Aa (Ag (Aa (AB v):Int))+1+Aa (Bj<|Bl<|bs<|AB v))*1) Ab) (Ao 0 0 (Aa x+Aa (Ag<|Ar v)+1+Aa (Ag<|AA v)+1+Aa (Ag (Aa (AB v):Int))+1+Aa (AB v)) (Aa x+Aa (Ag<|Ar v)+1+Aa (Ag<|AA v)+1+Aa (Ag (Aa (AB v):Int))+1+Aa (AB v)) Ab) (by simp(disch:=omega) only[bs_dl,A3])<|vnil<|zD<|vN<|zB rfl<|vr 2 (i6 (↑i+1))<|vnil<|zC ?_;rotate_left
  all_goals first|(refine⟨rfl,?_,?_,rfl,rfl,?_,by decide,by decide,rfl,?_,rfl,rfl, .inl rfl⟩<;>(try simp only[zBe,Br,BV,BW,bs_dl])<;>omega)|skip
  refine⟨i+1,by omega,by omega,?_⟩;rw[e2,e3];refine wk 3 (Ao 0 0 (Aa x+Aa (Ag (Ar v))+1+Aa (Ag (AA v))+1+Aa (Ag (↑(Aa (AB v)):Int))+1+Aa (AB v)) (Aa x+Aa (Ag (Ar v))+1+Aa (Ag (AA v))+1+Aa (Ag (↑(Aa (AB v)):Int))+1+Aa (AB v)) Ab) (Ao 0 0 (Aa (x++Ag (Ar v)++[(44:UInt8)]++Ag (AA v)++[(44:UInt8)]++Ag (↑(Aa (AB v)):Int)++[(44:UInt8)]++AB v)) (Aa (x++Ag (Ar v)++[(44:UInt8)]++Ag (AA v)++[(44:UInt8)]++Ag (↑(Aa (AB v)):Int)++[(44:UInt8)]++AB v)) Ab) (by(simp;omega)) (vk 1)
 have e:i=r.length:=by omega
 subst e;rw[Bn]at ex;focus
  refine vAu<|zA<|vF ((Aa r:Int)<↑(Aa r))<|vZ2<|vA ?_;refine vr 2 (zFo (Au (Aa x)<|Ai 0<|AK<|byB x)=Ax (zNx<|Au (Aa x)<|Ai 0<|AK<|byB x)/\Aa (Au (Aa x)<|Ai 0<|AK<|byB x)=Aa x/\Program.underlying Ay 5=Ax (TypeDesc.int As)) (vs 37 (Ah<|AD<|AQ<|Bw<|zNx<|Au (Aa x)<|Ai 0<|AK<|byB x) (Ah<|AD<|AQ<|Bw x) (by simp(disch:=omega) only[Bf,zGy,zQb])<|veT<|zE ?_) ⟨(by simp[zSi,zQb,zGy,zBe]),⟨(by simp[zSi,zQb,zGy,zBe]),(by kernel_rfl)⟩⟩;refine vre (True) (Ah<|AD<|AQ<|Bw x) (.inr rfl) ?_;rotate_left
 rw[ex];rfl
end
section
open Go.RowKit
def dvl(l:List UInt8):Nat:=l.foldl (λa b=>a*10+(b.toNat-48)) 0
theorem zMa(u:Nat):dvl (AH u)=u/\∀b∈AH u,48<=b.toNat/\b.toNat<=57:=by
 induction u using Nat.strongRecOn with
 | _ u ih=>
  rw[AH];split
  ·rename_i h;have e:(UInt8.ofNat (48+u)).toNat=48+u:=by rw[UInt8.toNat_ofNat'];omega
   refine⟨by simp only[dvl,B7,List.foldl_nil,e];omega,λb hb=>?_⟩;simp only[BP]at hb;rw[hb,e];omega
  rename_i h;obtain⟨h1,h2⟩:=ih (u/10) (by omega);have e:(UInt8.ofNat (48+u%10)).toNat=48+u%10:=by rw[UInt8.toNat_ofNat'];omega
  refine⟨?_,λb hb=>?_⟩
  ·unfold dvl at h1⊢;rw[BE,h1];simp only[B7,List.foldl_nil,e];omega
  rcases CB.1 hb with hb|hb
  ·exact h2 b hb
  simp only[BP]at hb;rw[hb,e];omega
theorem zP3{a b:Int}(h:Ag a=Ag b):a=b:=by
 have key:∀z:Int,z<0->∀u:Nat,Ag z≠AH u:=λz hz u e=>by
  unfold Ag at e;rw[if_pos hz]at e
  have:=(zMa u).2 45 (by rw[<-e];simp)
  have e2:(45:UInt8).toNat=45:=rfl;omega
 by_cases ha:a<0<;>by_cases hb:b<0
 ·unfold Ag at h;rw[if_pos ha,if_pos hb]at h
  have:=congrArg dvl (BT.inj h).2
  rw[(zMa _).1,(zMa _).1]at this;omega
 ·have e:Ag b=AH b.toNat:=by unfold Ag;rw[if_neg hb]
  rw[e]at h;exact absurd h (key a ha _)
 ·have e:Ag a=AH a.toNat:=by unfold Ag;rw[if_neg ha]
  rw[e]at h;exact absurd h.symm (key b hb _)
 unfold Ag at h;rw[if_neg ha,if_neg hb]at h
 have:=congrArg dvl h
 rw[(zMa _).1,(zMa _).1]at this;omega
theorem zJo(z:Int):∀b∈Ag z,b≠44:=by
 intro b hb e;subst e;have e2:(44:UInt8).toNat=44:=rfl;unfold Ag at hb;split at hb
 ·rcases Bq.1 hb with h|h
  ·exact absurd h (by decide)
  have:=(zMa _).2 _ h;omega
 have:=(zMa _).2 _ hb;omega
theorem zXj:∀{a b s t:List UInt8},(∀x∈a,x≠44)->(∀x∈b,x≠44)->a++44::s=b++44::t->a=b/\s=t
 |[],[],s,t,_,_,h=>by simpa using h
 |[],y::b,s,t,_,hb,h=>by
  simp only[BL,BH,BT.injEq]at h;exact absurd h.1.symm (hb y (List.mem_cons_self ..))
 |x::a,[],s,t,ha,_,h=>by
  simp only[BL,BH,BT.injEq]at h;exact absurd h.1 (ha x (List.mem_cons_self ..))
 |x::a,y::b,s,t,ha,hb,h=>by
  simp only[BH,BT.injEq]at h;obtain⟨h1,h2⟩:=zXj (λz hz=>ha z (CC _ hz)) (λz hz=>hb z (CC _ hz)) h.2;exact⟨by rw[h.1,h1],h2⟩
theorem idV_inj{v w:Va}{s t:List UInt8}(h:idV v++s=idV w++t):v=w/\s=t:=by
 simp only[idV,List.append_assoc,List.singleton_append,BH,BL]at h;obtain⟨h1,h⟩:=zXj (zJo _) (zJo _) h;obtain⟨h2,h⟩:=zXj (zJo _) (zJo _) h;obtain⟨h3,h⟩:=zXj (zJo _) (zJo _) h;have g1:=zP3 h1;have g2:=zP3 h2;clear h1 h2;have h3:v.str.length=w.str.length:=by have:=zP3 h3;omega
 obtain⟨h4,h5⟩:=List.append_inj h h3;obtain⟨vk,vi,vs⟩:=v;obtain⟨wk,wi,ws⟩:=w;simp only at g1 g2 h4;subst g1 g2 h4;exact⟨rfl,h5⟩
theorem idV_ne(v:Va)(s:List UInt8):idV v++s≠[]:=by
 intro h
 have:=congrArg Aa h
 simp[idV]at this
theorem idR_inj:∀{r s:List Va},idR r=idR s->r=s
 |[],[],_=>rfl
 |[],w::s,h=>absurd h.symm (idV_ne w (idR s))
 |v::r,[],h=>absurd h (idV_ne v (idR r))
 |v::r,w::s,h=>by
  have h:idV v++idR r=idV w++idR s:=h;obtain⟨h1,h2⟩:=idV_inj h;rw[h1,idR_inj h2]
abbrev kyv(r:List Va):Value:= .string (bs (idR r))
theorem zVr(r s:List Va):vEq (kyv r) (kyv s)=decide (r=s):=by
 simp only[vEq,kyv,bs];rw[Bool.eq_iff_iff];simp only[beq_iff_eq,decide_eq_true_eq];exact⟨λh=>idR_inj h,λh=>by rw[h]⟩
theorem zWu(K:List (List Va))(r:List Va):zEo (K.map kyv) (kyv r)=K.findIdx? λs=>decide (r=s):=by
 unfold zEo;rw[List.findIdx?_map];congr 1;funext s;exact zVr r s
theorem zTx(K:List (List Va)):(K.map kyv).all (zX .string)=true:=by simp[zX]
def addK(K:List (List Va))(r:List Va):List (List Va):=if r∈K then K else K++[r]
def allK(L:List (List Va)):List (List Va):=L.foldl addK []
abbrev zHk(K:List (List Va)):D:= .mfz (K.map kyv) (K.map λ_=>bD Ab)
abbrev zGt(K:List (List Va×Nat)):D:= .mfz (K.map λp=>kyv p.1) (K.map λp=>natD p.2)
def tlk(K:List (List Va×Nat))(r:List Va):Option Nat:=(K.find? λp=>decide (r=p.1)).map (·.2)
theorem look_v(K:List (List Va))(r:List Va):zRo Ad (bD Ad) (K.map kyv) (K.map λ_=>bD Ab) (kyv r)=bD (decide (r∈K)):=by
 unfold zRo;rw[zWu];cases e:K.findIdx? λs=>decide (r=s)with
 |none=>
  rw[CP]at e;have:r∉K:=λh=>by have:=e r h;simp at this
  simp[ctD,this]
 | some i=>
  rw[Cl]at e;obtain⟨h,h1,_⟩:=e;have:r∈K:=by
   have e2:r=K[i]:=by simpa using h1
   rw[e2];exact AV h
  simp[ctD,this,AI,h]
theorem look_t(z:D)(K:List (List Va×Nat))(r:List Va):zRo Ad z (K.map λp=>kyv p.1) (K.map λp=>natD p.2) (kyv r)=match tlk K r with
  |some w=>natD w
  |none=>z:=by
 induction K with
 |nil=>rfl
 | cons p K ih=>
  unfold zRo zEo tlk at*;rw[Bt,Bt,List.findIdx?_cons,zVr,List.find?_cons];by_cases h:r=p.1
  ·rw[decide_eq_true h];rfl
  rw[decide_eq_false h];simp only[if_neg Bool.false_ne_true];rw[<-ih];cases e:(K.map λp=>kyv p.1).findIdx? (vEq (kyv r))<;>simp[ctD,AI]
theorem zG8(K:List (List Va×Nat)):(K.map λp=>kyv p.1).all (zX .string)=true:=by simp[zX]
end
section
open Go.RowKit
attribute [local irreducible] seqW awp zAe zAn zAd Weak updS zAv retL Pure Acts rP setP setQ cP nP fr
set_option maxRecDepth 4096
theorem zPl(x:List Va)(cols:List Nat)(h:∀v∈x,Vs v):∀v∈zY x cols,Vs v:=by
 intro v hv;obtain⟨c,_,rfl⟩:=A4.1 hv;rw[AI];cases e:x[c]? with
 |none=>exact⟨by decide,by decide,by decide⟩
 |some u=>exact h u (List.mem_of_getElem? e)
theorem zLr:LeD (.val (.slice AJ 0 0)) (natD 0):=by
 have e:natD 0= .row [] 0:=by simp[natD,dg]
 rw[e];exact LeD.nil_row
def wbad(f:Nat)(VT:Nat->List Rw)(x:Rw)(c:Nat×List Nat):Bool:=decide (f<=c.1)&&decide (zY x c.2∉VT c.1)
def wone(f:Nat)(VT:Nat->List Rw)(TT:Nat->List (Rw×Nat))(x:Rw)(c:Nat×List Nat):Nat:=if c.1<f then(tlk (TT c.1) (zY x c.2)).getD 0 else if zY x c.2∈VT c.1 then 1 else 0
def wtL(f:Nat)(VT:Nat->List Rw)(TT:Nat->List (Rw×Nat))(x:Rw)(ch:List (Nat×List Nat)):Nat:=(ch.map (wone f VT TT x)).foldl (· *·) 1
theorem wtL_succ(f:Nat)(VT:Nat->List Rw)(TT:Nat->List (Rw×Nat))(x:Rw)(ch:List (Nat×List Nat))(i:Nat)(h:i<ch.length):wtL f VT TT x (ch.take (i+1))=wtL f VT TT x (ch.take i)*wone f VT TT x (ch.getD i Ae):=by
 unfold wtL;rw[By h,BB,BE,AI,AL h];rfl
theorem mul0:∀(l:List Nat),l.foldl (· *·) 0=0
 |[]=>rfl
 |a::l=>by rw[B7,Cm];exact mul0 l
theorem wtL_bad{f:Nat}{VT:Nat->List Rw}{TT:Nat->List (Rw×Nat)}{x:Rw}{ch:List (Nat×List Nat)}{p:Nat}(h:p<ch.length)(hb:wbad f VT x (ch.getD p Ae)=Ab):wtL f VT TT x ch=0:=by
 have h0:wone f VT TT x (ch.getD p Ae)=0:=by
  unfold wbad at hb;simp only[BS,decide_eq_true_eq]at hb;unfold wone;rw[if_neg (by omega),if_neg hb.2]
 have e:ch=ch.take p++ch.getD p Ae::ch.drop (p+1):=by
  rw[AI,AL h,BQ,<-CQ h,Cj]
 rw[e];unfold wtL;rw[BB,BE,Bt,B7,h0,Nat.mul_zero,mul0]
theorem zD1{p:Nat->Bool}{n:Nat}(h:∃i,i<n/\p i=Ab):∃i,i<n/\p i=Ab/\∀j,j<i->p j=false:=by
 induction n with
 |zero=>obtain⟨i,h1,_⟩:=h;omega
 | succ n ih=>
  by_cases h2:∃i,i<n/\p i=Ab
  ·obtain⟨i,h3,h4,h5⟩:=ih h2;exact⟨i,by omega,h4,h5⟩
  obtain⟨i,h3,h4⟩:=h;refine⟨i,h3,h4,λj hj=>?_⟩;cases e:p j with
  |false=>rfl
  |true=>exact absurd ⟨j,by omega,e⟩ h2
def Twe:Par:=⟨λ_=>Ad,λ_ _=>AJ,λk=>decide (k<11),λ_=>Ad,λ_=>Ad⟩
theorem Twe_ok:zBd Ay Twe:=by intro t n f h;cases h
theorem keep11{st:List Bk}(h:st.length=11):∀k,k<st.length->Twe.keep k=true:=λk hk=>by
 show decide (k<11)=Ab;rw[decide_eq_true_eq];omega
theorem zG7:∀k,11<=k->Twe.keep k=false:=λk hk=>by
 show decide (k<11)=Ad;rw[decide_eq_false_iff_not];omega
abbrev chfB(l:List D):Bk:=⟨l,200,2,Ab,Ab, .plain⟩
abbrev chK(c:Nat×List Nat):Bk:=⟨chC c,200,0,Ad,Ad, .plain⟩
section
variable (b : Bd) (x : Rw) (ch : List (Nat × List Nat)) (gv gt : Nat → D) (VT : Nat → List Rw) (TT : Nat → List (Rw × Nat))
 (hx : x.length ≤ 1000) (hxs : ∀ v ∈ x, Vs v) (hch : ch.length ≤ 1000) (hc : ∀ c ∈ ch, c.1 < b.n ∧ c.2.length ≤ 1000 ∧ ∀ j ∈ c.2, j < x.length)
 (hv : ∀ c ∈ ch, b.f ≤ c.1 → gv c.1 = zHk (VT c.1)) (ht : ∀ c ∈ ch, c.1 < b.f → gt c.1 = zGt (TT c.1))
 (hS : ∀ i, i ≤ ch.length → Sm (wtL b.f VT TT x (ch.take i))) (hS1 : ∀ c ∈ ch, ∀ p ∈ TT c.1, Sm p.2)
 (c7 c8 c9 c10 : List D) (t8 t10 : TypeId) (s10 : Nat) (ks : List Value) (h5 : blw 11 (fA b.n gv)) (h6 : blw 11 (fA b.n gt))
include hx hxs hch hc hv ht hS hS1 h5 h6
abbrev q20_(x0:List (Nat×List Nat)):=Am (Aj chC x0) (Aa x0)
theorem zVn:Acts Ay 97 [.own 4 0, .row (ch.flatMap chC) ch.length,rowV x] [blI b,blX,blG b,blE b,blB b,blV (fA b.n gv),blT (fA b.n gt),blU c7,blM t8 ks c8,chfB c9,⟨c10,t10,s10,Ab,Ad, .plain⟩] [] (natD (wtL b.f VT TT x ch))
  [blI b,blX,blG b,blE b,blB b,blV (fA b.n gv),blT (fA b.n gt),blU c7,blM t8 ks c8,chfB c9,⟨c10,t10,s10,Ab,Ad, .plain⟩]:=by
 have hnm:∀e∈[blI b,blX,blG b,blE b,blB b,blV (fA b.n gv),blT (fA b.n gt),blU c7,blM t8 ks c8,chfB c9,(⟨c10,t10,s10,Ab,Ad, .plain⟩:Bk)],namB 11 e:=zHb (by omega) h5 h6 λe he=>by
  simp only[Bq,Ch,or_false]at he;rcases he with rfl|rfl|rfl<;>exact .inl rfl
 have hcc:∀c:Nat×List Nat,(chC c).length=2:=λ_=>rfl;have step:∀i,i<ch.length->ch.getD i Ae∈ch:=λi h=>by rw[AI,AL h];exact AV h
 obtain⟨m,res,bs,hres,hm,hgood,hend⟩:∃(m:Nat)(res:D)(bs:List Bk),LeD res (natD (wtL b.f VT TT x ch))/\m<=ch.length/\(∀j,j<m->wbad b.f VT x (ch.getD j Ae)=Ad)/\((m=ch.length/\res=natD (wtL b.f VT TT x ch)/\bs=[])\/(m<ch.length/\wbad b.f VT x (ch.getD m Ae)=Ab/\res= .val (.slice AJ 0 0)/\bs=[chK (ch.getD m Ae)])):=by
  by_cases hbad:∃p,p<ch.length/\wbad b.f VT x (ch.getD p Ae)=Ab
  ·obtain⟨p,hp,hpb,hmin⟩:=zD1 (p:=λi=>wbad b.f VT x (ch.getD i Ae)) hbad;exact⟨p,_,_,by rw[wtL_bad (TT:=TT) hp hpb];exact zLr,by omega,hmin, .inr ⟨hp,hpb,rfl,rfl⟩⟩
  exact⟨ch.length,_,_,BI _,AT _,λi hi=>by
   cases e:wbad b.f VT x (ch.getD i Ae)with
   |false=>rfl
   |true=>exact absurd ⟨i,hi,e⟩ hbad, .inl ⟨rfl,rfl,rfl⟩⟩
 refine Acts.res (x:=res) ?_ hres;refine Acts.cutN (bs:=bs) ?_ (AT _) hnm (λj hj=>by rcases hend with⟨_,rfl,_⟩|⟨_,_,rfl,_⟩<;>rfl);obtain⟨one,e1⟩:∃o:Nat,o=1:=⟨1,rfl⟩;have hof:Pure Ay 36 [.val (.int .u64 1)] [] (natD one):=by subst e1;exact of_c 1 (by decide)
 have hw0:wtL b.f VT TT x (ch.take 0)=one:=e1.symm;refine zP Twe_ok mixed Tryz.func97 rfl (keep11 rfl) ?_;focus
  refine vAu<|vA<|vc hof<|veT<|zA<|vAe<|zH ?_;rotate_left
 refine zK (λ(i:Nat)=>fr 56 [(0,Af 4 0),(2,rowV x),(7,natD<|wtL (Bd.f b) VT TT x<|Au i ch),(12,(q20_ ch)),(13,iD<|Aa ch),(14,iD i)]) (λ(i:Nat)=>[blI b,blX,blG b,blE b,blB b,blV<|fA b.n gv,blT<|fA b.n gt,blU c7,blM t8 ks c8,chfB c9,⟨c10,t10,s10,Ab,Ad,.plain⟩]) (λ(i:Nat)=>m-i) (λ(i:Nat)=>i<=m) 0 ?_ ?_ ?_
 ·omega
 ·rw[hw0];refine vk 11 ?_;all_goals exact zG7
 intro i h1;rcases AR i m with h3'|h3'
 ·have h3:i<ch.length:=by omega
  have hg2:=zCp hcc ch i h3;have hle:=zEe hcc ch i h3;have hne:=zDc hcc (by decide) ch (by omega);have hmem:=step i h3;have hgd:=hgood i h3';have hsu:=wtL_succ b.f VT TT x ch i h3;obtain⟨n1,n2,n3⟩:=hc _ hmem;have hv1:=hv _ hmem;have ht1:=ht _ hmem;have hs1:=hS1 _ hmem;have hsi:=hS i (by omega);generalize ch.getD i Ae=c at*;have hpk:=pick_c x c.2 _ _ rfl rfl (by omega) (by omega) n3;have hpl:(zY x c.2).length=c.2.length:=by simp[zY]
  have hid:=zC2 (zY x c.2) c.2.length hpl (by omega) (zPl x c.2 hxs);by_cases hf:c.1<b.f
  ·have hgt:((fA b.n gt).drop c.1).headD .unk=zGt (TT c.1):=by rw[zEf n1];exact ht1 hf
   have hps:=zCe (g:=gt) n1;unfold wone at hsu;rw[if_pos hf]at hsu;have hlk:=look_t (.val (.slice AJ 0 0)) (TT c.1) (zY x c.2);cases e:tlk (TT c.1) (zY x c.2)with
   | none=>
    rw[e]at hlk hsu;dsimp only[Option.getD_none]at hlk hsu;have hmu:Pure Ay 86 [natD (wtL b.f VT TT x (ch.take i)), .val (.slice AJ 0 0)] [] (natD (wtL b.f VT TT x (ch.take i)*0)):=(zWl _ 0 hsi Sm.zero).le (.cons (.refl _) (.cons zLr .nil));focus
     refine vAu (zA (vT ((i:Int)<↑(Aa ch)) (vKB (vA (vr 2 (ix ↑i ↑(Aa ch) (Aj chC ch≠[])/\2<=Aa (Ai (i*2) (Aj chC ch))) ?_)))));refine vs 17 (AF (Au 2 (Ai (i*2) (Aj chC ch)))) (AF (chC c)) (by simp(disch:=omega) only[hg2]) (ve (Ad=Ad/\Ab=Ab/\2=2/\2<=2) (vA (vr 3 (True/\0<1) (vc hpk (vc hid (veT (zA (vd [0,2,3,4,5,1,6,7] (ve (True/\True/\True/\0<2/\0<9) (vT ((↑(Az c):Int)<↑(Bd.f b)) (vd [0,1,2,3,5,9,4,6,7,8,10,11,12] (vr 9 (True/\True/\0<2/\0<2/\(0:Int)<=(↑(Az c):Int)/\(↑(Az c):Int)<(↑(Bd.n b):Int)) ?_))))))))))));refine vo 38 6 (Az c) (vr 1 (0<Aa (Ai (Az c) (AK (blT (fA (Bd.n b) gt))))) (vsh 39 hgt (vr 1 (zX (A6 (A7 A8 "string" 1 16 Ab 8 8 (Ax (AD (AQ #[]))) Ab #[])) (AD (YtjcofbkhoeockaaGreatDoor.bs (idR (zY x (AG c)))))=Ab/\Bz (Al (λ(p:List Va×Nat)=>kyv (Az p)) (TT (Az c))) (zX (A6 (A7 A8 "string" 1 16 Ab 8 8 (Ax (AD (AQ #[]))) Ab #[])))=Ab) (vsh 41 hlk (vc hmu (vrT 1 (vnil (zD (vN (zB rfl (vr 2 (i6 (↑i+1)) (vnil ?_))))))))) ⟨(by kernel_rfl),(by exact zG8 _)⟩)));refine zC ?_;rotate_left
    refine⟨i+1,by omega,by omega,?_⟩;rw[hsu];refine wkn (fr 56 [(0,Af 4 0),(2,rowV x),(7,Am [] (Aa (dg (wtL (Bd.f b) VT TT x (Au i ch)*0)))),(9,Af 11 0),(10,Ah (AD (YtjcofbkhoeockaaGreatDoor.bs (idR (zY x (AG c)))))),(12,(q20_ ch)),(13,iD (Aa ch)),(14,iD ↑(i+1)),(30,bD (decide ((↑(Az c):Int)<(↑(Bd.f b):Int)))),(31,natD (wtL (Bd.f b) VT TT x (Au i ch))),(32,Af 4 0),(33,Af 4 0),(34,Af 4 8),(35,Ao 6 0 (Bd.n b) (Bd.n b) Ab),(36,Af 11 0),(37,iD ↑(Az c)),(38,Af 6 (Az c)),(39,zGt (TT (Az c))),(40,Ah (AD (YtjcofbkhoeockaaGreatDoor.bs (idR (zY x (AG c)))))),(41,nl),(42,Am [] (Aa (dg (wtL (Bd.f b) VT TT x (Au i ch)*0)))),(54,iD ↑(i+1))]) [blI b,blX,blG b,blE b,blB b,blV (fA (Bd.n b) gv),blT (fA (Bd.n b) gt),blU c7,blM t8 ks c8,chfB c9,Ak c10 t10 s10 Ab Ad Aq,Ak [iD ↑(Az c),Am (nsD (AG c)) (Aa (AG c))] 200 0 Ad Ad Aq] ?_;refine zA4 (N:=11) (4<11/\True) rfl hnm (λk hk=>zG7 k (by omega)) ?_ ⟨by omega,trivial⟩;refine vk 12 ?_;all_goals exact λk hk=>zG7 k (by omega)
   | some w=>
    rw[e]at hlk hsu;dsimp only[BQ]at hlk hsu;have hw:Sm w:=by
     unfold tlk at e;obtain⟨q,q1,q2⟩:=CR.1 e
     have:=hs1 q (CS q1)
     rwa[q2]at this
    have hmu:=zWl (wtL b.f VT TT x (ch.take i)) w hsi hw;focus
     refine vAu (zA (vT ((i:Int)<↑(Aa ch)) (vKB (vA (vr 2 (ix ↑i ↑(Aa ch) (Aj chC ch≠[])/\2<=Aa (Ai (i*2) (Aj chC ch))) ?_)))));refine vs 17 (AF (Au 2 (Ai (i*2) (Aj chC ch)))) (AF (chC c)) (by simp(disch:=omega) only[hg2]) (ve (Ad=Ad/\Ab=Ab/\2=2/\2<=2) (vA (vr 3 (True/\0<1) (vc hpk (vc hid (veT (zA (vd [0,2,3,4,5,1,6,7] (ve (True/\True/\True/\0<2/\0<9) (vT ((↑(Az c):Int)<↑(Bd.f b)) (vd [0,1,2,3,5,9,4,6,7,8,10,11,12] (vr 9 (True/\True/\0<2/\0<2/\(0:Int)<=(↑(Az c):Int)/\(↑(Az c):Int)<(↑(Bd.n b):Int)) ?_))))))))))));refine vo 38 6 (Az c) (vr 1 (0<Aa (Ai (Az c) (AK (blT (fA (Bd.n b) gt))))) (vsh 39 hgt (vr 1 (zX (A6 (A7 A8 "string" 1 16 Ab 8 8 (Ax (AD (AQ #[]))) Ab #[])) (AD (YtjcofbkhoeockaaGreatDoor.bs (idR (zY x (AG c)))))=Ab/\Bz (Al (λ(p:List Va×Nat)=>kyv (Az p)) (TT (Az c))) (zX (A6 (A7 A8 "string" 1 16 Ab 8 8 (Ax (AD (AQ #[]))) Ab #[])))=Ab) (vsh 41 hlk (vc hmu (vrT 1 (vnil (zD (vN (zB rfl (vr 2 (i6 (↑i+1)) (vnil ?_))))))))) ⟨(by kernel_rfl),(by exact zG8 _)⟩)));refine zC ?_;rotate_left
    refine⟨i+1,by omega,by omega,?_⟩;rw[hsu];refine wkn (fr 56 [(0,Af 4 0),(2,rowV x),(7,natD (wtL (Bd.f b) VT TT x (Au i ch)*w)),(9,Af 11 0),(10,Ah (AD (YtjcofbkhoeockaaGreatDoor.bs (idR (zY x (AG c)))))),(12,(q20_ ch)),(13,iD (Aa ch)),(14,iD ↑(i+1)),(30,bD (decide ((↑(Az c):Int)<(↑(Bd.f b):Int)))),(31,natD (wtL (Bd.f b) VT TT x (Au i ch))),(32,Af 4 0),(33,Af 4 0),(34,Af 4 8),(35,Ao 6 0 (Bd.n b) (Bd.n b) Ab),(36,Af 11 0),(37,iD ↑(Az c)),(38,Af 6 (Az c)),(39,zGt (TT (Az c))),(40,Ah (AD (YtjcofbkhoeockaaGreatDoor.bs (idR (zY x (AG c)))))),(41,natD w),(42,natD (wtL (Bd.f b) VT TT x (Au i ch)*w)),(54,iD ↑(i+1))]) [blI b,blX,blG b,blE b,blB b,blV (fA (Bd.n b) gv),blT (fA (Bd.n b) gt),blU c7,blM t8 ks c8,chfB c9,Ak c10 t10 s10 Ab Ad Aq,Ak [iD ↑(Az c),Am (nsD (AG c)) (Aa (AG c))] 200 0 Ad Ad Aq] ?_;refine zA4 (N:=11) (4<11/\True) rfl hnm (λk hk=>zG7 k (by omega)) ?_ ⟨by omega,trivial⟩;refine vk 12 ?_;all_goals exact λk hk=>zG7 k (by omega)
  have hgt:((fA b.n gv).drop c.1).headD .unk=zHk (VT c.1):=by rw[zEf n1];exact hv1 (by omega)
  have hps:=zCe (g:=gv) n1;have hin:zY x c.2∈VT c.1:=by
   unfold wbad at hgd;rw[decide_eq_true (by omega),Bool.true_and,decide_eq_false_iff_not]at hgd;exact Classical.byContradiction hgd
  unfold wone at hsu;rw[if_neg hf,if_pos hin,A3]at hsu;have hlk:=look_v (VT c.1) (zY x c.2);rw[decide_eq_true hin]at hlk;focus
   refine vAu (zA (vT ((i:Int)<↑(Aa ch)) (vKB (vA (vr 2 (ix ↑i ↑(Aa ch) (Aj chC ch≠[])/\2<=Aa (Ai (i*2) (Aj chC ch))) ?_)))));refine vs 17 (AF (Au 2 (Ai (i*2) (Aj chC ch)))) (AF (chC c)) (by simp(disch:=omega) only[hg2]) (ve (Ad=Ad/\Ab=Ab/\2=2/\2<=2) (vA (vr 3 (True/\0<1) (vc hpk (vc hid (veT (zA (vd [0,2,3,4,5,1,6,7] (ve (True/\True/\True/\0<2/\0<9) (vF ((↑(Az c):Int)<↑(Bd.f b)) (zA (vd [0,1,2,4,8,3,5,6,7,9,10] ?_))))))))))));refine vr 8 (True/\True/\0<3/\0<2/\(0:Int)<=(↑(Az c):Int)/\(↑(Az c):Int)<(↑(Bd.n b):Int)) (vo 49 5 (Az c) (vr 1 (0<Aa (Ai (Az c) (AK (blV (fA (Bd.n b) gv))))) (vsh 50 hgt (vr 1 (zX (A6 (A7 A8 "string" 1 16 Ab 8 8 (Ax (AD (AQ #[]))) Ab #[])) (AD (YtjcofbkhoeockaaGreatDoor.bs (idR (zY x (AG c)))))=Ab/\Bz (Al kyv (VT (Az c))) (zX (A6 (A7 A8 "string" 1 16 Ab 8 8 (Ax (AD (AQ #[]))) Ab #[])))=Ab) (vsh 52 hlk (veT (vf (zQ (zD (vN (zB rfl (vr 2 (i6 (↑i+1)) ?_)))))))) ⟨(by kernel_rfl),(by exact zTx _)⟩))));refine vnil (zC ?_);rotate_left
  refine⟨i+1,by omega,by omega,?_⟩;rw[hsu];refine wkn (fr 56 [(0,Af 4 0),(2,rowV x),(7,natD (wtL (Bd.f b) VT TT x (Au i ch))),(12,(q20_ ch)),(13,iD (Aa ch)),(14,iD ↑(i+1)),(53,bD Ad),(54,iD ↑(i+1))]) [blI b,blX,blG b,blE b,blB b,blV (fA (Bd.n b) gv),blT (fA (Bd.n b) gt),blU c7,blM t8 ks c8,chfB c9,Ak c10 t10 s10 Ab Ad Aq,Ak [iD ↑(Az c),Am (nsD (AG c)) (Aa (AG c))] 200 0 Ad Ad Aq] ?_;refine zA4 (N:=11) (4<11/\True) rfl hnm (λk hk=>zG7 k (by omega)) ?_ ⟨by omega,trivial⟩;refine vk 12 ?_;all_goals exact λk hk=>zG7 k (by omega)
 obtain rfl:i=m:=by omega
 rcases hend with⟨rfl,rfl,rfl⟩|⟨h3,hgd,rfl,rfl⟩
 ·rw[Bn];focus
   refine vAu<|zA<|vF ((Aa ch:Int)<↑(Aa ch))<|vZ2<|vA ?_;refine veT<|zE ?_;refine zM (True) [natD<|wtL (Bd.f b) VT TT x ch] (.inr rfl) ?_;rotate_left
  exact⟨by kernel_rfl,by kernel_rfl⟩
 have hg2:=zCp hcc ch i h3;have hle:=zEe hcc ch i h3;have hne:=zDc hcc (by decide) ch (by omega);have hmem:=step i h3;obtain⟨n1,n2,n3⟩:=hc _ hmem;have hv1:=hv _ hmem;generalize ch.getD i Ae=c at*;unfold wbad at hgd;simp only[BS,decide_eq_true_eq]at hgd;have hpk:=pick_c x c.2 _ _ rfl rfl (by omega) (by omega) n3;have hpl:(zY x c.2).length=c.2.length:=by simp[zY]
 have hid:=zC2 (zY x c.2) c.2.length hpl (by omega) (zPl x c.2 hxs);have hgt:((fA b.n gv).drop c.1).headD .unk=zHk (VT c.1):=by rw[zEf n1];exact hv1 hgd.1
 have hps:=zCe (g:=gv) n1;have hlk:=look_v (VT c.1) (zY x c.2);rw[decide_eq_false hgd.2]at hlk;have hf:¬c.1<b.f:=by omega
 focus
  refine vAu (zA (vT ((i:Int)<↑(Aa ch)) (vKB (vA (vr 2 (ix ↑i ↑(Aa ch) (Aj chC ch≠[])/\2<=Aa (Ai (i*2) (Aj chC ch))) ?_)))));refine vs 17 (AF (Au 2 (Ai (i*2) (Aj chC ch)))) (AF (chC c)) (by simp(disch:=omega) only[hg2]) (ve (Ad=Ad/\Ab=Ab/\2=2/\2<=2) (vA (vr 3 (True/\0<1) (vc hpk (vc hid (veT (zA (vd [0,2,3,4,5,1,6,7] (ve (True/\True/\True/\0<2/\0<9) (vF ((↑(Az c):Int)<↑(Bd.f b)) (zA (vd [0,1,2,4,8,3,5,6,7,9,10] ?_))))))))))));refine vr 8 (True/\True/\0<3/\0<2/\(0:Int)<=(↑(Az c):Int)/\(↑(Az c):Int)<(↑(Bd.n b):Int)) (vo 49 5 (Az c) (vr 1 (0<Aa (Ai (Az c) (AK (blV (fA (Bd.n b) gv))))) (vsh 50 hgt (vr 1 (zX (A6 (A7 A8 "string" 1 16 Ab 8 8 (Ax (AD (AQ #[]))) Ab #[])) (AD (bs (idR (zY x (AG c)))))=Ab/\Bz (Al kyv (VT (Az c))) (zX (A6 (A7 A8 "string" 1 16 Ab 8 8 (Ax (AD (AQ #[]))) Ab #[])))=Ab) (vsh 52 hlk (veT (vt (vAe (zE (zL (zG ?_))))))) ⟨(by kernel_rfl),(by exact zTx _)⟩))));refine zG (zL (zG ?_));refine zM (True) [nl] (.inr rfl) ?_;rotate_left
 exact⟨by kernel_rfl,by kernel_rfl⟩
end
abbrev zK6(desc:Bool)(t:WT):D:= .agg [bD desc,t.x]
theorem nilx_le:LeD (.val (.pointer AJ)) WT.nil.x:=λI w β v h=>by
 simp only[Rel]at h;subst h;simp only[Rel,WT.d];exact⟨rfl,trivial⟩
theorem agg2_le{a b b':D}(h:LeD b b'):LeD (.agg [a,b]) (.agg [a,b']):=λI w β v hr=>by
 simp only[Rel,RelL]at hr⊢;obtain⟨vs,rfl,v1,us,rfl,h1,h2,v2,us',rfl,h3,h4,h5⟩:=hr;exact⟨_,rfl,v1,_,rfl,h1,h2,v2,us',rfl,h3,h _ _ _ _ h4,h5⟩
theorem wnew_c(desc:Bool):Pure Ay 41 [bD desc] [] (zK6 desc .nil):=by
 refine Pure.res (x:= .agg [bD desc, .val (.pointer AJ)]) ?_ (agg2_le nilx_le);refine zF zBk mixed Tryz.func41 rfl ?_;refine vAu<|vA<|ve (((1=1/\1<=2/\True)/\Ab=Ab)/\Ad=Ad/\Ab=Ab/\2=2/\2<=2)<|zE<|vret (2<=2)<|.inr rfl
theorem wlen_c(desc:Bool)(t:WT):Pure Ay 28 [zK6 desc t] [] (iD (t.sz:Nat)):=by
 refine zF zBk mixed Tryz.func28 rfl ?_;refine vAu<|vA<|vr 2 (True/\0<1)<|vca [Aw<|WT.d t] (by exact wsz_c _)<|veT<|zE<|vret (True)<|.inr rfl
theorem wtotal_c(desc:Bool)(t:WT)(h:Sm t.tot):Pure Ay 87 [zK6 desc t] [] (natD t.tot):=by
 refine zF zBk mixed Tryz.func87 rfl ?_;refine vAu<|vA<|vr 2 (True/\0<1)<|vca [Aw<|WT.d t] (by exact zY4 _)<|vc (zPs _ h)<|veT<|zE<|vret (True)<|.inr rfl
theorem zXi{w:Nat}(h:0<w):0<(dg w).length:=by
 rw[dg,dif_neg (by omega)];simp
theorem wPut_c(desc:Bool)(t:WT)(v:Va)(w:Nat)(hv:vok v=Ab)(hw:0<w)(h1:t.sz+1<=1000000000)(h2:Sm (t.tot+w)):Pure Ay 42 [zK6 desc t,vaD v,natD w] [] (.tup [zK6 desc (t.put desc v w),iD 0]):=by
 have h3:=zXi hw;have h4:=(h2.le (Nat.le_add_left w t.tot)).len;refine zF zBk mixed Tryz.func42 rfl ?_;focus
  refine vAu<|zA<|vA<|vr 1 (3<=3)<|vca [AF [iD<|Ar v,iD<|AA v,Ah<|AD<|bs<|AB v]] (by exact zVp _)<|vrT 1<|vs 10 (bD !vok v) (bD Ad) (by simp(disch:=omega) only[Bool.not_true,hv])<|veT<|vf<|zQ ?_;refine vN<|vA<|vrT 1<|vca [natD w] (by exact zPs _ (h2.le (by omega)))<|veT<|zA<|vAe<|vEf ((Aa (dg w):Int)) ((0:Int))<|zQ<|zC ?_;refine zA5<|zA<|vd [0,3,6,1,2,4,5,7,8,9,10,11]<|vr 8 (True/\True/\0<2/\2<=2/\0<1/\3<=3/\(3=3/\3<=4/\1=1/\4<=4/\True)/\Ab=Ab)<|vc (zY5 desc t v w t h1 h2)<|ve (((1=1/\1<=2/\1=1/\2<=2/\True)/\Ab=Ab)/\Ad=Ad/\Ab=Ab/\2=2/\2<=2)<|zE<|vret (2<=2)<|.inr rfl
abbrev vB1(v:Va):Bk:=⟨vaC v,64,0,Ad,Ad, .plain⟩
abbrev nB1(d:D):Bk:=⟨[d],44,0,Ad,Ad, .plain⟩
abbrev tB1(desc:Bool)(t:WT)(fz:Bool):Bk:=⟨[bD desc,t.x],57,0,Ad,fz, .plain⟩
def WT.look(desc:Bool)(u:Va):WT->Option Nat
 | .nil=>AJ
 | .node v w l r=>if WT.cmp desc u v<0 then l.look desc u else if WT.cmp desc u v>0 then r.look desc u else Ax w
def WT.seen(desc:Bool)(u:Va):WT->Nat
 | .nil=>0
 | .node v w l r=>if WT.cmp desc u v<0 then l.seen desc u+1 else if WT.cmp desc u v>0 then r.seen desc u+1 else 1
theorem WT.seen_le(desc:Bool)(u:Va):∀(t:WT),t.seen desc u<=t.ht
 | .nil=>AT _
 | .node v w l r=>by
  have h1:=WT.seen_le desc u l;have h2:=WT.seen_le desc u r;simp only[WT.seen,WT.ht];split
  ·omega
  split<;>omega
abbrev bB1(b:Bool):Bk:=⟨[bD b],4,0,Ad,Ad, .plain⟩
abbrev optD(o:Option Nat):D:=match o with
 |some w=>natD w
 |none=>nl
theorem WT.cmp_vals(desc:Bool)(a b:Va):WT.cmp desc a b=-1\/WT.cmp desc a b=0\/WT.cmp desc a b=1:=by
 unfold WT.cmp;split<;>exact(zBg _ _).1
def Tg:Par:=⟨λf=>f==60||f==61,λ_ _=>AJ,λk=>decide (k<5),λ_=>Ad,λ_=>Ad⟩
theorem Tg_ok:zBd Ay Tg:=by intro t n f h;cases h
theorem keep5{st:List Bk}(h:st.length<=5):∀k,k<st.length->Tg.keep k=true:=λk hk=>by
 show decide (k<5)=Ab;rw[decide_eq_true_eq];omega
theorem keep5F:∀k,5<=k->Tg.keep k=false:=λk hk=>by
 show decide (k<5)=Ad;rw[decide_eq_false_iff_not];omega
theorem wget1_c(desc:Bool)(t:WT)(u v:Va)(w:Nat)(l r:WT)(hw:Sm w)(b4:Bk):
  Acts Ay 61 [zMx v w l r, .own 0 0, .own 1 0, .own 2 0, .own 3 0] [tB1 desc t Ad,vB1 u,nB1 nl,bB1 Ad,b4] []
   (iD (WT.cmp desc u v)) [tB1 desc t Ad,vB1 u,if WT.cmp desc u v=0 then nB1 (natD w)else nB1 nl,bB1 (decide (WT.cmp desc u v=0)),b4]:=by
 refine zP Tg_ok mixed Tryz.func61 rfl (keep5 (by simp)) ?_;focus
  refine vAu<|zA<|vd [2,3,4,5,0,1,6,7,8]<|vr 7 (True/\True/\2<=2/\3<=3/\3<=9)<|vc (zM3 desc t u v)<|veT<|zA<|vAe ?_;refine zAa (t:=WT.cmp desc u v !=(0:Int)) (by kernel_rfl) (λhc=>?_)<|λhc=>?_;simp only[bne_iff_ne]at hc;refine vAe<|zE<|zG ?_;refine zM (True) [Ah<|An Bm<|WT.cmp desc u v] (.inr rfl) ?_;rotate_left;simp only[bne_eq_false_iff_eq]at hc;refine vK<|vA<|vr 5 (True/\True/\0<6)<|vc (zPs _ hw)<|ve ((Ad=Ad/\Ab=Ab/\1=1/\1<=1)/\Ad=Ad/\Ab=Ab/\1=1/\1<=1)<|vAe<|zE ?_;refine zM (True) [q2_] (.inr rfl) ?_;rotate_left
 ·have h0:¬WT.cmp desc u v=0:=by assumption
  rw[if_neg h0,decide_eq_false h0];exact⟨by kernel_rfl,by kernel_rfl⟩
 have h0:WT.cmp desc u v=0:=by assumption
 rw[if_pos h0,decide_eq_true h0,h0];exact⟨by kernel_rfl,by kernel_rfl⟩
abbrev q21_(x0:Bool)(x1:WT):=Ak [bD x0,Aw (WT.d x1)] 57 0 Ad Ad Aq
abbrev q22_:=Ak [nl] 44 0 Ad Ad Aq
abbrev q23_:=Ak [bD Ad] 4 0 Ad Ad Aq
set_option maxHeartbeats 1000000 in
theorem zX3(desc:Bool)(t:WT)(u:Va)(h:t.Ok):
  Acts Ay 60 [zK6 desc t, .clo (.func 61) [] [.own 0 0, .own 1 0, .own 2 0, .own 3 0]] [tB1 desc t Ad,vB1 u,nB1 nl,bB1 Ad] []
   (iD (t.seen desc u)) [tB1 desc t Ad,vB1 u,nB1 (optD (t.look desc u)),bB1 (t.look desc u).isSome,tB1 desc t Ad]:=by
 have hg:=WT.seen_le desc u t;have hz:=WT.ht_le_sz t;have hs:=h.1;refine zP Tg_ok mixed Tryz.func60 rfl (keep5 (by simp)) ?_;focus
  refine vAu<|vAe<|zA<|vA<|ve (True/\0<1)<|zH ?_;rotate_left
 refine zGe (λ(cur:WT)(n:Nat)=>fr 33 [(1,Bc (Fn.func (61:FuncId)) [] [Af 0 0,Af 1 0,Af 2 0,Af 3 0]),(5,iD n),(6,WT.d cur)]) (λcur (n:Nat)=>[tB1 desc t Ad,vB1 u,nB1 nl,bB1 Ad,tB1 desc t Ad]) (λcur n=>cur.sz) (λ(cur:WT)(n:Nat)=>n+cur.seen desc u=t.seen desc u/\cur.look desc u=t.look desc u/\cur.Ok) t 0 ?_ ?_ ?_
 ·exact⟨by omega,rfl,h⟩
 ·refine wkn (fr 33 [(1,Bc (Fn.func (61:FuncId)) [] [Af 0 0,Af 1 0,Af 2 0,Af 3 0]),(4,iD 0),(5,iD 0),(6,Aw (WT.d t))]) [tB1 desc t Ad,vB1 u,nB1 nl,bB1 Ad,Ak [bD desc,Aw (WT.d t)] 57 0 Ad Ad Aq] (zE0 [(1,1),(5,1),(6,4)] (Bc (Fn.func (61:FuncId)) [] [Af 0 0,Af 1 0,Af 2 0,Af 3 0]=Bc (Fn.func (61:FuncId)) [] [Af 0 0,Af 1 0,Af 2 0,Af 3 0]/\iD 0=iD (↑(0:Nat):Int)/\WT.d t=WT.d t) 5 [] (by kernel_rfl) ⟨rfl,(by kernel_rfl),rfl⟩ (by kernel_rfl) ?_ (by kernel_rfl));exact keep5F
 rintro cur n ⟨k1,k2,k4⟩;cases cur with
 | nil=>
  simp only[WT.seen,WT.look]at k1 k2;rw[<-k2,<-k1];focus
   refine zA<|vAu<|vf<|vZ2<|vA ?_;refine veT<|zE ?_;refine zM (True) [Ah<|An Bm (n:Int)] (.inr rfl) ?_;rotate_left
  exact⟨by kernel_rfl,by kernel_rfl⟩
 | node v w l r=>
  obtain⟨o1,o2,o3⟩:=k4.node;have st:=wget1_c desc t u v w l r o3 (tB1 desc t Ad);have hc:=WT.cmp_vals desc u v;simp only[WT.seen,WT.look]at k1 k2;rw[WT.d_node];by_cases c1:WT.cmp desc u v<0
  ·rw[if_neg (by omega),decide_eq_false (by omega)]at st;rw[if_pos c1]at k1 k2;focus
    refine zA<|vAu<|vt<|vK<|zH<|vA<|ve (i6 (↑n+1))<|zA ?_;refine zB rfl<|vrT 2<|vnt [tB1 desc t Ad,vB1 u,nB1 nl,bB1 Ad,tB1 desc t Ad] ?_;refine zZ [] [] [AE [iD<|Ar v,iD<|AA v,Ah<|AD<|bs<|AB v,natD w,Aw<|WT.d l,Aw<|WT.d r,iD (↑(max (WT.ht l) (WT.ht r)+1):Int),iD ↑(WT.sz l+1+WT.sz r),natD (WT.tot l+w+WT.tot r)],Af 0 0,Af 1 0,Af 2 0,Af 3 0] [AE [iD<|Ar v,iD<|AA v,Ah<|AD<|bs<|AB v,natD w,Aw<|WT.d l,Aw<|WT.d r,iD (↑(max (WT.ht l) (WT.ht r)+1):Int),iD ↑(WT.sz l+1+WT.sz r),natD (WT.tot l+w+WT.tot r)],Af 0 0,Af 1 0,Af 2 0,Af 3 0] (AX _) (by exact st) ?_;refine v0s<|veT<|zH<|vAe<|vT (WT.cmp desc u v<0)<|zB rfl<|vr 5 (True/\0<5)<|vnil<|zD<|zD<|zC ?_;rotate_left
   refine⟨l,n+1,⟨by omega,k2,o1⟩,by simp only[WT.sz];omega,?_⟩;refine wkn (fr 33 [(1,Bc (Fn.func (61:FuncId)) [] [Af 0 0,Af 1 0,Af 2 0,Af 3 0]),(5,iD (↑n+1)),(6,Aw (WT.d l)),(7,iD (WT.cmp desc u v)),(18,bD (decide (WT.cmp desc u v<0))),(21,AE [iD (Ar v),iD (AA v),Ah (AD (bs (AB v))),natD w,Aw (WT.d l),Aw (WT.d r),iD (↑(max (WT.ht l) (WT.ht r)+1):Int),iD ↑(WT.sz l+1+WT.sz r),natD (WT.tot l+w+WT.tot r)]),(22,AE [iD (Ar v),iD (AA v),Ah (AD (bs (AB v))),natD w,Aw (WT.d l),Aw (WT.d r),iD (↑(max (WT.ht l) (WT.ht r)+1):Int),iD ↑(WT.sz l+1+WT.sz r),natD (WT.tot l+w+WT.tot r)]),(23,AE [Aw (WT.d l),Aw (WT.d r),iD (↑(max (WT.ht l) (WT.ht r)+1):Int),iD ↑(WT.sz l+1+WT.sz r),natD (WT.tot l+w+WT.tot r)]),(24,Aw (WT.d l))]) [(q21_ desc t),Ak [iD (Ar u),iD (AA u),Ah (AD (bs (AB u)))] 64 0 Ad Ad Aq,q22_,q23_,(q21_ desc t)] (zE0 [(1,1),(5,1),(6,4)] (Bc (Fn.func (61:FuncId)) [] [Af 0 0,Af 1 0,Af 2 0,Af 3 0]=Bc (Fn.func (61:FuncId)) [] [Af 0 0,Af 1 0,Af 2 0,Af 3 0]/\iD (↑n+1)=iD ↑(n+1)/\WT.d l=WT.d l) 5 [] (by kernel_rfl) ⟨rfl,(by kernel_rfl),rfl⟩ (by kernel_rfl) ?_ (by kernel_rfl));all_goals exact keep5F
  by_cases c2:WT.cmp desc u v>0
  ·rw[if_neg (by omega),decide_eq_false (by omega)]at st;rw[if_neg c1,if_pos c2]at k1 k2;focus
    refine zA<|vAu<|vt<|vK<|zH<|vA<|ve (i6 (↑n+1))<|zA ?_;refine zB rfl<|vrT 2<|vnt [tB1 desc t Ad,vB1 u,nB1 nl,bB1 Ad,tB1 desc t Ad] ?_;refine zZ [] [] [AE [iD<|Ar v,iD<|AA v,Ah<|AD<|bs<|AB v,natD w,Aw<|WT.d l,Aw<|WT.d r,iD (↑(max (WT.ht l) (WT.ht r)+1):Int),iD ↑(WT.sz l+1+WT.sz r),natD (WT.tot l+w+WT.tot r)],Af 0 0,Af 1 0,Af 2 0,Af 3 0] [AE [iD<|Ar v,iD<|AA v,Ah<|AD<|bs<|AB v,natD w,Aw<|WT.d l,Aw<|WT.d r,iD (↑(max (WT.ht l) (WT.ht r)+1):Int),iD ↑(WT.sz l+1+WT.sz r),natD (WT.tot l+w+WT.tot r)],Af 0 0,Af 1 0,Af 2 0,Af 3 0] (AX _) (by exact st) ?_;refine v0s<|veT<|zH<|vAe<|vF (WT.cmp desc u v<0)<|vAe<|vT (WT.cmp desc u v>(0:Int))<|zB rfl<|vr 5 (True/\0<4)<|vnil ?_;refine zD<|zD<|zC ?_;rotate_left
   refine⟨r,n+1,⟨by omega,k2,o2⟩,by simp only[WT.sz];omega,?_⟩;refine wkn (fr 33 [(1,Bc (Fn.func (61:FuncId)) [] [Af 0 0,Af 1 0,Af 2 0,Af 3 0]),(5,iD (↑n+1)),(6,Aw (WT.d r)),(25,bD (decide (WT.cmp desc u v>(0:Int)))),(28,AE [iD (Ar v),iD (AA v),Ah (AD (bs (AB v))),natD w,Aw (WT.d l),Aw (WT.d r),iD (↑(max (WT.ht l) (WT.ht r)+1):Int),iD ↑(WT.sz l+1+WT.sz r),natD (WT.tot l+w+WT.tot r)]),(29,AE [iD (Ar v),iD (AA v),Ah (AD (bs (AB v))),natD w,Aw (WT.d l),Aw (WT.d r),iD (↑(max (WT.ht l) (WT.ht r)+1):Int),iD ↑(WT.sz l+1+WT.sz r),natD (WT.tot l+w+WT.tot r)]),(30,AE [Aw (WT.d r),iD (↑(max (WT.ht l) (WT.ht r)+1):Int),iD ↑(WT.sz l+1+WT.sz r),natD (WT.tot l+w+WT.tot r)]),(31,Aw (WT.d r))]) [(q21_ desc t),Ak [iD (Ar u),iD (AA u),Ah (AD (bs (AB u)))] 64 0 Ad Ad Aq,q22_,q23_,(q21_ desc t)] (zE0 [(1,1),(5,1),(6,4)] (Bc (Fn.func (61:FuncId)) [] [Af 0 0,Af 1 0,Af 2 0,Af 3 0]=Bc (Fn.func (61:FuncId)) [] [Af 0 0,Af 1 0,Af 2 0,Af 3 0]/\iD (↑n+1)=iD ↑(n+1)/\WT.d r=WT.d r) 5 [] (by kernel_rfl) ⟨rfl,(by kernel_rfl),rfl⟩ (by kernel_rfl) ?_ (by kernel_rfl));all_goals exact keep5F
  rw[if_pos (by omega),decide_eq_true (by omega)]at st;rw[if_neg c1,if_neg c2]at k1 k2;focus
   refine zA<|vAu<|vt<|vK<|zH<|vA<|ve (i6 (↑n+1))<|zA ?_;refine zB rfl<|vrT 2<|vnt [tB1 desc t Ad,vB1 u,nB1 nl,bB1 Ad,tB1 desc t Ad] ?_;refine zZ [] [] [AE [iD<|Ar v,iD<|AA v,Ah<|AD<|bs<|AB v,natD w,Aw<|WT.d l,Aw<|WT.d r,iD (↑(max (WT.ht l) (WT.ht r)+1):Int),iD ↑(WT.sz l+1+WT.sz r),natD (WT.tot l+w+WT.tot r)],Af 0 0,Af 1 0,Af 2 0,Af 3 0] [AE [iD<|Ar v,iD<|AA v,Ah<|AD<|bs<|AB v,natD w,Aw<|WT.d l,Aw<|WT.d r,iD (↑(max (WT.ht l) (WT.ht r)+1):Int),iD ↑(WT.sz l+1+WT.sz r),natD (WT.tot l+w+WT.tot r)],Af 0 0,Af 1 0,Af 2 0,Af 3 0] (AX _) (by exact st) ?_;refine v0s<|veT<|zH<|vAe<|vF (WT.cmp desc u v<0)<|vAe<|vF (WT.cmp desc u v>(0:Int))<|vAe ?_;refine zE<|zL<|zL<|zG<|zL<|zG ?_;refine zM (True) [Ah<|An Bm ((n:Int)+(1:Int))] (.inr rfl) ?_;rotate_left
  rw[<-k2,<-k1];exact⟨by kernel_rfl,by kernel_rfl⟩
abbrev q24_(x0:Bool)(x1:WT):=AF [bD x0,Aw (WT.d x1)]
theorem wget_c(desc:Bool)(t:WT)(u:Va)(h:t.Ok):Pure Ay 23 [zK6 desc t,vaD u] [] (.tup [natD ((t.look desc u).getD 0),bD (t.look desc u).isSome]):=by
 have hw:=zX3 desc t u h;rcases hl:t.look desc u with _|w
 ·rw[hl]at hw;refine zF Tg_ok mixed Tryz.func23 rfl ?_;focus
   refine vAu<|vAe<|vA<|ve (Ad=Ad/\Ab=Ab/\1=1/\1<=1)<|vA<|vr 2 (2<=2)<|vnt [(q21_ desc t),Ak [iD<|Ar u,iD<|AA u,Ah<|AD<|bs<|AB u] 64 0 Ad Ad Aq,q22_,q23_] ?_;refine zZ [] [] [(q24_ desc t),Bc (Fn.func 61) [] [Af 0 0,Af 1 0,Af 2 0,Af 3 0]] [(q24_ desc t),Bc (Fn.func 61) [] [Af 0 0,Af 1 0,Af 2 0,Af 3 0]] (AX _) (by exact hw) ?_;refine v0s<|veT<|zA<|vd [0,2,1,3]<|ve (0<1/\0<1)<|zE<|vret (True)<|.inr rfl
 rw[hl]at hw;refine zF Tg_ok mixed Tryz.func23 rfl ?_;focus
  refine vAu<|vAe<|vA<|ve (Ad=Ad/\Ab=Ab/\1=1/\1<=1)<|vA<|vr 2 (2<=2)<|vnt [(q21_ desc t),Ak [iD<|Ar u,iD<|AA u,Ah<|AD<|bs<|AB u] 64 0 Ad Ad Aq,q22_,q23_] ?_;refine zZ [] [] [(q24_ desc t),Bc (Fn.func 61) [] [Af 0 0,Af 1 0,Af 2 0,Af 3 0]] [(q24_ desc t),Bc (Fn.func 61) [] [Af 0 0,Af 1 0,Af 2 0,Af 3 0]] (AX _) (by exact hw) ?_;refine v0s<|veT<|zA<|vd [0,2,1,3]<|ve (0<1/\0<1)<|zE<|vret (True)<|.inr rfl
 all_goals rfl
theorem zEx{m n:Nat}{g:Nat->D}:blw m (fA n g)↔∀c,c<n->∀j,m<=j->refs j (g c)=false:=by
 have key:∀(l:List Nat)(j:Nat),zV j (l.map g)=Ad↔∀c∈l,refs j (g c)=false:=λl j=>by
  induction l with
  |nil=>simp[zV]
  |cons a l ih=>simp only[Bt,zV,Cg,ih,List.forall_mem_cons]
 constructor
 ·intro h c hc j hj;exact(key _ j).1 (h j hj) c (Bv.2 hc)
 intro h j hj;exact(key _ j).2 λc hc=>h c (Bv.1 hc) j hj
def redK(w:Rw->Nat)(cols:List Nat)(rows:List Rw):List Rw:=allK ((rows.filter λx=>decide (0<w x)).map λx=>zY x cols)
theorem redK_succ(w:Rw->Nat)(cols:List Nat)(rows:List Rw)(i:Nat)(h:i<rows.length):redK w cols (rows.take (i+1))=if 0<w (rows.getD i [])then addK (redK w cols (rows.take i)) (zY (rows.getD i []) cols)else redK w cols (rows.take i):=by
 unfold redK;rw[By h,Cd,BB,AI,AL h,BQ];simp only[Ce,Cf];split
 ·rename_i hh;rw[if_pos (by simpa using hh),allK,Bt,BE];rfl
 rename_i hh;rw[if_neg (by simpa using hh),List.map_nil,Ct]
abbrev mapB(K:List (List Va)):Bk:=⟨K.map λ_=>bD Ab,170,0,Ab,Ad, .map (K.map kyv)⟩
theorem mput_b(K:List (List Va))(r:List Va):mput (mapB K) (K.map kyv) (kyv r) (bD Ab)=mapB (addK K r):=by
 unfold mput addK;rw[zWu];cases e:K.findIdx? λs=>decide (r=s)with
 |none=>
  rw[CP]at e;have:r∉K:=λh=>by have:=e r h;simp at this
  simp[this]
 | some i=>
  rw[Cl]at e;obtain⟨h,h1,_⟩:=e;have:r∈K:=by
   have e2:r=K[i]:=by simpa using h1
   rw[e2];exact AV h
  rw[if_pos this];simp only[mapB];congr 1;apply List.ext_getElem (by simp);intro j h1 h2;simp[List.getElem_set]
def Tre:Par:=⟨λf=>f==94||f==97,λ_ _=>AJ,λk=>decide (k<8),λ_=>Ad,λ_=>Ad⟩
theorem Tre_ok:zBd Ay Tre:=by intro t n f h;cases h
theorem keep8{st:List Bk}(h:st.length=8):∀k,k<st.length->Tre.keep k=true:=λk hk=>by
 show decide (k<8)=Ab;rw[decide_eq_true_eq];omega
theorem zDj:∀k,8<=k->Tre.keep k=false:=λk hk=>by
 show decide (k<8)=Ad;rw[decide_eq_false_iff_not];omega
abbrev keyC(b:Bd)(v:Nat):List Nat:=zC4 (λu=>(b.L.getD v Ae).k.testBit u) (b.R.getD v Ae).1
abbrev chV(b:Bd)(v:Nat):List (Nat×List Nat):=chI b.L (b.R.getD v Ae).1 v b.L.length
structure Bok(b:Bd)(v:Nat)(gv gt:Nat->D)(VT:Nat->List Rw)(TT:Nat->List (Rw×Nat)):Prop where
 n:b.n<=1000
 vn:v<b.n
 L:b.L.length=b.n
 R:b.R.length=b.n
 k:∀c∈b.L,c.k<4294967296
 V:(b.R.getD v Ae).1.length<=1000
 V2:∀u∈(b.R.getD v Ae).1,u<32
 r:∀x∈(b.R.getD v Ae).2,x.length=(b.R.getD v Ae).1.length/\∀u∈x,Vs u
 rl:(b.R.getD v Ae).2.length<=65536
 hv:∀c∈chV b v,b.f<=c.1->gv c.1=zHk (VT c.1)
 ht:∀c∈chV b v,c.1<b.f->gt c.1=zGt (TT c.1)
 ne:∀c∈chV b v,c.1≠v
 S:∀x∈(b.R.getD v Ae).2,∀i,i<=(chV b v).length->Sm (wtL b.f VT TT x ((chV b v).take i))
 S1:∀c∈chV b v,∀p∈TT c.1,Sm p.2
 gw:∀c,c<b.n->∀j,8<=j->refs j (gv c)=Ad
 tw:∀c,c<b.n->∀j,8<=j->refs j (gt c)=Ad
theorem zG9{L:List Bg}{V:List Nat}{v i:Nat}{c:Nat×List Nat}(h:c∈chI L V v i):c.1<i/\(L.getD c.1 Ae).p=(v:Int)/\c.2=zC4 (λu=>(L.getD c.1 Ae).k.testBit u) V:=by
 obtain⟨u,hu,rfl⟩:=A4.1 h;obtain⟨h1,h2⟩:=BR.1 hu;exact⟨Bv.1 h1,by simpa using h2,rfl⟩
theorem zMh(b:Bd)(v:Nat)(hv:v<b.R.length)(hl:b.L.length<=1000)(hV:(b.R.getD v Ae).1.length<=1000)(hV2:∀u∈(b.R.getD v Ae).1,u<32)(hk:∀c∈b.L,c.k<4294967296)(c5 c6 c7 c8:List D)(t8:TypeId)(ks:List Value)(h5:blw 9 c5)(h6:blw 9 c6):
  Acts Ay 94 [.own 4 0,iD (v:Nat)] [blI b,blX,blG b,blE b,blB b,blV c5,blT c6,blU c7,blM t8 ks c8] [] (.osl 9 0 (chV b v).length ((chV b v).length*2) Ab)
   [blI b,blX,blG b,blE b,blB b,blV c5,blT c6,blU c7,blM t8 ks c8,chB (chV b v)]:=zYx b v hv hl hV hV2 hk c5 c6 c7 c8 t8 ks h5 h6
abbrev q25_(x0:Bd)(x1:Nat):=Am (nsD (Az (Ap (Bd.R x0) x1 Ae))) (Aa (Az (Ap (Bd.R x0) x1 Ae)))
abbrev q26_(x0:Bd):=Ak [iD ↑(Bd.n x0),iD ↑(Bd.f x0),(q17_ x0),(q18_ x0),(q19_ x0)] 31 0 Ad Ad Aq
abbrev q27_:=Ak [nl,nl,nl,nl,nl] 46 0 Ad Ad Aq
abbrev q28_(x0:Bd):=Ak [iD ↑(Bd.n x0),Ao 3 0 (Aa (Bd.A x0)) (Aa (Bd.A x0)) Ab] 77 0 Ad Ad Aq
abbrev q29_(x0:Bd):=Ak (Al u32D (Bd.E x0)) 36 1 Ab Ab Aq
abbrev q30_(x0:Bd):=Ak [iD ↑(Bd.n x0),iD ↑(Bd.f x0),(q17_ x0),(q18_ x0),(q19_ x0),(q16_ x0),(q15_ x0),Ao 5 0 (Bd.n x0) (Bd.n x0) Ab,Ao 6 0 (Bd.n x0) (Bd.n x0) Ab,Ao 7 0 (Bd.f x0) (Bd.f x0) Ab] 120 0 Ad Ad Aq
theorem reduce_c(b:Bd)(v:Nat)(gv gt:Nat->D)(VT:Nat->List Rw)(TT:Nat->List (Rw×Nat))(h:Bok b v gv gt VT TT)(c7:List D):
  Acts Ay 51 [.own 4 0,iD (v:Nat)] [blI b,blX,blG b,blE b,blB b,blV (fA b.n gv),blT (fA b.n gt),blU c7] [] (.tup [])
   [blI b,blX,blG b,blE b,blB b,blV (fA b.n λc=>if c=v then zHk (redK (λx=>wtL b.f VT TT x (chV b v)) (keyC b v) (b.R.getD v Ae).2)else gv c),blT (fA b.n gt),blU c7]:=by
 have hgv1:∀m,9<=m->blw m (fA b.n λc=>if c=v then .mref 8 else gv c):=λm hm=>zEx.2 λc hc j hj=>by
  split
  ·simp[refs];omega
  exact h.gw c hc j (by omega)
 have hgt1:∀m,9<=m->blw m (fA b.n gt):=λm hm=>zEx.2 λc hc j hj=>h.tw c hc j (by omega);have hch:=zMh b v (by rw[h.R];exact h.vn) (by rw[h.L];exact h.n) h.V h.V2 h.k (fA b.n λc=>if c=v then .mref 8 else gv c) (fA b.n gt) c7 [] 170 [] (hgv1 9 (AT _)) (hgt1 9 (AT _));have hset:(fA b.n gv).set v (.mref 8)=fA b.n λc=>if c=v then .mref 8 else gv c:=zEv
 have hac:∀a:List Nat×List Rw,(atR a).length=3:=λ_=>rfl;have hbc:∀a:Bg,(bgC a).length=3:=λ_=>rfl;have hvL:v<b.L.length:=by rw[h.L];exact h.vn
 have hvR:v<b.R.length:=by rw[h.R];exact h.vn
 have hav:(b.R.flatMap atR).drop (v*3)= .row (nsD (b.R.getD v Ae).1) (b.R.getD v Ae).1.length::iD ((b.R.getD v Ae).1.length:Nat):: .row ((b.R.getD v Ae).2.map rowV) (b.R.getD v Ae).2.length::(b.R.drop (v+1)).flatMap atR:=zL3 hac b.R v hvR;have hne:=zDc hac (by decide) b.R (by omega);have hbat:=zL3 hbc b.L v hvL;have hbne:=zDc hbc (by decide) b.L (by omega);have hic:Pure Ay 95 [.row (nsD (b.R.getD v Ae).1) (b.R.getD v Ae).1.length,u32D (b.L.getD v Ae).k] [] (.row (nsD (keyC b v)) (keyC b v).length):=icols_c (b.R.getD v Ae).1 _ rfl h.V h.V2 (b.L.getD v Ae).k (h.k _ (by rw[AI,AL hvL];exact AV hvL));have hn:=h.n;have hvn:=h.vn;have hfl:(fA b.n gv).length=b.n:=zEw;refine Acts.post (T:=Tre) (x:= .tup []) (s:=[blI b,blX,blG b,blE b,blB b,blV (fA b.n λc=>if c=v then .mref 8 else gv c),blT (fA b.n gt),blU c7,mapB (redK (λx=>wtL b.f VT TT x (chV b v)) (keyC b v) (b.R.getD v Ae).2),chfB ((chV b v).flatMap chC),⟨[],0,0,Ab,Ad, .plain⟩]) ?_ ?_ (keep8 rfl)
 ·refine zP Tre_ok mixed Tryz.func51 rfl (keep8 rfl) ?_;focus
   refine vAs<|vr 7 (True/\0<3/\True/\(0:Int)<=(v:Int)/\(v:Int)<↑(Bd.n b))<|vo 14 5 v<|vr 1 (Bo (blV<|fA (Bd.n b) gv)=Ad/\zD5 (AM 8)=Ab/\1=1/\v+1<=Aa (AK<|blV<|fA (Bd.n b) gv))<|vb 5 (Ak (setAt (AK<|blV<|fA (Bd.n b) gv) v<|cellsOf<|AM 8) (Ba<|blV<|fA (Bd.n b) gv) (Bb<|blV<|fA (Bd.n b) gv) Ab Ad<|AY<|blV<|fA (Bd.n b) gv) (Ak (fA (Bd.n b) λ(c:Nat)=>if c=v then AM 8 else gv c) (170:TypeId) 1 Ab Ad A0) (by simp(disch:=omega) only[cellsOf,setAt,hset])<|veT<|zA ?_;refine zA7 [0,1,3,4,5,7,11,12,13,15,6,8,9,10,14,16,17,18] [(2,[(6,100000),(8,100000),(9,100000),(10,100000),(14,100000),(16,100000),(17,100000),(18,100000)],[19,20,21])] rfl ?_;refine vr 12 (True/\True/\0<4/\ix ↑v (Aa (Bd.R b):Int) (Aj atR (Bd.R b)≠[]))<|vs 23 (AE<|Ai (AC (v:Int)*3)<|Aj atR<|Bd.R b) (AE (Am (nsD<|Az<|Ap (Bd.R b) v Ae) (Aa<|Az<|Ap (Bd.R b) v Ae)::iD (↑(Aa<|Az<|Ap (Bd.R b) v Ae):Int)::Am (Al rowV<|AG<|Ap (Bd.R b) v Ae) (Aa<|AG<|Ap (Bd.R b) v Ae)::Aj atR (Ai (v+1)<|Bd.R b))) (by simp(disch:=omega) only[AW,hav])<|vr 4 (True/\0<Aa (Am (nsD<|Az<|Ap (Bd.R b) v Ae) (Aa<|Az<|Ap (Bd.R b) v Ae)::iD (↑(Aa<|Az<|Ap (Bd.R b) v Ae):Int)::Am (Al rowV<|AG<|Ap (Bd.R b) v Ae) (Aa<|AG<|Ap (Bd.R b) v Ae)::Aj atR (Ai (v+1)<|Bd.R b))/\0<5/\ix ↑v (Aa (Bd.L b):Int) (Aj bgC (Bd.L b)≠[]))<|vs 31 (AE<|Ai (AC (v:Int)*3)<|Aj bgC<|Bd.L b) (AE (iD (↑(Bg.v<|Ap (Bd.L b) v Ae):Int)::u32D (AP<|Ap (Bd.L b) v Ae)::iD (AS<|Ap (Bd.L b) v Ae)::Aj bgC (Ai (v+1)<|Bd.L b))) (by simp(disch:=omega) only[AW,BH,BL,hbat])<|vr 2 (True/\0<Aa (u32D (AP<|Ap (Bd.L b) v Ae)::iD (AS<|Ap (Bd.L b) v Ae)::Aj bgC (Ai (v+1)<|Bd.L b)))<|vnil<|zB3 rfl rfl (by kernel_rfl)<|vnt [blI b,blX,blG b,blE b,blB b,Ak (fA (Bd.n b) λ(c:Nat)=>if c=v then AM 8 else gv c) (170:TypeId) 1 Ab Ad A0,blT<|fA (Bd.n b) gt,blU c7,Ak [] 170 0 Ab Ad<|BC []] ?_;refine zZ [] [] [Af 4 0,iD v] [Af 4 0,iD v] (AX _) (by exact hch) ?_;refine vnil ?_;refine zE3 (C:=0<4/\Ax ((q15_ b))=Ax (BF [(q15_ b),Ao 5 0 (Bd.n b) (Bd.n b) Ab,Ao 6 0 (Bd.n b) (Bd.n b) Ab,Ao 7 0 (Bd.f b) (Bd.f b) Ab] Uk)/\ix ↑v (Aa (Bd.R b):Int) (Aj atR (Bd.R b)≠[])/\Ax (AE ((q25_ b v)::iD (↑(Aa (Az (Ap (Bd.R b) v Ae))):Int)::Am (Al rowV (AG (Ap (Bd.R b) v Ae))) (Aa (AG (Ap (Bd.R b) v Ae)))::Aj atR (Ai (v+1) (Bd.R b))))=Ax (AE (Ai (AC (v:Int)*3) (Aj atR (Bd.R b))))/\True/\Ax (AE ((q25_ b v)::iD (↑(Aa (Az (Ap (Bd.R b) v Ae))):Int)::Am (Al rowV (AG (Ap (Bd.R b) v Ae))) (Aa (AG (Ap (Bd.R b) v Ae)))::Aj atR (Ai (v+1) (Bd.R b))))=Ax (AE (Ai 0 ((q25_ b v)::iD (↑(Aa (Az (Ap (Bd.R b) v Ae))):Int)::Am (Al rowV (AG (Ap (Bd.R b) v Ae))) (Aa (AG (Ap (Bd.R b) v Ae)))::Aj atR (Ai (v+1) (Bd.R b)))))/\0<Aa ((q25_ b v)::iD (↑(Aa (Az (Ap (Bd.R b) v Ae))):Int)::Am (Al rowV (AG (Ap (Bd.R b) v Ae))) (Aa (AG (Ap (Bd.R b) v Ae)))::Aj atR (Ai (v+1) (Bd.R b)))/\Ax ((q25_ b v))=Ax (BF ((q25_ b v)::iD (↑(Aa (Az (Ap (Bd.R b) v Ae))):Int)::Am (Al rowV (AG (Ap (Bd.R b) v Ae))) (Aa (AG (Ap (Bd.R b) v Ae)))::Aj atR (Ai (v+1) (Bd.R b))) Uk)/\0<5/\Ax ((q16_ b))=Ax (BF [(q16_ b),(q15_ b),Ao 5 0 (Bd.n b) (Bd.n b) Ab,Ao 6 0 (Bd.n b) (Bd.n b) Ab,Ao 7 0 (Bd.f b) (Bd.f b) Ab] Uk)/\ix ↑v (Aa (Bd.L b):Int) (Aj bgC (Bd.L b)≠[])/\Ax (AE (iD (↑(Bg.v (Ap (Bd.L b) v Ae)):Int)::u32D (AP (Ap (Bd.L b) v Ae))::iD (AS (Ap (Bd.L b) v Ae))::Aj bgC (Ai (v+1) (Bd.L b))))=Ax (AE (Ai (AC (v:Int)*3) (Aj bgC (Bd.L b))))/\True/\Ax (AE (u32D (AP (Ap (Bd.L b) v Ae))::iD (AS (Ap (Bd.L b) v Ae))::Aj bgC (Ai (v+1) (Bd.L b))))=Ax (AE (Ai 1 (iD (↑(Bg.v (Ap (Bd.L b) v Ae)):Int)::u32D (AP (Ap (Bd.L b) v Ae))::iD (AS (Ap (Bd.L b) v Ae))::Aj bgC (Ai (v+1) (Bd.L b)))))/\0<Aa (u32D (AP (Ap (Bd.L b) v Ae))::iD (AS (Ap (Bd.L b) v Ae))::Aj bgC (Ai (v+1) (Bd.L b)))/\Ax (dig (AP (Ap (Bd.L b) v Ae)))=Ax (BF (u32D (AP (Ap (Bd.L b) v Ae))::iD (AS (Ap (Bd.L b) v Ae))::Aj bgC (Ai (v+1) (Bd.L b))) Uk)) ⟨(by omega),(by kernel_rfl),⟨(by omega),⟨(by omega),(by assumption)⟩⟩,?_,trivial,(by kernel_rfl),(lb (by kernel_rfl)),(by kernel_rfl),(by omega),(by kernel_rfl),⟨(by omega),⟨(by omega),(by assumption)⟩⟩,?_,trivial,(by kernel_rfl),(lb (by kernel_rfl)),(by kernel_rfl)⟩ ?_;rotate_left;rotate_left;refine v0s<|vc hic<|vrT 2<|vnil<|zBv<|zC<|vnn (fr 67 [(0,Af 4 0),(1,iD v),(4,Ao 9 0 (Aa<|chV b v) (Aa (chV b v)*2) Ab),(5,Am (nsD<|keyC b v)<|Aa<|keyC b v),(15,Af 4 0),(16,iD v),(17,Ao 9 0 (Aa<|chV b v) (Aa (chV b v)*2) Ab),(18,Af 4 0),(19,Af 4 0),(20,Af 4 6),(21,(q15_ b)),(22,iD v),(23,AE ((q25_ b v)::iD (↑(Aa<|Az<|Ap (Bd.R b) v Ae):Int)::Am (Al rowV<|AG<|Ap (Bd.R b) v Ae) (Aa<|AG<|Ap (Bd.R b) v Ae)::Aj atR (Ai (v+1)<|Bd.R b))),(24,AE ((q25_ b v)::iD (↑(Aa<|Az<|Ap (Bd.R b) v Ae):Int)::Am (Al rowV<|AG<|Ap (Bd.R b) v Ae) (Aa<|AG<|Ap (Bd.R b) v Ae)::Aj atR (Ai (v+1)<|Bd.R b))),(25,(q25_ b v)),(26,Af 4 0),(27,Af 4 0),(28,Af 4 5),(29,(q16_ b)),(30,iD v),(31,AE (iD (↑(Bg.v<|Ap (Bd.L b) v Ae):Int)::u32D (AP<|Ap (Bd.L b) v Ae)::iD (AS<|Ap (Bd.L b) v Ae)::Aj bgC (Ai (v+1)<|Bd.L b))),(32,AE (u32D (AP<|Ap (Bd.L b) v Ae)::iD (AS<|Ap (Bd.L b) v Ae)::Aj bgC (Ai (v+1)<|Bd.L b))),(33,dig<|AP<|Ap (Bd.L b) v Ae),(34,Am (nsD<|keyC b v)<|Aa<|keyC b v)]) [(q26_ b),q27_,(q28_ b),(q29_ b),(q30_ b),Ak (fA (Bd.n b) λ(c:Nat)=>if c=v then AM 8 else gv c) 170 1 Ab Ad A0,Ak (fA (Bd.n b) gt) 177 1 Ab Ad A0,Ak c7 88 1 Ab Ad Aq,Ak [] 170 0 Ab Ad<|BC [],Ak (Aj chC<|chV b v) 200 2 Ab Ad Aq] ?_;rotate_left
  ·first|exact Eq.trans (b:=Ax (AE (.row (nsD (b.R.getD v Ae).1) (b.R.getD v Ae).1.length::iD ((b.R.getD v Ae).1.length:Nat):: .row ((b.R.getD v Ae).2.map rowV) (b.R.getD v Ae).2.length::(b.R.drop (v+1)).flatMap atR))) (by kernel_rfl) (congrArg (λl=>Ax (AE l)) hav.symm)|exact Eq.trans (b:=Ax (AE (bgC (b.L.getD v Ae)++(b.L.drop (v+1)).flatMap bgC))) (by kernel_rfl) (congrArg (λl=>Ax (AE l)) hbat.symm)
  ·first|exact Eq.trans (b:=Ax (AE (.row (nsD (b.R.getD v Ae).1) (b.R.getD v Ae).1.length::iD ((b.R.getD v Ae).1.length:Nat):: .row ((b.R.getD v Ae).2.map rowV) (b.R.getD v Ae).2.length::(b.R.drop (v+1)).flatMap atR))) (by kernel_rfl) (congrArg (λl=>Ax (AE l)) hav.symm)|exact Eq.trans (b:=Ax (AE (bgC (b.L.getD v Ae)++(b.L.drop (v+1)).flatMap bgC))) (by kernel_rfl) (congrArg (λl=>Ax (AE l)) hbat.symm)
  have hf:frz Ab [blI b,blX,blG b,blE b,blB b,blV (fA b.n λc=>if c=v then .mref 8 else gv c),blT (fA b.n gt),blU c7,blM 170 [] [],chB (chV b v)] zAc (.osl 9 0 (chV b v).length ((chV b v).length*2) Ab)=Ax (.row ((chV b v).flatMap chC) (chV b v).length,[9]):=by
   rw[show zAc=8+1 from rfl,zJs (e:=chB (chV b v)) rfl rfl rfl];show Ax (Am ((((chV b v).flatMap chC).drop 0).take ((chV b v).length*2)) (chV b v).length,[9])=_;rw[Bf,zNq (g:=chC) (c:=2) (λ_=>rfl) _ _ rfl]
  refine zBz ((Weak.frzSlot (s:=4) (by kernel_rfl) hf).trans<|Weak.phant ⟨[],0,0,Ab,Ad,.plain⟩) ?_;have hro:=zS8 ((b.R.getD v Ae).1.length:Nat) (b.R.getD v Ae).2 h.rl (λr hr=>by rw[(h.r r hr).1];have:=h.V;omega);have hrw:=h.r;have hS:=h.S;have hcl:∀c∈chV b v,c.2.length<=1000/\∀j∈c.2,j<(b.R.getD v Ae).1.length:=λc hc=>by
   obtain⟨_,_,e⟩:=zG9 hc;rw[e];refine⟨A2 (BK _ _) ?_,zJx _ _⟩;rw[B8];exact h.V
  have hcl2:(keyC b v).length<=1000:=A2 (BK _ _) (by rw[B8];exact h.V);have hkl:∀c∈keyC b v,c<(b.R.getD v Ae).1.length:=zJx (λu=>(b.L.getD v Ae).k.testBit u) (b.R.getD v Ae).1;have hchl:(chV b v).length<=1000:=A2 (zVb _ _ _ _) (by rw[h.L];exact h.n);have hV:=h.V;have hchn:∀c∈chV b v,c.1<b.n:=λc hc=>by rw[<-h.L];exact(zG9 hc).1
  have hrl:=h.rl;have hhv:=h.hv;have hht:=h.ht;have hne2:=h.ne;have hS1:=h.S1;focus
   refine vAs<|vr 6 (True/\0<4/\ix ↑v (Aa (Bd.R b):Int) (Aj atR (Bd.R b)≠[]))<|vs 40 (AE<|Ai (AC (v:Int)*3)<|Aj atR<|Bd.R b) (AE (Am (nsD<|Az<|Ap (Bd.R b) v Ae) (Aa<|Az<|Ap (Bd.R b) v Ae)::iD (↑(Aa<|Az<|Ap (Bd.R b) v Ae):Int)::Am (Al rowV<|AG<|Ap (Bd.R b) v Ae) (Aa<|AG<|Ap (Bd.R b) v Ae)::Aj atR (Ai (v+1)<|Bd.R b))) (by simp(disch:=omega) only[AW,hav])<|vr 2 (True/\2<=Aa (iD (↑(Aa<|Az<|Ap (Bd.R b) v Ae):Int)::Am (Al rowV<|AG<|Ap (Bd.R b) v Ae) (Aa<|AG<|Ap (Bd.R b) v Ae)::Aj atR (Ai (v+1)<|Bd.R b)))<|vc hro<|veT<|zH ?_;rotate_left
  generalize hRv:(b.R.getD v Ae).2=rows at*;generalize hCv:chV b v=ch at*;generalize hKv:keyC b v=cols at*;refine zK (λ(i:Nat)=>fr 67 [(0,Af 4 0),(1,iD v),(4,(q20_ ch)),(5,(q5_ cols)),(43,Am (Al rowV rows)<|Aa rows),(44,iD<|Aa rows),(45,iD i)]) (λ(i:Nat)=>[blI b,blX,blG b,blE b,blB b,blV (fA b.n λc=>if c=v then .mref 8 else gv c),blT<|fA b.n gt,blU c7,mapB<|redK (λx=>wtL b.f VT TT x ch) cols<|rows.take i,chfB<|ch.flatMap chC,(⟨[],0,0,Ab,Ad,.plain⟩:Bk)]) (λ(i:Nat)=>rows.length-i) (λ(i:Nat)=>i<=rows.length) 0 ?_ ?_ ?_
  ·omega
  ·refine vk 11 ?_;all_goals exact λk hk=>zDj k (by omega)
  intro i h1;rcases AR i rows.length with h3|h3
  ·have hhd:=zAo rowV rows [] i h3;have hmne:rows.map rowV≠[]:=zAm (by omega);have hmem:rows.getD i []∈rows:=by rw[AI,AL h3];exact AV h3
   obtain⟨r1,r2⟩:=hrw _ hmem;have hsx:=hS _ hmem;have hsu:=redK_succ (λx=>wtL b.f VT TT x ch) cols rows i h3;generalize rows.getD i []=x at*;generalize hKg:redK (λx=>wtL b.f VT TT x ch) cols (rows.take i)=K at*;have hwt:=zVn b x ch (λc=>if c=v then .mref 8 else gv c) gt VT TT (by omega) r2 hchl (λc hc=>⟨hchn c hc,by rw[r1];exact hcl c hc⟩) (λc hc hf=>by rw[if_neg (hne2 c hc)];exact hhv c hc hf) hht hsx hS1 c7 (K.map λ_=>bD Ab) (ch.flatMap chC) [] 170 0 0 (K.map kyv) (hgv1 11 (by omega)) (hgt1 11 (by omega));have hpk:=pick_c x cols _ _ rfl rfl (by omega) (by omega) (λc hc=>by rw[r1];exact hkl c hc);have hpl:(zY x cols).length=cols.length:=by simp[zY]
   have hid:=zC2 (zY x cols) cols.length hpl (by omega) (zPl x cols r2);generalize wtL b.f VT TT x ch=w at*;have hmp:=mput_b K (zY x cols);have hget:((fA b.n λc=>if c=v then .mref 8 else gv c).drop v).headD .unk= .mref 8:=by rw[zEf hvn];exact if_pos rfl
   have hps:=zCe (g:=λc=>if c=v then .mref 8 else gv c) hvn;rcases CD w with hw|hw
   ·have hdl:dg w=[]:=by subst hw;simp[dg]
    rw[if_neg (by omega)]at hsu;focus
     refine vAu<|zA<|vT ((i:Int)<↑(Aa rows))<|vKB<|vA<|vr 1 (ix ↑i ↑(Aa rows) (Al rowV rows≠[])) ?_;refine vp 47 i (Al rowV rows)<|vr 1 (0<Aa (Ai i<|Al rowV rows))<|vsh 48 hhd<|veT<|vA<|vrT 3<|vnt [blI b,blX,blG b,blE b,blB b,blV (fA (Bd.n b) λ(c:Nat)=>if c=v then AM 8 else gv c),blT<|fA (Bd.n b) gt,blU c7,mapB K,chfB<|Aj chC ch,Ak [] (0:TypeId) 0 Ab Ad Aq] ?_;refine zZ [] [] [Af 4 0,(q20_ ch),(q3_ x)] [Af 4 0,(q20_ ch),(q3_ x)] (AX _) (by exact hwt) ?_;refine v0s<|veT<|zGc (t:=decide ((Aa (dg w):Int)>(0:Int))) (by kernel_rfl) (by simpa using by omega)<|zQ<|zD<|vN<|zB rfl<|vr 2 (i6 (↑i+1))<|vnil<|zC ?_;rotate_left
    refine⟨i+1,by omega,by omega,?_⟩;rw[hsu];refine vk 11 ?_;all_goals exact λk hk=>zDj k (by omega)
   have hdl:=zXi hw;rw[if_pos hw]at hsu;focus
    refine vAu (zA (vT ((i:Int)<↑(Aa rows)) (vKB (vA (vr 1 (ix ↑i ↑(Aa rows) (Al rowV rows≠[])) ?_)))));refine vp 47 i (Al rowV rows) (vr 1 (0<Aa (Ai i (Al rowV rows))) (vsh 48 hhd (veT (vA (vrT 3 (vnt [blI b,blX,blG b,blE b,blB b,blV (fA (Bd.n b) λ(c:Nat)=>if c=v then AM 8 else gv c),blT (fA (Bd.n b) gt),blU c7,mapB K,chfB (Aj chC ch),Ak [] (0:TypeId) 0 Ab Ad Aq] ?_))))));refine zZ [] [] [Af 4 0,(q20_ ch),(q3_ x)] [Af 4 0,(q20_ ch),(q3_ x)] (AX _) (by exact hwt) ?_;refine v0s (veT (vT ((Aa (dg w):Int)>(0:Int)) (vd [0,1,2,4,7,8,3,5,6,9,10,11] (vr 8 (True/\0<3/\(0:Int)<=(v:Int)/\(v:Int)<↑(Bd.n b)) (vo 60 5 v (vr 1 (0<Aa (Ai v (fA (Bd.n b) λ(c:Nat)=>if c=v then AM 8 else gv c))) (vsh 61 hget (vc hpk (vc hid (vr 1 (Ad=Ad/\zX (A6 (A7 A8 "string" 1 16 Ab 8 8 (Ax (AD (AQ #[]))) Ab #[])) (AD (bs (idR (zY x cols))))=Ab/\Bz (Al kyv K) (zX (A6 (A7 A8 "string" 1 16 Ab 8 8 (Ax (AD (AQ #[]))) Ab #[])))=Ab/\¬8∈[]) (vb 8 (mput (Ak (Al (λ(x:Rw)=>bD Ab) K) 170 0 Ab Ad (BC (Al kyv K))) (Al kyv K) (AD (bs (idR (zY x cols)))) (bD Ab)) (mapB (addK K (zY x cols))) (by simp(disch:=omega) only[hmp]) (vnil (zD ?_))) ⟨(by kernel_rfl),⟨(by kernel_rfl),⟨(by exact zTx _),(by decide)⟩⟩⟩))))))))));refine vN (zB rfl (vr 2 (i6 (↑i+1)) (vnil (zC ?_))));rotate_left
   refine⟨i+1,by omega,by omega,?_⟩;rw[hsu];refine vk 11 ?_;all_goals exact λk hk=>zDj k (by omega)
  obtain rfl:i=rows.length:=by omega
  rw[Bn];focus
   refine vAu<|zA<|vF ((Aa rows:Int)<↑(Aa rows))<|vY2 ?_;refine zM (True) [] (.inl rfl) ?_;rotate_left
  exact⟨by kernel_rfl,by kernel_rfl⟩
 generalize redK (λx=>wtL b.f VT TT x (chV b v)) (keyC b v) (b.R.getD v Ae).2=K;have e2:(fA b.n λc=>if c=v then .mref 8 else gv c).set v (zHk K)=fA b.n λc=>if c=v then zHk K else gv c:=by
  rw[zEv];refine zB1 λc _=>?_;by_cases hc:c=v
  ·rw[if_pos hc,if_pos hc]
  rw[if_neg hc,if_neg hc,if_neg hc]
 have hw:=B9 (T:=Tre) (sl:=[D.tup []]) (st:=[blI b,blX,blG b,blE b,blB b,blV (fA b.n λc=>if c=v then .mref 8 else gv c),blT (fA b.n gt),blU c7,mapB K,chfB ((chV b v).flatMap chC),⟨[],0,0,Ab,Ad, .plain⟩]) (j:=5) (i:=v) (d:= .mref 8) (x:=zHk K) (ks:=[8]) rfl rfl rfl (by rw[zXh hvn];exact congrArg Ax (if_pos rfl)) rfl (by decide);refine hw.trans ?_;show Weak Tre _ ([blI b,blX,blG b,blE b,blB b,blV ((fA b.n λc=>if c=v then .mref 8 else gv c).set v (zHk K)),blT (fA b.n gt),blU c7]++[{mapB K with fz:=Ab},chfB ((chV b v).flatMap chC),⟨[],0,0,Ab,Ad, .plain⟩]) _ _;rw[e2];refine zHi (N:=8) rfl (zHb (AT _) (zEx.2 λc hc j hj=>?_) (zEx.2 h.tw) (by simp)) (by intro j hj;cases hj) zDj;split
 ·rfl
 exact h.gw c hc j hj
structure Bu where
 key:List Va
 desc:Bool
 t:WT
instance : Inhabited WT := ⟨.nil⟩
instance : Inhabited Bu := ⟨⟨[], Ad, .nil⟩⟩
abbrev buC(b:Bu):List D:=[.row (zJ b.key) b.key.length,bD b.desc,b.t.x]
abbrev busD(l:List Bu):D:= .row (l.flatMap buC) l.length
theorem zCh(b:Bu):(buC b).length=3:=rfl
abbrev buB(l:List Bu):Bk:=⟨l.flatMap buC,91,3,Ab,Ad, .plain⟩
def Bu.Ok(b:Bu):Prop:=b.key.length<=10000/\∀v∈b.key,Vs v
set_option maxHeartbeats 2000000 in
theorem copies_c(l:List Bu)(n:Nat)(hn:l.length=n)(hl:n<=1000000)(hk:∀b∈l,b.key.length<=10000):Pure Ay 74 [.row (l.flatMap buC) n] [] (.row (l.flatMap buC) n):=by
 subst hn;refine zF zBk mixed Tryz.func74 rfl ?_;focus
  refine vAu<|vAe<|zA<|vAe<|zH ?_;rotate_left
 refine zK (λ(i:Nat)=>fr 23 [(2,nl),(3,Ao 0 0 i (i*3) Ab),(6,Am (Aj buC l)<|Aa l),(7,iD<|Aa l),(8,iD i)]) (λi=>[buB<|l.take i]) (λi=>l.length-i) (λi=>i<=l.length) 0 ?_ ?_ ?_
 ·omega
 ·refine vk 0
 rintro i h1;rcases AR i l.length with hi|hi
 ·have e1:=zEi l i hi;have hb:(l.getD i Ae).key.length<=10000:=by rw[AI,AL hi];exact hk _ (AV _)
  have e0:=zCp zCh l i hi;obtain⟨b,eb⟩:∃b,b=l.getD i default:=⟨_,rfl⟩;rw[<-eb]at e1 hb e0;have e2:=zR2 (g:=buC) (l.take i) b;have e3:=zDk zCh (l.take i);have e4:(l.take i).length=i:=by simp;omega
  have e5:=zAz b.key;rw[e4]at e3;focus
   refine vAu<|zA<|vT ((i:Int)<↑(Aa l))<|vKB<|vA<|vr 2 (ix ↑i ↑(Aa l) (Aj buC l≠[])/\3<=Aa (Ai (i*3)<|Aj buC l)) ?_ ⟨⟨(by omega),⟨(by omega),(by exact zDc zCh (by decide) _ (by omega))⟩⟩,(by exact zEe zCh _ _ (by omega))⟩;refine vs 11 (AF<|Au 3<|Ai (i*3)<|Aj buC l) (AF<|buC b) (by simp(disch:=omega) only[e0])<|ve (Ad=Ad/\Ab=Ab/\3=3/\3<=3)<|vd [0,1,4,2,3,5,6,7,8,9]<|vr 4 (True/\True/\0<3)<|vc (zGd (zJ b.key) _ e5 (by omega))<|vr 4 (2<=2/\((1=1/\1<=3/\2=2/\3<=3/\True)/\Ab=Ab)/\((3=3/\3<=3/\True)/\0<3/\3=3/\3<=16777216/\1<=9223372036854775807)/\Bk.arr (buB<|Au i l)=Ab/\Aa (AK<|buB<|Au i l)=i*3/\i*3=i*3/\Ba (buB<|Au i l)=91/\Bb (buB<|Au i l)=3/\3=3/\0<3/\0<40/\91=91/\(i+1)*40<=140737488355328/\3=3/\Bh (AY<|buB<|Au i l)=Ad/\(Ad=Ad\/Bi (AY<|buB<|Au i l)=Ab))<|vb 0 (Ak (AK (buB<|Au i l)++[Am (zJ<|Bu.key b)<|Aa<|Bu.key b,bD<|Bu.desc b,Aw<|WT.d<|Bu.t b]) (Ba<|buB<|Au i l) (Bb<|buB<|Au i l) Ab Ad<|AY<|buB<|Au i l) (Ak (Aj buC (Au i l++[b])) (91:TypeId) 3 Ab Ad Aq) (by simp(disch:=omega) only[zR2])<|vrT 1<|vnil<|zD<|vN<|zB rfl<|vr 2 (i6 (↑i+1)) ?_;refine vnil<|zC ?_;rotate_left
  refine⟨i+1,by omega,by omega,?_⟩;rw[e1];refine vk 1
 have e:i=l.length:=by omega
 subst e;rw[Bn];focus
  refine vAu<|zA<|vF ((Aa l:Int)<↑(Aa l))<|vZ2<|vA ?_;refine veT<|zE ?_;refine zB9 (True) (Am (Au (Aa l*3)<|Ai 0<|AK<|buB l)<|Aa l) (Am (Aj buC l)<|Aa l) (.inr rfl) trivial (by simp(disch:=omega) only[Bf,zNq zCh]) rfl
theorem free_c(desc:List Bool)(n:Nat)(hn:desc.length=n)(b c p:List D)(bn cn pn:Nat)(tot:Nat)(v:Int)(hl:n<=1000000):Pure Ay 58 [.agg [.row (desc.map bD) n, .row b bn, .row c cn, .row p pn,natD tot],iD v] [] (bD (decide (0<=v)&&decide (v<(n:Int)))):=by
 subst hn;refine zF zBk mixed Tryz.func58 rfl ?_;by_cases h0:0<=v
 ·rw[decide_eq_true h0];refine vAu<|vA<|vew [] [(2,Ab)] (decide (v>=(0:Int))=Ab/\True/\0<5)<|zE<|vret (True)<|.inr rfl
 rw[decide_eq_false h0];refine vAu<|vA<|vew [] [(2,Ad)] (decide (v>=(0:Int))=Ad)<|zE<|vret (True)<|.inr rfl
end
section
open Go.RowKit
def gAdd(desc:Bool)(l:List Bu)(k:List Va)(v:Va)(w:Nat):List Bu:=match l.getLast? with
 |some b=>if b.key=k then l.dropLast++[⟨b.key,desc,b.t.put desc v w⟩]else l++[⟨k,desc,WT.nil.put desc v w⟩]
 |none=>[⟨k,desc,WT.nil.put desc v w⟩]
theorem zP6(desc:Bool)(k:List Va)(v:Va)(w:Nat):gAdd desc [] k v w=[⟨k,desc,WT.nil.put desc v w⟩]:=rfl
theorem zTt(desc:Bool)(m:List Bu)(b:Bu)(k:List Va)(v:Va)(w:Nat)(h:b.key=k):gAdd desc (m++[b]) k v w=m++[⟨b.key,desc,b.t.put desc v w⟩]:=by
 unfold gAdd;rw[List.getLast?_concat];dsimp only;rw[if_pos h,List.dropLast_concat]
theorem zTs(desc:Bool)(m:List Bu)(b:Bu)(k:List Va)(v:Va)(w:Nat)(h:b.key≠k):gAdd desc (m++[b]) k v w=m++[b]++[⟨k,desc,WT.nil.put desc v w⟩]:=by
 unfold gAdd;rw[List.getLast?_concat];dsimp only;rw[if_neg h]
abbrev kyX(x:List Va):List Va:=x.take (x.length-1)
abbrev vaX(x:List Va):Va:=x.getD (x.length-1) Ae
def grpL(desc:Bool)(w:List Va->Nat)(rows:List (List Va)):List Bu:=rows.foldl (λl x=>if 0<w x then gAdd desc l (kyX x) (vaX x) (w x)else l) []
theorem zRx(desc:Bool)(w:List Va->Nat)(rows:List (List Va))(x:List Va):grpL desc w (rows++[x])=if 0<w x then gAdd desc (grpL desc w rows) (kyX x) (vaX x) (w x)else grpL desc w rows:=by
 unfold grpL;rw[BE];rfl
theorem grpL_succ(desc:Bool)(w:List Va->Nat)(rows:List (List Va))(i:Nat)(h:i<rows.length):grpL desc w (rows.take (i+1))=if 0<w (rows.getD i [])then gAdd desc (grpL desc w (rows.take i)) (kyX (rows.getD i [])) (vaX (rows.getD i [])) (w (rows.getD i []))else grpL desc w (rows.take i):=by
 rw[By h,zRx,AI,AL h];rfl
structure Gok(desc:Bool)(n s:Nat)(Q:List Va->Prop)(b:Bu):Prop where
 d:b.desc=desc
 q:Q b.key
 n:b.t.sz<=n
 s:b.t.tot<=s
theorem Gok.mono{desc:Bool}{n s n' s':Nat}{Q:List Va->Prop}{b:Bu}(h:Gok desc n s Q b)(h1:n<=n')(h2:s<=s'):Gok desc n' s' Q b:=⟨h.d,h.q,A2 h.n h1,A2 h.s h2⟩
theorem gAdd_ok{desc:Bool}{n s:Nat}{Q:List Va->Prop}{l:List Bu}{k:List Va}{v:Va}{w:Nat}(h:∀b∈l,Gok desc n s Q b)(hq:Q k):∀b∈gAdd desc l k v w,Gok desc (n+1) (s+w) Q b:=by
 have hp:=λt=>WT.put_le desc v w t;have hnew:Gok desc (n+1) (s+w) Q ⟨k,desc,WT.nil.put desc v w⟩:=⟨rfl,hq,by have:=(hp .nil).1;simp only[WT.sz]at this;show(WT.nil.put desc v w).sz<=_;omega,by have:=(hp .nil).2;simp only[WT.tot]at this;show(WT.nil.put desc v w).tot<=_;omega⟩;rcases CE l with rfl|⟨m,b0,rfl⟩
 ·intro b hb;rw[zP6,BP]at hb;subst hb;exact hnew
 rw[CF]at*;by_cases e:b0.key=k
 ·rw[zTt _ _ _ _ _ _ e];intro b hb;rcases CB.1 hb with hb|hb
  ·exact(h b (List.mem_append_left _ hb)).mono (by omega) (by omega)
  rw[BP]at hb;subst hb;have h0:=h b0 (by simp);have h1:=hp b0.t;exact⟨rfl,h0.q,A2 h1.1 (by have:=h0.n;omega),A2 h1.2 (by have:=h0.s;omega)⟩
 rw[zTs _ _ _ _ _ _ e];intro b hb;rcases CB.1 hb with hb|hb
 ·exact(h b hb).mono (by omega) (by omega)
 rw[BP]at hb;subst hb;exact hnew
theorem gAdd_len{desc:Bool}{l:List Bu}{k:List Va}{v:Va}{w:Nat}:(gAdd desc l k v w).length<=l.length+1:=by
 rcases CE l with rfl|⟨m,b0,rfl⟩
 ·simp[zP6]
 rw[CF];by_cases e:b0.key=k
 ·rw[zTt _ _ _ _ _ _ e];simp
 rw[zTs _ _ _ _ _ _ e];simp
def sumW(w:List Va->Nat)(rows:List (List Va)):Nat:=(rows.map w).sum
theorem zZo(w:List Va->Nat)(rows:List (List Va))(x:List Va):sumW w (rows++[x])=sumW w rows+w x:=by simp[sumW]
theorem zTr{desc:Bool}{w:List Va->Nat}{Q:List Va->Prop}(rows:List (List Va))(hq:∀x∈rows,Q (kyX x)):(grpL desc w rows).length<=rows.length/\∀b∈grpL desc w rows,Gok desc rows.length (sumW w rows) Q b:=by
 have key:∀(r l:List (List Va)),(∀x∈l,Q (kyX x))->l.reverse=r->(grpL desc w l).length<=l.length/\∀b∈grpL desc w l,Gok desc l.length (sumW w l) Q b:=by
  intro r;induction r with
  |nil=>
   intro l _ e;obtain rfl:l=[]:=by simpa using e
   exact⟨AT _,λb hb=>by cases hb⟩
  |cons x r ih=>
   intro l hl e;obtain rfl:l=r.reverse++[x]:=by rw[<-List.reverse_reverse l,e,List.reverse_cons]
   obtain⟨i1,i2⟩:=ih r.reverse (λy hy=>hl y (List.mem_append_left _ hy)) (List.reverse_reverse r);rw[zRx,Br,zZo];split
   ·exact⟨A2 gAdd_len (by simpa using i1),gAdd_ok i2 (hl x (by simp))⟩
   exact⟨A2 i1 (by simp),λb hb=>(i2 b hb).mono (by simp) (by omega)⟩
 exact key _ rows hq rfl
theorem zZn(w:List Va->Nat)(rows:List (List Va))(i:Nat)(h:i<rows.length):sumW w (rows.take i)+w (rows.getD i [])<=sumW w rows:=by
 have e:rows=rows.take i++rows.getD i []::rows.drop (i+1):=by
  rw[AI,AL h,BQ,<-CQ h,Cj]
 conv=>rhs;rw[e]
 simp only[sumW,BB,Bt,CA,B3];omega
def tput(K:List (List Va×Nat))(r:List Va)(w:Nat):List (List Va×Nat):=match K.findIdx? λp=>decide (r=p.1)with
 |some i=>K.set i (r,w)
 |none=>K++[(r,w)]
def totL(l:List Bu):List (List Va×Nat):=l.foldl (λK b=>tput K b.key b.t.tot) []
theorem zZj(l:List Bu)(i:Nat)(h:i<l.length):totL (l.take (i+1))=tput (totL (l.take i)) (l.getD i Ae).key (l.getD i Ae).t.tot:=by
 unfold totL;rw[By h,BE,AI,AL h];rfl
theorem zWt(K:List (List Va×Nat))(r:List Va):zEo (K.map λp=>kyv p.1) (kyv r)=K.findIdx? λp=>decide (r=p.1):=by
 unfold zEo;rw[List.findIdx?_map];congr 1;funext s;exact zVr r s.1
end
section
open Go.RowKit
attribute [local irreducible] seqW awp zAe zAn zAd Weak updS zAv retL Pure Acts rP setP setQ cP nP fr
set_option maxRecDepth 4096
abbrev mapT(K:List (List Va×Nat)):Bk:=⟨K.map λp=>natD p.2,177,0,Ab,Ad, .map (K.map λp=>kyv p.1)⟩
theorem mput_t(K:List (List Va×Nat))(r:List Va)(w:Nat):mput (mapT K) (K.map λp=>kyv p.1) (kyv r) (natD w)=mapT (tput K r w):=by
 unfold mput tput;rw[zWt];cases e:K.findIdx? λs=>decide (r=s.1)with
 |none=>simp
 | some i=>
  rw[Cl]at e;obtain⟨h,h1,_⟩:=e;have hr:r=K[i].1:=by simpa using h1
  have e1:(K.map λp=>natD p.2).set i (natD w)=(K.set i (r,w)).map λp=>natD p.2:=by rw[Cn]
  have e2:(K.set i (r,w)).map (λp=>kyv p.1)=K.map λp=>kyv p.1:=by
   rw[Cn];apply Co;intro j;rw[BU];split
   ·rename_i hj;subst hj;rw[if_pos (by simpa using h),A9,AL h,BA,<-hr]
   rfl
  simp only[mapT,e1,e2]
theorem cellsX{x:List Va}(h:0<x.length):(zJ x).take ((x.length-1)*3)=zJ (kyX x):=by
 have e:x=kyX x++x.drop (x.length-1):=(Cj _ _).symm;conv=>lhs;rw[e,zJy]
 have hl:(zJ (kyX x)).length=(x.length-1)*3:=by rw[zAz,CG];omega
 rw[show(kyX x++x.drop (x.length-1)).length=x.length by rw[<-e],CO (by omega),BN (by omega)]
abbrev q31_:=Ak [] 177 0 Ab Ad (BC [])
abbrev q32_(x0:Bd)(x1:Nat->D):=Ak (fA (Bd.n x0) x1) 170 1 Ab Ad A0
abbrev q33_(x0:Bd)(x1:Nat->D):=Ak (fA (Bd.f x0) x1) 88 1 Ab Ad Aq
abbrev q34_(x0:List (Nat×List Nat)):=Ak (Aj chC x0) 200 2 Ab Ab Aq
abbrev q35_(x0:List Va):=Am (zJ (kyX x0)) (Aa x0-1)
abbrev q36_(x0:Bu):=Am (zJ (Bu.key x0)) (Aa (Bu.key x0))
set_option maxHeartbeats 4000000 in
theorem group_c(b:Bd)(v:Nat)(gv gt gu:Nat->D)(VT:Nat->List Rw)(TT:Nat->List (Rw×Nat))(h:Bok b v gv gt VT TT)(hvf:v<b.f)(hdl:b.desc.length=b.f)(hV1:0<(b.R.getD v Ae).1.length)(hok:∀x∈(b.R.getD v Ae).2,x.all vok=Ab)(hsum:Sm (sumW (λx=>wtL b.f VT TT x (chV b v)) (b.R.getD v Ae).2)):
  Acts Ay 52 [.own 4 0,iD (v:Nat)] [blI b,blX,blG b,blE b,blB b,blV (fA b.n gv),blT (fA b.n gt),blU (fA b.f gu)] [] (iD 0)
   [blI b,blX,blG b,blE b,blB b,blV (fA b.n gv),blT (fA b.n λc=>if c=v then zGt (totL (grpL (b.desc.getD v Ad) (λx=>wtL b.f VT TT x (chV b v)) (b.R.getD v Ae).2))else gt c),blU (fA b.f λc=>if c=v then busD (grpL (b.desc.getD v Ad) (λx=>wtL b.f VT TT x (chV b v)) (b.R.getD v Ae).2)else gu c)]:=by
 have hgt1:∀m,9<=m->blw m (fA b.n λc=>if c=v then .mref 8 else gt c):=λm hm=>zEx.2 λc hc j hj=>by
  split
  ·simp[refs];omega
  exact h.tw c hc j (by omega)
 have hgv1:∀m,9<=m->blw m (fA b.n gv):=λm hm=>zEx.2 λc hc j hj=>h.gw c hc j (by omega);have hch:=zMh b v (by rw[h.R];exact h.vn) (by rw[h.L];exact h.n) h.V h.V2 h.k (fA b.n gv) (fA b.n λc=>if c=v then .mref 8 else gt c) (fA b.f gu) [] 177 [] (hgv1 9 (AT _)) (hgt1 9 (AT _));have hset:(fA b.n gt).set v (.mref 8)=fA b.n λc=>if c=v then .mref 8 else gt c:=zEv
 have hac:∀a:List Nat×List Rw,(atR a).length=3:=λ_=>rfl;have hvR:v<b.R.length:=by rw[h.R];exact h.vn
 have hav:(b.R.flatMap atR).drop (v*3)= .row (nsD (b.R.getD v Ae).1) (b.R.getD v Ae).1.length::iD ((b.R.getD v Ae).1.length:Nat):: .row ((b.R.getD v Ae).2.map rowV) (b.R.getD v Ae).2.length::(b.R.drop (v+1)).flatMap atR:=zL3 hac b.R v hvR;have hne:=zDc hac (by decide) b.R (by omega);have hdes:=zAo (λx:Bool=>bD x) b.desc Ad v (by omega);have hdne:b.desc.map (λx:Bool=>bD x)≠[]:=zAm (by omega);have hn:=h.n;have hvn:=h.vn;have hfl:(fA b.n gt).length=b.n:=zEw;refine Acts.post (T:=Tre) (x:=iD 0) (s:=[blI b,blX,blG b,blE b,blB b,blV (fA b.n gv),blT (fA b.n λc=>if c=v then .mref 8 else gt c),blU (fA b.f λc=>if c=v then busD (grpL (b.desc.getD v Ad) (λx=>wtL b.f VT TT x (chV b v)) (b.R.getD v Ae).2)else gu c),mapT (totL (grpL (b.desc.getD v Ad) (λx=>wtL b.f VT TT x (chV b v)) (b.R.getD v Ae).2)),chfB ((chV b v).flatMap chC),{buB (grpL (b.desc.getD v Ad) (λx=>wtL b.f VT TT x (chV b v)) (b.R.getD v Ae).2)with fz:=Ab}]) ?_ ?_ (keep8 rfl)
 ·refine zP Tre_ok mixed Tryz.func52 rfl (keep8 rfl) ?_;focus
   refine vAu<|vA<|vr 7 (True/\0<2/\True/\(0:Int)<=(v:Int)/\(v:Int)<↑(Bd.n b))<|vo 22 6 v<|vr 1 (Bo (blT<|fA (Bd.n b) gt)=Ad/\zD5 (AM 8)=Ab/\1=1/\v+1<=Aa (AK<|blT<|fA (Bd.n b) gt))<|vb 6 (Ak (setAt (AK<|blT<|fA (Bd.n b) gt) v<|cellsOf<|AM 8) (Ba<|blT<|fA (Bd.n b) gt) (Bb<|blT<|fA (Bd.n b) gt) Ab Ad<|AY<|blT<|fA (Bd.n b) gt) (Ak (fA (Bd.n b) λ(c:Nat)=>if c=v then AM 8 else gt c) (177:TypeId) 1 Ab Ad A0) (by simp(disch:=omega) only[cellsOf,setAt,hset])<|veT<|vA<|vrT 2 ?_;refine vnt [blI b,blX,blG b,blE b,blB b,blV<|fA (Bd.n b) gv,Ak (fA (Bd.n b) λ(c:Nat)=>if c=v then AM 8 else gt c) (177:TypeId) 1 Ab Ad A0,blU<|fA (Bd.f b) gu,q31_] ?_;refine zZ [] [] [Af 4 0,iD v] [Af 4 0,iD v] (AX _) (by exact hch) ?_;refine v0s<|vrT 1<|vnil<|zC<|vnn (fr 137 [(0,Af 4 0),(1,iD v),(4,iD 0),(5,Ao 9 0 (Aa<|chV b v) (Aa (chV b v)*2) Ab),(23,Af 4 0),(24,iD v),(25,Ao 9 0 (Aa<|chV b v) (Aa (chV b v)*2) Ab)]) [(q26_ b),q27_,(q28_ b),(q29_ b),(q30_ b),(q32_ b gv),Ak (fA (Bd.n b) λ(c:Nat)=>if c=v then AM 8 else gt c) 177 1 Ab Ad A0,(q33_ b gu),q31_,Ak (Aj chC<|chV b v) 200 2 Ab Ad Aq] ?_;rotate_left
  have hf:frz Ab [blI b,blX,blG b,blE b,blB b,blV (fA b.n gv),blT (fA b.n λc=>if c=v then .mref 8 else gt c),blU (fA b.f gu),blM 177 [] [],chB (chV b v)] zAc (.osl 9 0 (chV b v).length ((chV b v).length*2) Ab)=Ax (.row ((chV b v).flatMap chC) (chV b v).length,[9]):=by
   rw[show zAc=8+1 from rfl,zJs (e:=chB (chV b v)) rfl rfl rfl];show Ax (Am ((((chV b v).flatMap chC).drop 0).take ((chV b v).length*2)) (chV b v).length,[9])=_;rw[Bf,zNq (g:=chC) (c:=2) (λ_=>rfl) _ _ rfl]
  refine zBz (Weak.frzSlot (s:=5) (by kernel_rfl) hf) ?_;have hro:=zS8 ((b.R.getD v Ae).1.length:Nat) (b.R.getD v Ae).2 h.rl (λr hr=>by rw[(h.r r hr).1];have:=h.V;omega);have hrw:=h.r;have hS:=h.S;have hcl:∀c∈chV b v,c.2.length<=1000/\∀j∈c.2,j<(b.R.getD v Ae).1.length:=λc hc=>by
   obtain⟨_,_,e⟩:=zG9 hc;rw[e];refine⟨A2 (BK _ _) ?_,zJx _ _⟩;rw[B8];exact h.V
  have hchl:(chV b v).length<=1000:=A2 (zVb _ _ _ _) (by rw[h.L];exact h.n);have hV:=h.V;have hchn:∀c∈chV b v,c.1<b.n:=λc hc=>by rw[<-h.L];exact(zG9 hc).1
  have hrl:=h.rl;have hhv:=h.hv;have hht:=h.ht;have hne2:=h.ne;have hS1:=h.S1;focus
   refine vAs<|vrT 1<|vnil<|zC<|vnn (fr 137 [(0,Af 4 0),(1,iD v),(4,iD 0),(5,Am (Aj chC<|chV b v)<|Aa<|chV b v),(6,nl),(23,Af 4 0),(24,iD v),(25,Ao 9 0 (Aa<|chV b v) (Aa (chV b v)*2) Ab)]) [(q26_ b),q27_,(q28_ b),(q29_ b),(q30_ b),(q32_ b gv),Ak (fA (Bd.n b) λ(c:Nat)=>if c=v then AM 8 else gt c) 177 1 Ab Ad A0,(q33_ b gu),q31_,(λ(e:Bk)=>Ak (AK e) (Ba e) (Bb e) (Bk.arr e) Ab (AY e))<|Ak (Aj chC<|chV b v) 200 2 Ab Ad Aq] ?_;rotate_left
  refine zBz ((Weak.nilS 6 10 Ab (by kernel_rfl)).trans<|Weak.phant<|buB []) ?_;focus
   refine zA<|vAs<|vr 6 (True/\0<4/\ix ↑v (Aa (Bd.R b):Int) (Aj atR (Bd.R b)≠[]))<|vs 31 (AE<|Ai (AC (v:Int)*3)<|Aj atR<|Bd.R b) (AE (Am (nsD<|Az<|Ap (Bd.R b) v Ae) (Aa<|Az<|Ap (Bd.R b) v Ae)::iD (↑(Aa<|Az<|Ap (Bd.R b) v Ae):Int)::Am (Al rowV<|AG<|Ap (Bd.R b) v Ae) (Aa<|AG<|Ap (Bd.R b) v Ae)::Aj atR (Ai (v+1)<|Bd.R b))) (by simp(disch:=omega) only[AW,hav])<|vr 2 (True/\2<=Aa (iD (↑(Aa<|Az<|Ap (Bd.R b) v Ae):Int)::Am (Al rowV<|AG<|Ap (Bd.R b) v Ae) (Aa<|AG<|Ap (Bd.R b) v Ae)::Aj atR (Ai (v+1)<|Bd.R b)))<|vc hro<|veT<|zH ?_;rotate_left
  generalize hRv:(b.R.getD v Ae).2=rows at*;generalize hCv:chV b v=ch at*;generalize hDv:b.desc.getD v Ad=desc at*;have hgo:∀i,(grpL desc (λx=>wtL b.f VT TT x ch) (rows.take i)).length<=i/\∀u∈grpL desc (λx=>wtL b.f VT TT x ch) (rows.take i),Gok desc i (sumW (λx=>wtL b.f VT TT x ch) (rows.take i)) (λk=>k.length<=1000/\∀u∈k,Vs u) u:=λi=>by
   obtain⟨q1,q2⟩:=zTr (desc:=desc) (w:=λx=>wtL b.f VT TT x ch) (Q:=λk=>k.length<=1000/\∀u∈k,Vs u) (rows.take i) λx hx=>by
    obtain⟨s1,s2⟩:=hrw x (CH hx);exact⟨by rw[CG];omega,λu hu=>s2 u (CH hu)⟩
   exact⟨A2 q1 (by simp;omega),λu hu=>(q2 u hu).mono (by simp;omega) (AT _)⟩
  have hnm:∀l,∀e∈[blI b,blX,blG b,blE b,blB b,blV (fA b.n gv),blT (fA b.n λc=>if c=v then .mref 8 else gt c),blU (fA b.f gu),blM 177 [] [],chfB (ch.flatMap chC),buB l],namB 11 e:=λl=>zHb (by omega) (hgv1 11 (by omega)) (hgt1 11 (by omega)) λe he=>by
   simp only[Bq,Ch,or_false]at he;rcases he with rfl|rfl|rfl<;>exact .inl rfl
  have k5:=killL (hgv1 10 (by omega) 10 (by omega));have k6:=killL (hgt1 10 (by omega) 10 (by omega));refine zK (λ(i:Nat)=>fr 137 [(0,Af 4 0),(1,iD v),(5,(q20_ ch)),(6,Ao 10 0 (Aa<|grpL desc (λ(x:List Va)=>wtL (Bd.f b) VT TT x ch)<|Au i rows) (Aa (grpL desc (λ(x:List Va)=>wtL (Bd.f b) VT TT x ch)<|Au i rows)*3) Ab),(34,Am (Al rowV rows)<|Aa rows),(35,iD<|Aa rows),(36,iD i)]) (λ(i:Nat)=>[blI b,blX,blG b,blE b,blB b,blV<|fA b.n gv,blT (fA b.n λc=>if c=v then .mref 8 else gt c),blU<|fA b.f gu,blM 177 [] [],chfB<|ch.flatMap chC,buB<|grpL desc (λx=>wtL b.f VT TT x ch)<|rows.take i]) (λ(i:Nat)=>rows.length-i) (λ(i:Nat)=>i<=rows.length) 0 ?_ ?_ ?_
  ·omega
  ·simp only[show grpL desc (λx=>wtL b.f VT TT x ch) (rows.take 0)=[]from rfl,BW,Cm];refine vk 11 ?_;all_goals exact λk hk=>zDj k (by omega)
  intro i h1;rcases AR i rows.length with h3|h3
  ·have hhd:=zAo rowV rows [] i h3;have hmne:rows.map rowV≠[]:=zAm (by omega);have hmem:rows.getD i []∈rows:=by rw[AI,AL h3];exact AV h3
   obtain⟨r1,r2⟩:=hrw _ hmem;have hsx:=hS _ hmem;have hvx:=hok _ hmem;have hsu:=grpL_succ desc (λx=>wtL b.f VT TT x ch) rows i h3;obtain⟨g1,g2⟩:=hgo i;have hsm:=zZn (λx=>wtL b.f VT TT x ch) rows i h3;generalize rows.getD i []=x at*;generalize hGg:grpL desc (λx=>wtL b.f VT TT x ch) (rows.take i)=l at*;have hwt:=zVn b x ch gv (λc=>if c=v then .mref 8 else gt c) VT TT (by omega) r2 hchl (λc hc=>⟨hchn c hc,by rw[r1];exact hcl c hc⟩) hhv (λc hc hf=>by rw[if_neg (hne2 c hc)];exact hht c hc hf) hsx hS1 (fA b.f gu) [] (ch.flatMap chC) (l.flatMap buC) 177 91 3 [] (hgv1 11 (by omega)) (hgt1 11 (by omega));generalize hwg:wtL b.f VT TT x ch=w at*;generalize hsg:sumW (λx=>wtL b.f VT TT x ch) rows=sw at*;generalize hsi:sumW (λx=>wtL b.f VT TT x ch) (rows.take i)=si at*;have hx0:0<x.length:=by omega
   have hvv:vok (vaX x)=true:=BD.1 hvx _ (by rw[vaX,AI,AL (by omega)];exact AV _);have hkx:=cellsX hx0;have hkl:(kyX x).length=x.length-1:=by simp
   have hcln:=zGd (zJ (kyX x)) (x.length-1) (by rw[zAz,hkl]) (by omega);have htv:=zDt x (x.length-1) (by omega);have hxc:=zAz x;have htn:((x.length:Int)-1).toNat=x.length-1:=by omega
   rcases CD w with hw|hw
   ·have hdl0:dg w=[]:=by subst hw;simp[dg]
    rw[if_neg (by omega)]at hsu;focus
     refine vAu<|zA<|vT ((i:Int)<↑(Aa rows))<|vKB<|vA<|vr 1 (ix ↑i ↑(Aa rows) (Al rowV rows≠[])) ?_;refine vp 38 i (Al rowV rows)<|vr 1 (0<Aa (Ai i<|Al rowV rows))<|vsh 39 hhd<|veT<|vA<|vrT 3<|vnt [blI b,blX,blG b,blE b,blB b,blV<|fA (Bd.n b) gv,blT (fA (Bd.n b) λ(c:Nat)=>if c=v then AM 8 else gt c),blU<|fA (Bd.f b) gu,blM (177:TypeId) [] [],chfB<|Aj chC ch,buB l] ?_;refine zZ [] [] [Af 4 0,(q20_ ch),(q3_ x)] [Af 4 0,(q20_ ch),(q3_ x)] (AX _) (by exact hwt) ?_;refine v0s<|veT<|zA<|vAe<|zGb (t:=(Aa (dg w):Int)==(0:Int)) (by kernel_rfl) (by simpa using by omega)<|vZ<|zB rfl<|vr 2 (i6 (↑i+1)) ?_;refine vnil<|zC ?_;rotate_left
    refine⟨i+1,by omega,by omega,?_⟩;rw[hsu];refine vk 11 ?_;all_goals exact λk hk=>zDj k (by omega)
   have hdp:=zXi hw;rw[if_pos hw]at hsu;have hpc:=λ(t:WT)(q1:t.sz<=i)(q2:t.tot<=si)=>wPut_c desc t (vaX x) w hvv hw (by omega) (hsum.le (by omega));rcases CE l with rfl|⟨m,u,hl⟩
   ·rw[zP6]at hsu;have hp0:=hpc .nil (BG _) (BG _);have hbu:buB [⟨kyX x,desc,WT.nil.put desc (vaX x) w⟩]=⟨[.row (zJ (kyX x)) (x.length-1),bD desc,(WT.nil.put desc (vaX x) w).x],91,3,Ab,Ad, .plain⟩:=by
     show Ak [.row _ (kyX x).length,_,_] _ _ _ _ _=_;rw[hkl]
    have hnm2:=hnm [⟨kyX x,desc,WT.nil.put desc (vaX x) w⟩];rw[hbu]at hnm2;simp only[BW,Cm];focus
     refine vAu<|zA<|vT ((i:Int)<↑(Aa rows))<|vKB<|vA<|vr 1 (ix ↑i ↑(Aa rows) (Al rowV rows≠[])) ?_;refine vp 38 i (Al rowV rows)<|vr 1 (0<Aa (Ai i<|Al rowV rows))<|vsh 39 hhd<|veT<|vA<|vrT 3<|vnt [blI b,blX,blG b,blE b,blB b,blV<|fA (Bd.n b) gv,blT (fA (Bd.n b) λ(c:Nat)=>if c=v then AM 8 else gt c),blU<|fA (Bd.f b) gu,blM (177:TypeId) [] [],chfB<|Aj chC ch,buB []] ?_;refine zZ [] [] [Af 4 0,(q20_ ch),(q3_ x)] [Af 4 0,(q20_ ch),(q3_ x)] (AX _) (by exact hwt) ?_;refine v0s<|veT<|zA<|vAe<|vEf ((Aa (dg w):Int)) ((0:Int))<|vK<|vA<|vr 5 (i6 (↑(Aa x)-1)/\True/\(0:Int)<=(Aa x:Int)-(1:Int)/\True/\0<3/\0<=AC ((Aa x:Int)-(1:Int))/\AC ((Aa x:Int)-(1:Int))<=Aa x/\AC ((Aa x:Int)-(1:Int))=AC ((Aa x:Int)-(1:Int)))<|vs 51 (Am (Au ((AC ((Aa x:Int)-(1:Int))-0)*3)<|Ai 0<|zJ x) (AC ((Aa x:Int)-(1:Int))-0)) (Am (zJ<|kyX x) (Aa x-1)) (by simp(disch:=omega) only[Nat.sub_zero,Bf,htn,hkx]) ?_;refine veT<|zA<|vAe<|vt<|vd [0,1,3,4,5,6,8,2,7,9,10,11,12,13,14,15]<|vr 7 (True/\True)<|vc hcln<|vr 2 (0<8/\ix ↑v (Aa (Bd.desc b):Int) (Al bD (Bd.desc b)≠[]))<|vp 76 v (Al bD<|Bd.desc b)<|vr 1 (0<Aa (Ai v<|Al bD<|Bd.desc b))<|vsh 77 hdes<|vc (wnew_c desc) ?_;refine ve (((1=1/\1<=3/\2=2/\3<=3/\True)/\Ab=Ab)/\((3=3/\3<=3/\True)/\0<3/\3=3/\3<=16777216/\1<=9223372036854775807)/\Ab=Ab/\0=0/\0=0/\91=91/\3=3/\3=3/\0<3/\0<40/\91=91/\40<=140737488355328/\3=3/\Ad=Ad/\(Ad=Ad\/Ad=Ab))<|vA<|ve (i6 (↑(1:Nat)-1)/\(0:Int)<=(↑(1:Nat):Int)-(1:Int)/\(↑(1:Nat):Int)-(1:Int)<(↑(1:Nat):Int))<|zA<|vd [0,1,2,4,5,6,7,8,10,3,9,11,12,13,14,15,16,17]<|vr 8 (True/\i6 (↑(Aa x)-1)/\ix ((Aa x:Int)-(1:Int)) (Aa x:Int) (zJ x≠[])) (vs 96 (AE<|Ai (AC ((Aa x:Int)-(1:Int))*3)<|zJ x) (AE<|Ai ((Aa x-1)*3)<|zJ x) (by simp(disch:=omega) only[htn])<|vr 3 (2<=2/\3<=Aa (Ai ((Aa x-1)*3)<|zJ x))<|vs 97 (AF<|Au 3<|Ai ((Aa x-1)*3)<|zJ x) (AF<|vaC<|Ap x (Aa x-1) Ae) (by simp(disch:=omega) only[htv])<|vc hp0<|ve (0<2/\1<2/\Ad=Ad/\Ab=Ab/\2=2/\2<=2)<|zA<|zA ?_) ⟨trivial,(by omega),⟨(by omega),⟨(by omega),(by exact zHl _ (by omega))⟩⟩⟩;refine zB rfl<|veT<|vf<|vK<|zB rfl<|vr 5 (2<=2/\True/\Ad=Ad/\Ab=Ab/\2=2/\3<=3/\¬10∈[])<|vnil<|zD<|vN<|zB rfl<|vr 2 (i6 (↑i+1)) ?_;refine vnil<|zC ?_;rotate_left
    refine⟨i+1,by omega,by omega,?_⟩;rw[hsu,hbu];refine wkn (fr 137 [(0,Af 4 0),(1,iD v),(5,(q20_ ch)),(6,Ao 10 0 1 3 Ab),(11,Af 10 0),(12,Af 12 0),(13,iD 0),(34,Am (Al rowV rows) (Aa rows)),(35,iD (Aa rows)),(36,iD ↑(i+1)),(103,bD Ad),(105,Af 10 0),(106,AF [bD desc,Aw (WT.d (WT.put desc (vaX x) w WT.nil))]),(107,Af 10 0),(108,Af 10 1),(109,iD ↑(i+1))]) [(q26_ b),q27_,(q28_ b),(q29_ b),(q30_ b),Ak (Al (zAi 10) (fA (Bd.n b) gv)) 170 1 Ab Ad A0,Ak (Al (zAi 10) (fA (Bd.n b) λ(c:Nat)=>if c=v then AM 8 else gt c)) 177 1 Ab Ad A0,(q33_ b gu),q31_,(q34_ ch),Ak [(q35_ x),bD desc,Aw (WT.d (WT.put desc (vaX x) w WT.nil))] 91 3 Ab Ad Aq,Ak [(q35_ x),bD desc,Aw (WT.d WT.nil)] 91 3 Ab Ad Aq,Ak [bD desc,Aw (WT.d (WT.put desc (vaX x) w WT.nil))] 57 0 Ad Ad Aq] ?_;rw[k5,k6];refine zA4 (N:=11) (4<11/\10<11/\True) rfl hnm2 (λk hk=>zDj k (by omega)) ?_ ⟨by omega,by omega,trivial⟩;refine vk 13 ?_;all_goals exact λk hk=>zDj k (by omega)
   rw [CF]at hl;obtain⟨uk,ud,ut⟩:=u;have hg:=g2 ⟨uk,ud,ut⟩ (by rw[hl];simp);obtain rfl:ud=desc:=hg.d;have hp0:=hpc ut hg.n hg.s;have huk:=hg.q.1;dsimp only at huk;have hk:l.length=m.length+1:=by rw[hl];simp
   have htk:((l.length:Int)-1).toNat=m.length:=by omega
   have hmC:(m.flatMap buC).length=m.length*3:=zDk zCh m;have hlC:(l.flatMap buC).length=l.length*3:=zDk zCh l;have hat:(l.flatMap buC).drop (m.length*3)=[.row (zJ uk) uk.length,bD ud,ut.x]:=by
    rw[hl,B6,<-hmC,List.drop_left];simp
   have hat1:(l.flatMap buC).drop (m.length*3+1)=[bD ud,ut.x]:=by rw[<-List.drop_drop,hat];rfl
   have hs0:0<((l.flatMap buC).drop (m.length*3)).length:=by rw[hat];simp
   have hs1:2<=((l.flatMap buC).drop (m.length*3+1)).length:=by rw[hat1];simp
   by_cases heq:uk=kyX x
   ·have hrq:Pure Ay 99 [.row (zJ uk) uk.length, .row (zJ (kyX x)) (x.length-1)] [] (bD Ab):=by
     have:=zE9 uk (kyX x) uk.length (x.length-1) rfl hkl (by omega) (by omega)
     rwa[decide_eq_true heq]at this
    rw[hl,zTt _ _ _ _ _ _ heq]at hsu;have hup:buB (m++[⟨uk,ud,ut.put ud (vaX x) w⟩])=⟨((l.flatMap buC).set (m.length*3+1) (bD ud)).set (m.length*3+1+1) (ut.put ud (vaX x) w).x,91,3,Ab,Ad, .plain⟩:=by
     have e:((l.flatMap buC).set (m.length*3+1) (bD ud)).set (m.length*3+1+1) (ut.put ud (vaX x) w).x=(m++[(⟨uk,ud,ut.put ud (vaX x) w⟩:Bu)]).flatMap buC:=by
      rw[hl,B6,B6,Cp _ _ (by omega),Cp _ _ (by omega),hmC,show m.length*3+1-m.length*3=1 by omega,show m.length*3+1+1-m.length*3=2 by omega];rfl
     rw[e]
    have hnm2:=hnm (m++[⟨uk,ud,ut.put ud (vaX x) w⟩]);rw[hup]at hnm2;have hln2:(m++[(⟨uk,ud,ut.put ud (vaX x) w⟩:Bu)]).length=l.length:=by rw[hk];simp
    focus
     refine vAu<|zA<|vT ((i:Int)<↑(Aa rows))<|vKB<|vA<|vr 1 (ix ↑i ↑(Aa rows) (Al rowV rows≠[])) ?_;refine vp 38 i (Al rowV rows)<|vr 1 (0<Aa (Ai i<|Al rowV rows))<|vsh 39 hhd<|veT<|vA<|vrT 3<|vnt [blI b,blX,blG b,blE b,blB b,blV<|fA (Bd.n b) gv,blT (fA (Bd.n b) λ(c:Nat)=>if c=v then AM 8 else gt c),blU<|fA (Bd.f b) gu,blM (177:TypeId) [] [],chfB<|Aj chC ch,buB l] ?_;refine zZ [] [] [Af 4 0,(q20_ ch),(q3_ x)] [Af 4 0,(q20_ ch),(q3_ x)] (AX _) (by exact hwt) ?_;refine v0s<|veT<|zA<|vAe<|vEf ((Aa (dg w):Int)) ((0:Int))<|vK<|vA<|vr 5 (i6 (↑(Aa x)-1)/\True/\(0:Int)<=(Aa x:Int)-(1:Int)/\True/\0<3/\0<=AC ((Aa x:Int)-(1:Int))/\AC ((Aa x:Int)-(1:Int))<=Aa x/\AC ((Aa x:Int)-(1:Int))=AC ((Aa x:Int)-(1:Int)))<|vs 51 (Am (Au ((AC ((Aa x:Int)-(1:Int))-0)*3)<|Ai 0<|zJ x) (AC ((Aa x:Int)-(1:Int))-0)) (Am (zJ<|kyX x) (Aa x-1)) (by simp(disch:=omega) only[Nat.sub_zero,Bf,htn,hkx]) ?_;refine veT<|zA<|vA<|vw 9 [] [(3,Ad)] (True/\((Aa l:Int)==(0:Int))=Ad/\i6 (↑(Aa l)-1)/\(0:Int)<=(Aa l:Int)-(1:Int)/\(Aa l:Int)-(1:Int)<(Aa l:Int)) (vs 60 (Af 10 (0+AC ((Aa l:Int)-(1:Int))*3)) (Af 10 (Aa m*3)) (by simp(disch:=omega) only[Cq,htk])<|vr 2 (True/\0<Aa (Ai (Aa m*3)<|Aj buC l))<|vs 62 (BF (Ai (Aa m*3)<|Aj buC l) Uk) (Am (zJ uk)<|Aa uk) (by simp(disch:=omega) only[List.headD_cons,hat])<|vrT 1<|vc hrq<|veT<|vf<|zQ<|zC ?_) ⟨trivial,(by exact decide_eq_false (by omega)),(by omega),(by omega)⟩;refine zA5<|vA<|vr 5 (i6 (↑(Aa l)-1)/\(0:Int)<=(Aa l:Int)-(1:Int)/\(Aa l:Int)-(1:Int)<(Aa l:Int))<|vs 86 (Af 10 (0+AC ((Aa l:Int)-(1:Int))*3)) (Af 10 (Aa m*3)) (by simp(disch:=omega) only[Cq,htk])<|veT<|zA<|vd [0,1,2,4,5,6,7,8,10,3,9,11,12,13,14,15,16,17]<|vr 8 (True/\i6 (↑(Aa x)-1)/\ix ((Aa x:Int)-(1:Int)) (Aa x:Int) (zJ x≠[])) (vs 96 (AE<|Ai (AC ((Aa x:Int)-(1:Int))*3)<|zJ x) (AE<|Ai ((Aa x-1)*3)<|zJ x) (by simp(disch:=omega) only[htn])<|vr 2 (2<=Aa (Ai (Aa m*3+1)<|Aj buC l))<|vs 91 (AF<|Au 2<|Ai (Aa m*3+1)<|Aj buC l) (AF [bD ud,WT.x ut]) (by simp(disch:=omega) only[List.take_succ_cons,List.take_nil,hat1])<|vr 1 (3<=Aa (Ai ((Aa x-1)*3)<|zJ x))<|vs 97 (AF<|Au 3<|Ai ((Aa x-1)*3)<|zJ x) (AF<|vaC<|Ap x (Aa x-1) Ae) (by simp(disch:=omega) only[htv]) ?_) ⟨trivial,(by omega),⟨(by omega),⟨(by omega),(by exact zHl _ (by omega))⟩⟩⟩;refine vc hp0<|ve (0<2/\1<2/\Ad=Ad/\Ab=Ab/\2=2/\2<=2)<|zA<|vAe<|vf<|vK<|zB rfl<|vr 5 (2<=2/\True/\Ad=Ad/\Ab=Ab/\2=2/\Aa m*3+1+2<=Aa (Aj buC l)/\¬10∈[])<|vnil<|zD ?_;refine vN<|zB rfl<|vr 2 (i6 (↑i+1))<|vnil<|zC ?_;rotate_left
    refine⟨i+1,by omega,by omega,?_⟩;rw[hsu,hln2,hup];refine wkn (fr 137 [(0,Af 4 0),(1,iD v),(5,(q20_ ch)),(6,Ao 10 0 (Aa l) (Aa l*3) Ab),(11,Af 10 (Aa m*3)),(12,Af 11 0),(13,iD 0),(34,Am (Al rowV rows) (Aa rows)),(35,iD (Aa rows)),(36,iD ↑(i+1)),(103,bD Ad),(105,Af 10 (Aa m*3)),(106,AF [bD ud,Aw (WT.d (WT.put ud (vaX x) w ut))]),(107,Af 10 (Aa m*3)),(108,Af 10 (Aa m*3+1)),(109,iD ↑(i+1))]) [(q26_ b),q27_,(q28_ b),(q29_ b),(q30_ b),(q32_ b gv),Ak (fA (Bd.n b) λ(c:Nat)=>if c=v then AM 8 else gt c) 177 1 Ab Ad A0,(q33_ b gu),q31_,(q34_ ch),Ak (List.set (List.set (Aj buC l) (Aa m*3+1) (bD ud)) (Aa m*3+1+1) (Aw (WT.d (WT.put ud (vaX x) w ut)))) 91 3 Ab Ad Aq,Ak [bD ud,Aw (WT.d (WT.put ud (vaX x) w ut))] 57 0 Ad Ad Aq] ?_;refine zA4 (N:=11) (4<11/\10<11/\True) rfl hnm2 (λk hk=>zDj k (by omega)) ?_ ⟨by omega,by omega,trivial⟩;refine vk 12 ?_;all_goals exact λk hk=>zDj k (by omega)
   have hrq:Pure Ay 99 [.row (zJ uk) uk.length, .row (zJ (kyX x)) (x.length-1)] [] (bD Ad):=by
    have:=zE9 uk (kyX x) uk.length (x.length-1) rfl hkl (by omega) (by omega)
    rwa[decide_eq_false heq]at this
   rw[hl,zTs _ _ _ _ _ _ heq,<-hl]at hsu;have hp1:=hpc .nil (BG _) (BG _);have hdr1:∀A B E:D,(l.flatMap buC++[A,B,E]).drop (l.length*3+1)=[B,E]:=λA B E=>by
    rw[<-List.drop_drop,<-hlC,List.drop_left];rfl
   have hup:buB (l++[⟨kyX x,ud,WT.nil.put ud (vaX x) w⟩])=⟨((l.flatMap buC++[.row (zJ (kyX x)) (x.length-1),bD ud,WT.nil.x]).set (l.length*3+1) (bD ud)).set (l.length*3+1+1) (WT.nil.put ud (vaX x) w).x,91,3,Ab,Ad, .plain⟩:=by
    have e:((l.flatMap buC++[.row (zJ (kyX x)) (x.length-1),bD ud,WT.nil.x]).set (l.length*3+1) (bD ud)).set (l.length*3+1+1) (WT.nil.put ud (vaX x) w).x=(l++[(⟨kyX x,ud,WT.nil.put ud (vaX x) w⟩:Bu)]).flatMap buC:=by
     rw[B6,Cp _ _ (by omega),Cp _ _ (by omega),hlC,show l.length*3+1-l.length*3=1 by omega,show l.length*3+1+1-l.length*3=2 by omega];simp only[List.flatMap_cons,List.flatMap_nil,Ct];show _=l.flatMap buC++[.row (zJ (kyX x)) (kyX x).length,bD ud,(WT.nil.put ud (vaX x) w).x];rw[hkl];rfl
    rw[e]
   have hnm2:=hnm (l++[⟨kyX x,ud,WT.nil.put ud (vaX x) w⟩]);rw[hup]at hnm2;have hln2:(l++[(⟨kyX x,ud,WT.nil.put ud (vaX x) w⟩:Bu)]).length=l.length+1:=by simp
   have hs2:∀A B E:D,2<=((l.flatMap buC++[A,B,E]).drop (l.length*3+1)).length:=λA B E=>by rw[hdr1];simp
   have hs3:∀A B E:D,l.length*3+1+2<=(l.flatMap buC++[A,B,E]).length:=λA B E=>by simp[hlC]
   have htl:(((l.length+1:Nat):Int)-1).toNat=l.length:=by omega
   focus
    refine vAu<|zA<|vT ((i:Int)<↑(Aa rows))<|vKB<|vA<|vr 1 (ix ↑i ↑(Aa rows) (Al rowV rows≠[])) ?_;refine vp 38 i (Al rowV rows)<|vr 1 (0<Aa (Ai i<|Al rowV rows))<|vsh 39 hhd<|veT<|vA<|vrT 3<|vnt [blI b,blX,blG b,blE b,blB b,blV<|fA (Bd.n b) gv,blT (fA (Bd.n b) λ(c:Nat)=>if c=v then AM 8 else gt c),blU<|fA (Bd.f b) gu,blM (177:TypeId) [] [],chfB<|Aj chC ch,buB l] ?_;refine zZ [] [] [Af 4 0,(q20_ ch),(q3_ x)] [Af 4 0,(q20_ ch),(q3_ x)] (AX _) (by exact hwt) ?_;refine v0s<|veT<|zA<|vAe<|vEf ((Aa (dg w):Int)) ((0:Int))<|vK<|vA<|vr 5 (i6 (↑(Aa x)-1)/\True/\(0:Int)<=(Aa x:Int)-(1:Int)/\True/\0<3/\0<=AC ((Aa x:Int)-(1:Int))/\AC ((Aa x:Int)-(1:Int))<=Aa x/\AC ((Aa x:Int)-(1:Int))=AC ((Aa x:Int)-(1:Int)))<|vs 51 (Am (Au ((AC ((Aa x:Int)-(1:Int))-0)*3)<|Ai 0<|zJ x) (AC ((Aa x:Int)-(1:Int))-0)) (Am (zJ<|kyX x) (Aa x-1)) (by simp(disch:=omega) only[Nat.sub_zero,Bf,htn,hkx]) ?_;refine veT<|zA<|vA<|vw 9 [] [(3,Ad)] (True/\((Aa l:Int)==(0:Int))=Ad/\i6 (↑(Aa l)-1)/\(0:Int)<=(Aa l:Int)-(1:Int)/\(Aa l:Int)-(1:Int)<(Aa l:Int)) (vs 60 (Af 10 (0+AC ((Aa l:Int)-(1:Int))*3)) (Af 10 (Aa m*3)) (by simp(disch:=omega) only[Cq,htk])<|vr 2 (True/\0<Aa (Ai (Aa m*3)<|Aj buC l))<|vs 62 (BF (Ai (Aa m*3)<|Aj buC l) Uk) (Am (zJ uk)<|Aa uk) (by simp(disch:=omega) only[List.headD_cons,hat])<|vrT 1<|vc hrq<|veT<|vt<|vd [0,1,3,4,5,6,8,2,7,9,10,11,12,13,14,15]<|vr 7 (True/\True) ?_) ⟨trivial,(by exact decide_eq_false (by omega)),(by omega),(by omega)⟩;refine vc hcln<|vr 2 (0<8/\ix ↑v (Aa (Bd.desc b):Int) (Al bD (Bd.desc b)≠[]))<|vp 76 v (Al bD<|Bd.desc b)<|vr 1 (0<Aa (Ai v<|Al bD<|Bd.desc b))<|vsh 77 hdes<|vc (wnew_c ud)<|ve (((1=1/\1<=3/\2=2/\3<=3/\True)/\Ab=Ab)/\((3=3/\3<=3/\True)/\0<3/\3=3/\3<=16777216/\1<=9223372036854775807)/\Ab=Ab/\Aa (Aj buC l)=Aa l*3/\Aa l*3=Aa l*3/\91=91/\3=3/\3=3/\0<3/\0<40/\91=91/\(Aa l+1)*40<=140737488355328/\3=3/\Bh Aq=Ad/\(Ad=Ad\/Bi Aq=Ab))<|vA<|vr 5 (i6 (↑(Aa l+1)-1)/\(0:Int)<=(↑(Aa l+1):Int)-(1:Int)/\(↑(Aa l+1):Int)-(1:Int)<(↑(Aa l+1):Int))<|vs 86 (Af 10 (0+AC ((↑(Aa l+1):Int)-(1:Int))*3)) (Af 10 (Aa l*3)) (by simp(disch:=omega) only[Cq,htl])<|veT<|zA<|vd [0,1,2,4,5,6,7,8,10,3,9,11,12,13,14,15,16,17] ?_;refine vr 8 (True/\i6 (↑(Aa x)-1)/\ix ((Aa x:Int)-(1:Int)) (Aa x:Int) (zJ x≠[])) (vs 96 (AE<|Ai (AC ((Aa x:Int)-(1:Int))*3)<|zJ x) (AE<|Ai ((Aa x-1)*3)<|zJ x) (by simp(disch:=omega) only[htn])<|vr 2 (2<=Aa (Ai (Aa l*3+1) (Aj buC l++[Am (zJ<|kyX x) (Aa x-1),bD ud,Aw<|Ah<|B_ AJ]))) (vs 91 (AF<|Au 2<|Ai (Aa l*3+1) (Aj buC l++[Am (zJ<|kyX x) (Aa x-1),bD ud,Aw<|Ah<|B_ AJ])) (AF [bD ud,Aw<|Ah<|B_ AJ]) (by simp(disch:=omega) only[List.take_succ_cons,List.take_nil,hdr1])<|vr 1 (3<=Aa (Ai ((Aa x-1)*3)<|zJ x))<|vs 97 (AF<|Au 3<|Ai ((Aa x-1)*3)<|zJ x) (AF<|vaC<|Ap x (Aa x-1) Ae) (by simp(disch:=omega) only[htv])<|vc hp1<|ve (0<2/\1<2/\Ad=Ad/\Ab=Ab/\2=2/\2<=2)<|zA<|vAe<|vf<|zQ ?_) (by exact hs2 _ _ _)) ⟨trivial,(by omega),⟨(by omega),⟨(by omega),(by exact zHl _ (by omega))⟩⟩⟩;refine vN<|zB rfl<|vr 5 (2<=2/\True/\Ad=Ad/\Ab=Ab/\2=2/\Aa l*3+1+2<=Aa (Aj buC l++[(q35_ x),bD ud,Aw<|Ah<|B_ AJ])/\¬10∈[]) (vnil<|zD<|vN<|zB rfl<|vr 2 (i6 (↑i+1))<|vnil<|zC ?_) ⟨(by omega),trivial,⟨(by kernel_rfl),⟨(by kernel_rfl),⟨(by kernel_rfl),⟨(by exact hs3 _ _ _),(by decide)⟩⟩⟩⟩⟩;rotate_left
   refine⟨i+1,by omega,by omega,?_⟩;rw[hsu,hln2,hup];refine wkn (fr 137 [(0,Af 4 0),(1,iD v),(5,(q20_ ch)),(6,Ao 10 0 (Aa l+1) ((Aa l+1)*3) Ab),(11,Af 10 (Aa l*3)),(12,Af 12 0),(13,iD 0),(34,Am (Al rowV rows) (Aa rows)),(35,iD (Aa rows)),(36,iD ↑(i+1)),(103,bD Ad),(105,Af 10 (Aa l*3)),(106,AF [bD ud,Aw (WT.d (WT.put ud (vaX x) w WT.nil))]),(107,Af 10 (Aa l*3)),(108,Af 10 (Aa l*3+1)),(109,iD ↑(i+1))]) [(q26_ b),q27_,(q28_ b),(q29_ b),(q30_ b),Ak (Al (zAi 10) (fA (Bd.n b) gv)) 170 1 Ab Ad A0,Ak (Al (zAi 10) (fA (Bd.n b) λ(c:Nat)=>if c=v then AM 8 else gt c)) 177 1 Ab Ad A0,(q33_ b gu),q31_,(q34_ ch),Ak (List.set (List.set (Aj buC l++[(q35_ x),bD ud,Aw (Ah (B_ AJ))]) (Aa l*3+1) (bD ud)) (Aa l*3+1+1) (Aw (WT.d (WT.put ud (vaX x) w WT.nil)))) 91 3 Ab Ad Aq,Ak [(q35_ x),bD ud,Aw (WT.d WT.nil)] 91 3 Ab Ad Aq,Ak [bD ud,Aw (WT.d (WT.put ud (vaX x) w WT.nil))] 57 0 Ad Ad Aq] ?_;rw[k5,k6];refine zA4 (N:=11) (4<11/\10<11/\True) rfl hnm2 (λk hk=>zDj k (by omega)) ?_ ⟨by omega,by omega,trivial⟩;refine vk 13 ?_;all_goals exact λk hk=>zDj k (by omega)
  obtain rfl:i=rows.length:=by omega
  rw[Bn];obtain⟨g1,g2⟩:=hgo rows.length;rw[Bn]at g1 g2;generalize hGg:grpL desc (λx=>wtL b.f VT TT x ch) rows=l at*;generalize hsi:sumW (λx=>wtL b.f VT TT x ch) rows=sw at*;focus
   refine vAu<|zA<|vF ((Aa rows:Int)<↑(Aa rows))<|vZ2<|zA<|zA ?_;refine zB rfl<|veT<|zH ?_;rotate_left
  refine zK (λ(j:Nat)=>fr 137 [(0,Af 4 0),(1,iD v),(6,Ao 10 0 (Aa l) (Aa l*3) Ab),(110,Ao 10 0 (Aa l) (Aa l*3) Ab),(111,iD<|Aa l),(112,iD j)]) (λ(j:Nat)=>[blI b,blX,blG b,blE b,blB b,blV<|fA b.n gv,blT (fA b.n λc=>if c=v then .mref 8 else gt c),blU<|fA b.f gu,mapT<|totL<|l.take j,chfB<|ch.flatMap chC,buB l]) (λ(j:Nat)=>l.length-j) (λ(j:Nat)=>j<=l.length) 0 ?_ ?_ ?_
  ·omega
  ·rw[show totL (l.take 0)=[]from rfl];refine vk 11 ?_;all_goals exact λk hk=>zDj k (by omega)
  intro j h4;rcases AR j l.length with h5|h5
  ·have hgt2:=zCp zCh l j h5;have hgle:=zEe zCh l j h5;have hmem:l.getD j Ae∈l:=by rw[AI,AL h5];exact AV h5
   have hg:=g2 _ hmem;have hsu:=zZj l j h5;generalize hKj:totL (l.take j)=K at*;generalize l.getD j Ae=u at*;have hq1:=hg.q.1;have hid:=zC2 u.key u.key.length rfl (by omega) hg.q.2;have htot:=wtotal_c u.desc u.t (hsum.le hg.s);have hmp:=mput_t K u.key u.t.tot;have hget:((fA b.n λc=>if c=v then .mref 8 else gt c).drop v).headD .unk= .mref 8:=by rw[zEf hvn];exact if_pos rfl
   have hps:=zCe (g:=λc=>if c=v then .mref 8 else gt c) hvn;have hnm2:∀e∈[blI b,blX,blG b,blE b,blB b,blV (fA b.n gv),blT (fA b.n λc=>if c=v then .mref 8 else gt c),blU (fA b.f gu),mapT (tput K u.key u.t.tot),chfB (ch.flatMap chC),buB l],namB 11 e:=zHb (by omega) (hgv1 11 (by omega)) (hgt1 11 (by omega)) λe he=>by
    simp only[Bq,Ch,or_false]at he;rcases he with rfl|rfl|rfl<;>exact .inl rfl
   focus
    refine vAu (zA (vT ((j:Int)<↑(Aa l)) (vKB (vA (vr 1 ((0:Int)<=(j:Int)/\(j:Int)<↑(Aa l)) ?_)))));refine vo0 114 10 (j*3) (vr 1 (3<=Aa (Ai (j*3) (AK (buB l)))) (vs 115 (AF (Au 3 (Ai (j*3) (AK (buB l))))) (AF (buC u)) (by simp(disch:=omega) only[hgt2]) (ve (Ad=Ad/\Ab=Ab/\3=3/\3<=3) (vd [0,1,2,4,7,10,3,5,6,8,9,11,12,13] (vr 8 (True/\True/\True/\0<2/\(0:Int)<=(v:Int)/\(v:Int)<↑(Bd.n b)) (vo 121 6 v (vr 1 (0<Aa (Ai v (AK (blT (fA (Bd.n b) λ(c:Nat)=>if c=v then AM 8 else gt c))))) (vsh 122 hget (vr 1 (0<3) (vc hid (vr 1 (2<=2) (vc htot (vr 1 (Bo (mapT K)=Ad/\zX (A6 (A7 A8 "string" 1 16 Ab 8 8 (Ax (AD (AQ #[]))) Ab #[])) (AD (bs (idR (Bu.key u))))=Ab/\Bz (Al (λ(p:List Va×Nat)=>kyv (Az p)) K) (zX (A6 (A7 A8 "string" 1 16 Ab 8 8 (Ax (AD (AQ #[]))) Ab #[])))=Ab/\¬8∈[]) ?_ ⟨(by kernel_rfl),⟨(by kernel_rfl),⟨(by exact zG8 _),(by decide)⟩⟩⟩)))))))))))));refine vb 8 (mput (mapT K) (Al (λ(p:List Va×Nat)=>kyv (Az p)) K) (AD (bs (idR (Bu.key u)))) (natD (WT.tot (Bu.t u)))) (mapT (tput K (Bu.key u) (WT.tot (Bu.t u)))) (by simp(disch:=omega) only[hmp]) (vnil (zD (vN (zB rfl (vr 2 (i6 (↑j+1)) (vnil (zC ?_)))))));rotate_left
   refine⟨j+1,by omega,by omega,?_⟩;rw[hsu];refine wkn (fr 137 [(0,Af 4 0),(1,iD v),(6,Ao 10 0 (Aa l) (Aa l*3) Ab),(15,Af 11 0),(110,Ao 10 0 (Aa l) (Aa l*3) Ab),(111,iD (Aa l)),(112,iD ↑(j+1)),(116,Af 4 0),(117,Af 4 0),(118,Af 4 8),(119,Ao 6 0 (Bd.n b) (Bd.n b) Ab),(120,iD v),(121,Af 6 v),(122,AM 8),(123,Af 11 0),(124,(q36_ u)),(125,Ah (AD (bs (idR (Bu.key u))))),(126,Af 11 1),(127,AF [bD (Bu.desc u),Aw (WT.d (Bu.t u))]),(128,natD (WT.tot (Bu.t u))),(129,iD ↑(j+1))]) [blI b,blX,blG b,blE b,blB b,blV (fA (Bd.n b) gv),blT (fA (Bd.n b) λ(c:Nat)=>if c=v then AM 8 else gt c),blU (fA (Bd.f b) gu),mapT (tput K (Bu.key u) (WT.tot (Bu.t u))),chfB (Aj chC ch),buB l,Ak [(q36_ u),bD (Bu.desc u),Aw (WT.d (Bu.t u))] 91 0 Ad Ad Aq] ?_;refine zA4 (N:=11) (4<11/\10<11/\10<11/\True) rfl hnm2 (λk hk=>zDj k (by omega)) ?_ ⟨by omega,by omega,by omega,trivial⟩;refine vk 12 ?_;all_goals exact λk hk=>zDj k (by omega)
  obtain rfl:j=l.length:=by omega
  rw[Bn];have hall:=zNq zCh l l.length rfl;have hsu:(fA b.f gu).set v (busD l)=fA b.f λc=>if c=v then busD l else gu c:=zEv
  have hful:(fA b.f gu).length=b.f:=zEw;focus
   refine vAu<|zA<|vF ((Aa l:Int)<↑(Aa l))<|vZ2<|vA ?_;refine vr 7 (True/\0<1/\(0:Int)<=(v:Int)/\(v:Int)<↑(Bd.f b))<|vo 136 7 v<|vr 1 (Bo (blU<|fA (Bd.f b) gu)=Ad/\Ab=Ab/\1=1/\v+1<=Aa (AK<|blU<|fA (Bd.f b) gu)/\¬7∈[10])<|vb 7 (Ak (setAt (AK<|blU<|fA (Bd.f b) gu) v<|cellsOf<|Am (Au (Aa l*3)<|Ai 0<|AK<|buB l)<|Aa l) (Ba<|blU<|fA (Bd.f b) gu) (Bb<|blU<|fA (Bd.f b) gu) Ab Ad<|AY<|blU<|fA (Bd.f b) gu) (Ak (fA (Bd.f b) λ(c:Nat)=>if c=v then busD l else gu c) (88:TypeId) 1 Ab Ad Aq) (by simp(disch:=omega) only[cellsOf,Bf,setAt,hsu,hall])<|veT<|vAe<|zE ?_;refine zM (True) [q2_] (.inr rfl) ?_;rotate_left
  exact⟨by kernel_rfl,by kernel_rfl⟩
 generalize grpL (b.desc.getD v Ad) (λx=>wtL b.f VT TT x (chV b v)) (b.R.getD v Ae).2=l;have e2:(fA b.n λc=>if c=v then .mref 8 else gt c).set v (zGt (totL l))=fA b.n λc=>if c=v then zGt (totL l)else gt c:=by
  rw[zEv];refine zB1 λc _=>?_;by_cases hc:c=v
  ·rw[if_pos hc,if_pos hc]
  rw[if_neg hc,if_neg hc,if_neg hc]
 have hw:=B9 (T:=Tre) (sl:=[iD 0]) (st:=[blI b,blX,blG b,blE b,blB b,blV (fA b.n gv),blT (fA b.n λc=>if c=v then .mref 8 else gt c),blU (fA b.f λc=>if c=v then busD l else gu c),mapT (totL l),chfB ((chV b v).flatMap chC),{buB l with fz:=Ab}]) (j:=6) (i:=v) (d:= .mref 8) (x:=zGt (totL l)) (ks:=[8]) rfl rfl rfl (by rw[zXh hvn];exact congrArg Ax (if_pos rfl)) rfl (by decide);refine hw.trans ?_;show Weak Tre _ ([blI b,blX,blG b,blE b,blB b,blV (fA b.n gv),blT ((fA b.n λc=>if c=v then .mref 8 else gt c).set v (zGt (totL l))),blU (fA b.f λc=>if c=v then busD l else gu c)]++[{mapT (totL l)with fz:=Ab},chfB ((chV b v).flatMap chC),{buB l with fz:=Ab}]) _ _;rw[e2];refine zHi (N:=8) rfl (zHb (AT _) (zEx.2 h.gw) (zEx.2 λc hc j hj=>?_) (by simp)) (by intro j hj;cases hj) zDj;split
 ·rfl
 exact h.tw c hc j hj
def rone(L:List Bg)(f:Nat)(VT:Nat->List Rw)(TT:Nat->List (Rw×Nat))(v:Nat):Nat:=if 0<=(L.getD v Ae).p then 1 else if v<f then(tlk (TT v) []).getD 0 else if VT v=[]then 0 else 1
def rtL(L:List Bg)(f:Nat)(VT:Nat->List Rw)(TT:Nat->List (Rw×Nat))(i:Nat):Nat:=((A1 i).map (rone L f VT TT)).foldl (· *·) 1
theorem zV7(L:List Bg)(f:Nat)(VT:Nat->List Rw)(TT:Nat->List (Rw×Nat))(i:Nat):rtL L f VT TT (i+1)=rtL L f VT TT i*rone L f VT TT i:=by
 unfold rtL;rw[Cc,BB,BE];rfl
theorem rtL_bad{L:List Bg}{f:Nat}{VT:Nat->List Rw}{TT:Nat->List (Rw×Nat)}{p n:Nat}(h:p<n)(hb:rone L f VT TT p=0):rtL L f VT TT n=0:=by
 induction n with
 |zero=>omega
 | succ n ih=>
  rw[zV7];rcases AR p n with h1|h1
  ·rw[ih h1,Cm]
  obtain rfl:p=n:=by omega
  rw[hb,Nat.mul_zero]
def rbad(L:List Bg)(f:Nat)(VT:Nat->List Rw)(v:Nat):Bool:=decide ((L.getD v Ae).p<0)&&decide (f<=v)&&decide (VT v=[])
def aempty(A:List (List Nat×List Rw)):Bool:=A.any λa=>decide (a.2=[])
def totB(b:Bd)(VT:Nat->List Rw)(TT:Nat->List (Rw×Nat)):Nat:=if aempty b.A then 0 else rtL b.L b.f VT TT b.L.length
def Tto:Par:=⟨λ_=>Ad,λ_ _=>AJ,λk=>decide (k<8),λo=>match o with
 | .call {callee:= .builtin .len,argTypes:=t,..}=>t==#[170]
 |_=>Ad,λ_=>Ad⟩
theorem Tto_ok:zBd Ay Tto:=by intro t n f h;cases h
theorem keepO{st:List Bk}(h:st.length=8):∀k,k<st.length->Tto.keep k=true:=λk hk=>by
 show decide (k<8)=Ab;rw[decide_eq_true_eq];omega
theorem zFt:∀k,8<=k->Tto.keep k=false:=λk hk=>by
 show decide (k<8)=Ad;rw[decide_eq_false_iff_not];omega
abbrev atK(a:List Nat×List Rw):Bk:=⟨atR a,87,0,Ad,Ad, .plain⟩
abbrev bgK1(c:Bg):Bk:=⟨bgC c,99,0,Ad,Ad, .plain⟩
abbrev q37_(x0:Bg):=Ak [iD ↑(Bg.v x0),dig (AP x0),iD (AS x0)] 99 0 Ad Ad Aq
theorem total_c(b:Bd)(gv gt:Nat->D)(VT:Nat->List Rw)(TT:Nat->List (Rw×Nat))(c7:List D)(hn:b.n<=1000)(hL:b.L.length=b.n)(hA:b.A.length<=1000)(hAl:∀a∈b.A,a.2.length<=65536)
  (hv:∀v,v<b.n->b.f<=v->(b.L.getD v Ae).p<0->gv v=zHk (VT v))(ht:∀v,v<b.n->v<b.f->(b.L.getD v Ae).p<0->gt v=zGt (TT v))
  (hS:∀i,i<=b.n->Sm (rtL b.L b.f VT TT i))(hS1:∀v,v<b.n->∀p∈TT v,Sm p.2)
  (hgw:∀c,c<b.n->∀j,8<=j->refs j (gv c)=Ad)(htw:∀c,c<b.n->∀j,8<=j->refs j (gt c)=Ad):
  Acts Ay 53 [.own 4 0] [blI b,blX,blG b,blE b,blB b,blV (fA b.n gv),blT (fA b.n gt),blU c7] [] (natD (totB b VT TT)) [blI b,blX,blG b,blE b,blB b,blV (fA b.n gv),blT (fA b.n gt),blU c7]:=by
 have hnm:∀e∈[blI b,blX,blG b,blE b,blB b,blV (fA b.n gv),blT (fA b.n gt),blU c7],namB 8 e:=zHb (AT _) (zEx.2 hgw) (zEx.2 htw) (by simp);have hac:∀a:List Nat×List Rw,(atR a).length=3:=λ_=>rfl;have hbc:∀c:Bg,(bgC c).length=3:=λ_=>rfl;obtain⟨m1,m2,res,bs,hres,hm1,hgood1,hm2,hgood2,hend⟩:∃(m1 m2:Nat)(res:D)(bs:List Bk),LeD res (natD (totB b VT TT))/\m1<=b.A.length/\(∀j,j<m1->0<(b.A.getD j Ae).2.length)/\m2<=b.L.length/\(∀j,j<m2->rbad b.L b.f VT j=Ad)/\
   ((m1<b.A.length/\(b.A.getD m1 Ae).2=[]/\res= .val (.slice AJ 0 0)/\bs=[atK (b.A.getD m1 Ae)])\/(m1=b.A.length/\m2=b.L.length/\res=natD (rtL b.L b.f VT TT b.L.length)/\bs=[])\/(m1=b.A.length/\m2<b.L.length/\rbad b.L b.f VT m2=Ab/\res= .val (.slice AJ 0 0)/\bs=[bgK1 (b.L.getD m2 Ae)])):=by
  by_cases h1:∃p,p<b.A.length/\decide ((b.A.getD p Ae).2=[])=Ab
  ·obtain⟨p,hp,hpb,hmin⟩:=zD1 (p:=λi=>decide ((b.A.getD i Ae).2=[])) h1;have hpb2:(b.A.getD p Ae).2=[]:=by simpa using hpb
   have e:totB b VT TT=0:=by
    unfold totB aempty;rw[if_pos];rw[Cr];refine⟨b.A.getD p Ae,?_,by simpa using hpb2⟩;rw[AI,AL hp];exact AV hp
   refine⟨p,0,_,_,by rw[e];exact zLr,by omega,λj hj=>?_,BG _,λj hj=>by omega, .inl ⟨hp,hpb2,rfl,rfl⟩⟩
   have:=hmin j hj
   simp only[decide_eq_false_iff_not]at this;exact CI.2 this
  have hall:∀j,j<b.A.length->0<(b.A.getD j Ae).2.length:=λj hj=>CI.2 λhh=>h1 ⟨j,hj,by simpa using hh⟩;have e:totB b VT TT=rtL b.L b.f VT TT b.L.length:=by
   unfold totB aempty;rw[if_neg];rw[Cr];rintro⟨a,ha,h2⟩;obtain⟨j,hj,rfl⟩:=CJ ha;refine h1 ⟨j,hj,?_⟩;rw[AI,AL hj];exact h2
  by_cases h2:∃p,p<b.L.length/\rbad b.L b.f VT p=Ab
  ·obtain⟨p,hp,hpb,hmin⟩:=zD1 h2;refine⟨b.A.length,p,_,_,?_,AT _,hall,by omega,hmin, .inr (.inr ⟨rfl,hp,hpb,rfl,rfl⟩)⟩;rw[e,rtL_bad (TT:=TT) hp]
   ·exact zLr
   unfold rbad at hpb;simp only[BS,decide_eq_true_eq]at hpb;unfold rone;rw[if_neg (by omega),if_neg (by omega),if_pos hpb.2]
  refine⟨b.A.length,b.L.length,_,_,by rw[e];exact BI _,AT _,hall,AT _,λj hj=>?_, .inr (.inl ⟨rfl,rfl,rfl,rfl⟩)⟩;cases e2:rbad b.L b.f VT j with
  |false=>rfl
  |true=>exact absurd ⟨j,hj,e2⟩ h2
 refine Acts.res (x:=res) ?_ hres;refine Acts.cutN (bs:=bs) ?_ (AT _) hnm (λj hj=>by rcases hend with⟨_,_,rfl,_⟩|⟨_,_,rfl,_⟩|⟨_,_,_,rfl,_⟩<;>rfl);obtain⟨one,e1⟩:∃o:Nat,o=1:=⟨1,rfl⟩;have hof:Pure Ay 36 [.val (.int .u64 1)] [] (natD one):=by subst e1;exact of_c 1 (by decide)
 have hw0:rtL b.L b.f VT TT 0=one:=e1.symm;refine zP Tto_ok mixed Tryz.func53 rfl (keepO rfl) ?_;focus
  refine vAu<|zA<|vA<|ve (True/\True/\0<6)<|zH ?_;rotate_left
 refine zK (λ(i:Nat)=>fr 66 [(0,Af 4 0),(12,(q19_ b)),(13,iD (Aa (Bd.A b):Int)),(14,iD i)]) (λ(i:Nat)=>[blI b,blX,blG b,blE b,blB b,blV<|fA b.n gv,blT<|fA b.n gt,blU c7]) (λ(i:Nat)=>m1-i) (λ(i:Nat)=>i<=m1) 0 ?_ ?_ ?_
 ·omega
 ·refine vk 8 ?_;all_goals exact zFt
 intro i h1;rcases AR i m1 with h3'|h3'
 ·have h3:i<b.A.length:=by omega
  have hg2:=zCp hac b.A i h3;have hle:=zEe hac b.A i h3;have hne:=zDc hac (by decide) b.A (by omega);have hgd:=hgood1 i h3';generalize b.A.getD i Ae=a at*;have hlen:=zHp (a.1.length:Nat) (a.2.map rowV) a.2.length;focus
   refine vAu<|zA<|vT ((i:Int)<(Aa (Bd.A b):Int))<|vKB<|vA<|vr 2 (ix ↑i (Aa (Bd.A b):Int) (Aj atR (Bd.A b)≠[])/\3<=Aa (Ai (i*3)<|Aj atR<|Bd.A b)) ?_;refine vs 17 (AF<|Au 3<|Ai (i*3)<|Aj atR<|Bd.A b) (AF<|atR a) (by simp(disch:=omega) only[hg2])<|ve (Ad=Ad/\Ab=Ab/\3=3/\3<=3)<|vA<|vr 2 (True/\2<=2)<|vc hlen<|veT<|vEf ((Aa (AG a):Int)) ((0:Int))<|zQ<|zD<|vN<|zB rfl<|vr 2 (i6 (↑i+1)) ?_;refine vnil<|zC ?_;rotate_left
  refine⟨i+1,by omega,by omega,?_⟩;refine wkn (fr 66 [(0,Af 4 0),(12,(q19_ b)),(13,iD (Aa (Bd.A b):Int)),(14,iD ↑(i+1)),(21,bD ((Aa (AG a):Int)==(0:Int))),(22,iD ↑(i+1))]) [blI b,blX,blG b,blE b,blB b,blV (fA (Bd.n b) gv),blT (fA (Bd.n b) gt),blU c7,Ak [Am (nsD (Az a)) (Aa (Az a)),iD (Aa (Az a):Int),Am (Al rowV (AG a)) (Aa (AG a))] 87 0 Ad Ad Aq] ?_;refine zA4 (N:=8) (4<8/\True) rfl hnm (λk hk=>zFt k (by omega)) ?_ ⟨by omega,trivial⟩;refine vk 9 ?_;all_goals exact λk hk=>zFt k (by omega)
 obtain rfl:i=m1:=by omega
 rcases hend with⟨h3,he,rfl,rfl⟩|hend
 ·have hg2:=zCp hac b.A i h3;have hle:=zEe hac b.A i h3;have hne:=zDc hac (by decide) b.A (by omega);generalize b.A.getD i Ae=a at*;have hl0:a.2.length=0:=by rw[he];rfl
  have hlen:=zHp (a.1.length:Nat) (a.2.map rowV) a.2.length;focus
   refine vAu<|zA<|vT ((i:Int)<(Aa (Bd.A b):Int))<|vKB<|vA<|vr 2 (ix ↑i (Aa (Bd.A b):Int) (Aj atR (Bd.A b)≠[])/\3<=Aa (Ai (i*3)<|Aj atR<|Bd.A b)) ?_;refine vs 17 (AF<|Au 3<|Ai (i*3)<|Aj atR<|Bd.A b) (AF<|atR a) (by simp(disch:=omega) only[hg2])<|ve (Ad=Ad/\Ab=Ab/\3=3/\3<=3)<|vA<|vr 2 (True/\2<=2)<|vc hlen<|veT<|vEt ((Aa (AG a):Int)) ((0:Int))<|vAe<|zE<|zL<|zG ?_;refine zG<|zL<|zG ?_;refine zM (True) [nl] (.inr rfl) ?_;rotate_left
  exact⟨by kernel_rfl,by kernel_rfl⟩
 have hi:i=b.A.length:=by rcases hend with⟨h,_⟩|⟨h,_⟩<;>exact h
 subst hi;focus
  refine vAu<|zA<|vF ((Aa (Bd.A b):Int)<(Aa (Bd.A b):Int))<|vZ2<|vA ?_;refine vc hof<|veT<|zA<|vA<|ve (True/\0<5)<|zH ?_;rotate_left
 refine zK (λ(j:Nat)=>fr 66 [(0,Af 4 0),(5,natD<|rtL (Bd.L b) (Bd.f b) VT TT j),(27,(q16_ b)),(28,iD (Aa (Bd.L b):Int)),(29,iD j)]) (λ(j:Nat)=>[blI b,blX,blG b,blE b,blB b,blV<|fA b.n gv,blT<|fA b.n gt,blU c7]) (λ(j:Nat)=>m2-j) (λ(j:Nat)=>j<=m2) 0 ?_ ?_ ?_
 ·omega
 ·rw[hw0];refine vk 8 ?_;all_goals exact zFt
 have hidn:Pure Ay 59 [.val (.slice AJ 0 0)] [] (strD (idR [])):=(zC2 [] 0 rfl (by omega) (by intro v hv;cases hv)).le (.cons LeD.nil_row .nil);intro j h2;rcases AR j m2 with h4'|h4'
 ·have h4:j<b.L.length:=by omega
  have hjn:j<b.n:=by omega
  have hg2:=zCp hbc b.L j h4;have hle:=zEe hbc b.L j h4;have hne:=zDc hbc (by decide) b.L (by omega);have hgd:=hgood2 j h4';have hsu:=zV7 b.L b.f VT TT j;have hvj:=hv j hjn;have htj:=ht j hjn;have hsj:=hS j (by omega);unfold rbad at hgd;unfold rone at hsu;generalize b.L.getD j Ae=c at*;by_cases hp:0<=c.p
  ·rw[if_pos hp,A3]at hsu;focus
    refine vAu<|zA<|vT ((j:Int)<(Aa (Bd.L b):Int))<|vKB<|vA<|vr 3 (ix ↑j (Aa (Bd.L b):Int) (Aj bgC (Bd.L b)≠[])/\3<=Aa (Ai (j*3)<|Aj bgC<|Bd.L b)) ?_;refine vs 33 (AF<|Au 3<|Ai (j*3)<|Aj bgC<|Bd.L b) (AF<|bgC c) (by simp(disch:=omega) only[hg2])<|ve (Ad=Ad/\Ab=Ab/\3=3/\3<=3)<|zA<|vA<|ve (True/\0<1)<|vT (AS c>=(0:Int))<|vZ<|zB rfl<|vr 2 (i6 (↑j+1)) ?_;refine vnil<|zC ?_;rotate_left
   refine⟨j+1,by omega,by omega,?_⟩;rw[hsu];refine wkn (fr 66 [(0,Af 4 0),(5,natD (rtL (Bd.L b) (Bd.f b) VT TT j)),(6,iD j),(27,(q16_ b)),(28,iD (Aa (Bd.L b):Int)),(29,iD ↑(j+1)),(36,bD (decide (AS c>=(0:Int)))),(64,iD ↑(j+1))]) [blI b,blX,blG b,blE b,blB b,blV (fA (Bd.n b) gv),blT (fA (Bd.n b) gt),blU c7,(q37_ c)] ?_;refine zA4 (N:=8) (4<8/\True) rfl hnm (λk hk=>zFt k (by omega)) ?_ ⟨by omega,trivial⟩;refine vk 9 ?_;all_goals exact λk hk=>zFt k (by omega)
  rw [if_neg hp]at hsu;by_cases hf:j<b.f
  ·rw[if_pos hf]at hsu;have hgt:((fA b.n gt).drop j).headD .unk=zGt (TT j):=by rw[zEf hjn];exact htj hf (by omega)
   have hps:=zCe (g:=gt) hjn;have hlk:=look_t (.val (.slice AJ 0 0)) (TT j) [];cases e:tlk (TT j) []with
   | none=>
    rw[e]at hlk hsu;dsimp only[Option.getD_none]at hlk hsu;have hmu:Pure Ay 86 [natD (rtL b.L b.f VT TT j), .val (.slice AJ 0 0)] [] (natD (rtL b.L b.f VT TT j*0)):=(zWl _ 0 hsj Sm.zero).le (.cons (.refl _) (.cons zLr .nil));focus
     refine vAu (zA (vT ((j:Int)<(Aa (Bd.L b):Int)) (vKB (vA (vr 3 (ix ↑j (Aa (Bd.L b):Int) (Aj bgC (Bd.L b)≠[])/\3<=Aa (Ai (j*3) (Aj bgC (Bd.L b)))) ?_)))));refine vs 33 (AF (Au 3 (Ai (j*3) (Aj bgC (Bd.L b))))) (AF (bgC c)) (by simp(disch:=omega) only[hg2]) (ve (Ad=Ad/\Ab=Ab/\3=3/\3<=3) (zA (vA (ve (True/\0<1) (vF (AS c>=(0:Int)) (vK (vA (ve (True/\True/\0<9) (vT ((j:Int)<↑(Bd.f b)) ?_)))))))));refine vd [0,1,2,3,5,4,6,7,8,9,10,11] (vr 7 (True/\0<2/\(0:Int)<=(j:Int)/\(j:Int)<↑(Bd.n b)) (vo 50 6 j (vr 1 (0<Aa (Ai j (AK (blT (fA (Bd.n b) gt))))) (vsh 51 hgt (vc hidn (vr 1 (Ab=Ab/\Bz (Al (λ(p:List Va×Nat)=>kyv (Az p)) (TT j)) (zX (A6 (A7 A8 "string" 1 16 Ab 8 8 (Ax (AD (AQ #[]))) Ab #[])))=Ab) (vsh 53 hlk (vc hmu (vrT 1 (vnil (zD (vN ?_)))))) ⟨(by kernel_rfl),(by exact zG8 _)⟩))))));refine zB rfl (vr 2 (i6 (↑j+1)) (vnil (zC ?_)));rotate_left
    refine⟨j+1,by omega,by omega,?_⟩;rw[hsu];refine wkn (fr 66 [(0,Af 4 0),(5,Am [] (Aa (dg (rtL (Bd.L b) (Bd.f b) VT TT j*0)))),(6,iD j),(27,(q16_ b)),(28,iD (Aa (Bd.L b):Int)),(29,iD ↑(j+1)),(43,bD (decide ((j:Int)<↑(Bd.f b)))),(44,natD (rtL (Bd.L b) (Bd.f b) VT TT j)),(45,Af 4 0),(46,Af 4 0),(47,Af 4 8),(48,Ao 6 0 (Bd.n b) (Bd.n b) Ab),(49,iD j),(50,Af 6 j),(51,zGt (TT j)),(52,Ah (AD (YtjcofbkhoeockaaGreatDoor.bs (idR [])))),(53,nl),(54,Am [] (Aa (dg (rtL (Bd.L b) (Bd.f b) VT TT j*0)))),(64,iD ↑(j+1))]) [blI b,blX,blG b,blE b,blB b,blV (fA (Bd.n b) gv),blT (fA (Bd.n b) gt),blU c7,(q37_ c)] ?_;refine zA4 (N:=8) (4<8/\True) rfl hnm (λk hk=>zFt k (by omega)) ?_ ⟨by omega,trivial⟩;refine vk 9 ?_;all_goals exact λk hk=>zFt k (by omega)
   | some w=>
    rw[e]at hlk hsu;dsimp only[BQ]at hlk hsu;have hw:Sm w:=by
     unfold tlk at e;obtain⟨q,q1,q2⟩:=CR.1 e
     have:=hS1 j hjn q (CS q1)
     rwa[q2]at this
    have hmu:=zWl (rtL b.L b.f VT TT j) w hsj hw;focus
     refine vAu (zA (vT ((j:Int)<(Aa (Bd.L b):Int)) (vKB (vA (vr 3 (ix ↑j (Aa (Bd.L b):Int) (Aj bgC (Bd.L b)≠[])/\3<=Aa (Ai (j*3) (Aj bgC (Bd.L b)))) ?_)))));refine vs 33 (AF (Au 3 (Ai (j*3) (Aj bgC (Bd.L b))))) (AF (bgC c)) (by simp(disch:=omega) only[hg2]) (ve (Ad=Ad/\Ab=Ab/\3=3/\3<=3) (zA (vA (ve (True/\0<1) (vF (AS c>=(0:Int)) (vK (vA (ve (True/\True/\0<9) (vT ((j:Int)<↑(Bd.f b)) ?_)))))))));refine vd [0,1,2,3,5,4,6,7,8,9,10,11] (vr 7 (True/\0<2/\(0:Int)<=(j:Int)/\(j:Int)<↑(Bd.n b)) (vo 50 6 j (vr 1 (0<Aa (Ai j (AK (blT (fA (Bd.n b) gt))))) (vsh 51 hgt (vc hidn (vr 1 (Ab=Ab/\Bz (Al (λ(p:List Va×Nat)=>kyv (Az p)) (TT j)) (zX (A6 (A7 A8 "string" 1 16 Ab 8 8 (Ax (AD (AQ #[]))) Ab #[])))=Ab) (vsh 53 hlk (vc hmu (vrT 1 (vnil (zD (vN ?_)))))) ⟨(by kernel_rfl),(by exact zG8 _)⟩))))));refine zB rfl (vr 2 (i6 (↑j+1)) (vnil (zC ?_)));rotate_left
    refine⟨j+1,by omega,by omega,?_⟩;rw[hsu];refine wkn (fr 66 [(0,Af 4 0),(5,natD (rtL (Bd.L b) (Bd.f b) VT TT j*w)),(6,iD j),(27,(q16_ b)),(28,iD (Aa (Bd.L b):Int)),(29,iD ↑(j+1)),(43,bD (decide ((j:Int)<↑(Bd.f b)))),(44,natD (rtL (Bd.L b) (Bd.f b) VT TT j)),(45,Af 4 0),(46,Af 4 0),(47,Af 4 8),(48,Ao 6 0 (Bd.n b) (Bd.n b) Ab),(49,iD j),(50,Af 6 j),(51,zGt (TT j)),(52,Ah (AD (YtjcofbkhoeockaaGreatDoor.bs (idR [])))),(53,natD w),(54,natD (rtL (Bd.L b) (Bd.f b) VT TT j*w)),(64,iD ↑(j+1))]) [blI b,blX,blG b,blE b,blB b,blV (fA (Bd.n b) gv),blT (fA (Bd.n b) gt),blU c7,(q37_ c)] ?_;refine zA4 (N:=8) (4<8/\True) rfl hnm (λk hk=>zFt k (by omega)) ?_ ⟨by omega,trivial⟩;refine vk 9 ?_;all_goals exact λk hk=>zFt k (by omega)
  have hVn:VT j≠[]:=λhh=>by
   rw[decide_eq_true (show c.p<0 by omega),decide_eq_true (show b.f<=j by omega),decide_eq_true hh]at hgd;cases hgd
  rw[if_neg hf,if_neg hVn,A3]at hsu;have hgt:((fA b.n gv).drop j).headD .unk=zHk (VT j):=by rw[zEf hjn];exact hvj (by omega) (by omega)
  have hps:=zCe (g:=gv) hjn;have hvl:0<((VT j).map kyv).length:=by rw[AZ];exact CI.2 hVn
  focus
   refine vAu<|zA<|vT ((j:Int)<(Aa (Bd.L b):Int))<|vKB<|vA<|vr 3 (ix ↑j (Aa (Bd.L b):Int) (Aj bgC (Bd.L b)≠[])/\3<=Aa (Ai (j*3)<|Aj bgC<|Bd.L b)) ?_;refine vs 33 (AF<|Au 3<|Ai (j*3)<|Aj bgC<|Bd.L b) (AF<|bgC c) (by simp(disch:=omega) only[hg2])<|ve (Ad=Ad/\Ab=Ab/\3=3/\3<=3)<|zA<|vA<|ve (True/\0<1)<|vF (AS c>=(0:Int))<|vK<|vA<|ve (True/\True/\0<9)<|vF ((j:Int)<↑(Bd.f b)) ?_;refine vA<|vr 6 (True/\0<3/\(0:Int)<=(j:Int)/\(j:Int)<↑(Bd.n b))<|vo 60 5 j<|vr 1 (0<Aa (Ai j<|AK<|blV<|fA (Bd.n b) gv))<|vsh 61 hgt<|veT<|vEf ((Aa (Al kyv<|VT j):Int)) ((0:Int))<|zQ<|zD<|vN<|zB rfl<|vr 2 (i6 (↑j+1)) ?_;refine vnil<|zC ?_;rotate_left
  refine⟨j+1,by omega,by omega,?_⟩;rw[hsu];refine wkn (fr 66 [(0,Af 4 0),(5,natD (rtL (Bd.L b) (Bd.f b) VT TT j)),(27,(q16_ b)),(28,iD (Aa (Bd.L b):Int)),(29,iD ↑(j+1)),(63,bD ((Aa (Al kyv (VT j)):Int)==(0:Int))),(64,iD ↑(j+1))]) [blI b,blX,blG b,blE b,blB b,blV (fA (Bd.n b) gv),blT (fA (Bd.n b) gt),blU c7,(q37_ c)] ?_;refine zA4 (N:=8) (4<8/\True) rfl hnm (λk hk=>zFt k (by omega)) ?_ ⟨by omega,trivial⟩;refine vk 9 ?_;all_goals exact λk hk=>zFt k (by omega)
 obtain rfl:j=m2:=by omega
 rcases hend with⟨_,h4,rfl,rfl⟩|⟨_,h4,hgd,rfl,rfl⟩
 ·rw[<-h4];focus
   refine vAu<|zA<|vF ((j:Int)<↑j)<|vZ2<|vA ?_;refine veT<|zE ?_;refine zM (True) [natD<|rtL (Bd.L b) (Bd.f b) VT TT j] (.inr rfl) ?_;rotate_left
  exact⟨by kernel_rfl,by kernel_rfl⟩
 have hjn:j<b.n:=by omega
 have hg2:=zCp hbc b.L j h4;have hle:=zEe hbc b.L j h4;have hne:=zDc hbc (by decide) b.L (by omega);have hvj:=hv j hjn;unfold rbad at hgd;simp only[BS,decide_eq_true_eq]at hgd;generalize b.L.getD j Ae=c at*;have hgt:((fA b.n gv).drop j).headD .unk=zHk (VT j):=by rw[zEf hjn];exact hvj (by omega) (by omega)
 have hps:=zCe (g:=gv) hjn;have hvl:((VT j).map kyv).length=0:=by rw[hgd.2];rfl
 have hc1:¬0<=c.p:=by omega
 have hc2:¬j<b.f:=by omega
 focus
  refine vAu<|zA<|vT ((j:Int)<(Aa (Bd.L b):Int))<|vKB<|vA<|vr 3 (ix ↑j (Aa (Bd.L b):Int) (Aj bgC (Bd.L b)≠[])/\3<=Aa (Ai (j*3)<|Aj bgC<|Bd.L b)) ?_;refine vs 33 (AF<|Au 3<|Ai (j*3)<|Aj bgC<|Bd.L b) (AF<|bgC c) (by simp(disch:=omega) only[hg2])<|ve (Ad=Ad/\Ab=Ab/\3=3/\3<=3)<|zA<|vA<|ve (True/\0<1)<|vF (AS c>=(0:Int))<|vK<|vA<|ve (True/\True/\0<9)<|vF ((j:Int)<↑(Bd.f b)) ?_;refine vA<|vr 6 (True/\0<3/\(0:Int)<=(j:Int)/\(j:Int)<↑(Bd.n b))<|vo 60 5 j<|vr 1 (0<Aa (Ai j<|AK<|blV<|fA (Bd.n b) gv))<|vsh 61 hgt<|veT<|vEt ((Aa (Al kyv<|VT j):Int)) ((0:Int))<|vAe<|zE<|zL<|zG ?_;refine zG<|zL<|zG ?_;refine zM (True) [nl] (.inr rfl) ?_;rotate_left
 exact⟨by kernel_rfl,by kernel_rfl⟩
def ptI(l:List Bu):Nat->List (List Va×Nat)
 |0=>[]
 |j+1=>tput (ptI l j) (l.getD j Ae).key j
abbrev pcellK(K:List (List Va×Nat)):D:= .mfz (K.map λp=>kyv p.1) (K.map λp=>iD ((p.2:Nat):Int))
abbrev zDa(l:List Bu):D:=pcellK (ptI l l.length)
abbrev mapI(K:List (List Va×Nat)):Bk:=⟨K.map λp=>iD ((p.2:Nat):Int),128,0,Ab,Ad, .map (K.map λp=>kyv p.1)⟩
theorem mput_i(K:List (List Va×Nat))(r:List Va)(w:Nat):mput (mapI K) (K.map λp=>kyv p.1) (kyv r) (iD ((w:Nat):Int))=mapI (tput K r w):=by
 unfold mput tput;rw[zWt];cases e:K.findIdx? λs=>decide (r=s.1)with
 |none=>simp
 | some i=>
  rw[Cl]at e;obtain⟨h,h1,_⟩:=e;have hr:r=K[i].1:=by simpa using h1
  have e1:(K.map λp=>iD ((p.2:Nat):Int)).set i (iD ((w:Nat):Int))=(K.set i (r,w)).map λp=>iD ((p.2:Nat):Int):=by rw[Cn]
  have e2:(K.set i (r,w)).map (λp=>kyv p.1)=K.map λp=>kyv p.1:=by
   rw[Cn];apply Co;intro j;rw[BU];split
   ·rename_i hj;subst hj;rw[if_pos (by simpa using h),A9,AL h,BA,<-hr]
   rfl
  simp only[mapI,e1,e2]
def Tas:Par:=⟨λ_=>Ad,λ_ _=>AJ,λ_=>Ad,λ_=>Ad,λt=>t==128⟩
theorem Tas_ok:zBd Ay Tas:=by intro t n f h;cases h
theorem keepA:∀k,4<=k->Tas.keep k=false:=λ_ _=>rfl
abbrev ixD(desc:List Bool)(L:List Bg)(U:Nat->List Bu)(tot:Nat):D:= .agg [.row (desc.map bD) desc.length, .row (L.flatMap bgC) L.length, .row (fA desc.length λc=>busD (U c)) desc.length, .row (fA desc.length λc=>zDa (U c)) desc.length,natD tot]
abbrev ixK(c:List D):Bk:=⟨c,46,0,Ad,Ad, .plain⟩
abbrev blU0(c:List D)(fz:Bool):Bk:=⟨c,88,1,Ab,fz, .plain⟩
abbrev blP(c:List D):Bk:=⟨c,128,1,Ab,Ad, .sh⟩
theorem asm_nam{m:Nat}{a b c5 c6:List D}(hm:4<=m)(h6:blw m c6)(hb:blw m b)(ha:blw m a){rest:List Bk}(hr:∀e∈rest,namB m e):∀e∈ixK a::ixK b::blU0 c5 Ad::blP c6::rest,namB m e:=λe he=>by
 simp only[Bq]at he;rcases he with rfl|rfl|rfl|rfl|he
 ·exact .inr ha
 ·exact .inr hb
 ·exact .inl rfl
 ·exact .inr h6
 exact hr e he
def uI(U:Nat->List Bu)(i c:Nat):D:=if c<i then busD (U c)else .val (.slice AJ 0 0)
def qI(U:Nat->List Bu)(i c:Nat):D:=if c<i then zDa (U c)else .val (.map AJ)
theorem zS7(d:D)(n:Nat):repL n [d]=fA n λ_=>d:=by
 rw[<-fA_rep];show(BM n [d]).flatten=_;induction n with
 |zero=>rfl
 |succ n ih=>rw[List.replicate_succ,List.flatten_cons,ih];rfl
abbrev q38_(x0:List Bg):=Am (Aj bgC x0) (Aa x0)
theorem zN0(desc:List Bool)(L:List Bg)(U:Nat->List Bu)(tot:Nat)(hd:desc.length<=1000)(hL:L.length<=1000)(hU:∀c,c<desc.length->(U c).length<=1000000/\∀b∈U c,b.Ok):
  Pure Ay 54 [.row (desc.map bD) desc.length, .row (L.flatMap bgC) L.length, .row (fA desc.length λc=>busD (U c)) desc.length,natD tot] [] (ixD desc L U tot):=by
 generalize hn:desc.length=f at*;have hcb:=zT5 (desc.map bD) f (by simp[hn]) (by omega);have hcg:=zYs (L.flatMap bgC) L.length (zDk (g:=bgC) (λ_=>rfl) L) (by omega);refine zF Tas_ok mixed Tryz.func54 rfl ?_;have hz1:repL f [.val (.slice AJ 0 0)]=fA f (uI U 0):=by
  rw[zS7];exact zB1 λi _=>(if_neg (by omega)).symm
 have hz2:repL f [.val (.map AJ)]=fA f (qI U 0):=by
  rw[zS7];exact zB1 λi _=>(if_neg (by omega)).symm
 focus
  refine vAu<|vA<|vrT 1<|vc hcb<|vrT 1<|vc hcg<|ve (((1=1/\1<=5/\1=1/\2<=5/\1=1/\5<=5/\True)/\Ab=Ab)/\Ad=Ad/\Ab=Ab/\5=5/\5<=5)<|zA ?_;refine zA7 [0,1,3,4,2,6,5] [(7,[(5,3)],[8,9])] rfl ?_;refine vr 5 ((0:Int)<=(f:Int)/\(f:Int)<=↑f/\(↑(24:Nat):Int)*(f:Int)<=(281474976710656:Int)/\(f:Int)<=(281474976710656:Int)/\0<1/\1=1)<|vb 2 (Ak (repL (AC (f:Int)) [nl]) 88 1 Ab Ad<|kdOf Ad) (Ak (fA f<|uI U 0) 88 1 Ab Ad<|kdOf Ad) (by simp(disch:=omega) only[AW,hz1])<|vr 2 (True/\(0:Int)<=(f:Int)/\(f:Int)<=↑f/\(↑(8:Nat):Int)*(f:Int)<=(281474976710656:Int)/\(f:Int)<=(281474976710656:Int)/\0<1/\1=1)<|vb 3 (Ak (repL (AC (f:Int)) [Ah<|Value.map AJ]) 128 1 Ab Ad<|kdOf Ab) (Ak (fA f<|qI U 0) 128 1 Ab Ad<|kdOf Ab) (by simp(disch:=omega) only[AW,hz2])<|vnil<|zB3 rfl rfl (by kernel_rfl)<|vr 1 (Ad=Ad/\Ab=Ab/\1=1/\3<=5)<|vb 1 (Ak [Am (Al bD desc) f,Am (Aj bgC L)<|Aa L,Ao 2 0 (AC (f:Int)) (AC (f:Int)*1) Ab,nl,natD tot] 46 0 Ad Ad Aq) (Ak [Am (Al bD desc) f,Am (Aj bgC L)<|Aa L,Ao 2 0 f f Ab,nl,natD tot] 46 0 Ad Ad Aq) (by simp(disch:=omega) only[AW,A3]) ?_;refine vnil ?_;refine zE3 (C:=((0:Int)<=(f:Int)/\(f:Int)<=↑f/\(↑(8:Nat):Int)*(f:Int)<=(281474976710656:Int)/\(f:Int)<=(281474976710656:Int)/\0<1/\1=1)/\Ax (Ao 3 0 (AC (f:Int)) (AC (f:Int)*1) Ab)=Ax (Ao 3 0 (AC (f:Int)) (AC (f:Int)*1) Ab)/\eqDL (fA f (qI U 0)) (repL (AC (f:Int)) [Ah (Value.map AJ)])/\128=128/\1=1/\Ab=Ab/\(kdOf Ab)=kdOf Ab) ⟨(by omega),(by kernel_rfl),(by exact hz2.symm),(by kernel_rfl),(by kernel_rfl),(by kernel_rfl),(by kernel_rfl)⟩ ?_;refine vr 2 (True/\Ad=Ad/\Ab=Ab/\1=1/\4<=5)<|vb 1 (Ak [Am (Al bD desc) f,Am (Aj bgC L)<|Aa L,Ao 2 0 f f Ab,Ao 3 0 (AC (f:Int)) (AC (f:Int)*1) Ab,natD tot] 46 0 Ad Ad Aq) (Ak [Am (Al bD desc) f,Am (Aj bgC L)<|Aa L,Ao 2 0 f f Ab,Ao 3 0 f f Ab,natD tot] 46 0 Ad Ad Aq) (by simp(disch:=omega) only[AW,A3])<|vnil<|zBv<|vN<|zA<|vAe<|zH ?_;rotate_left
 refine zK (λ(i:Nat)=>fr 69 [(2,Am (fA f λ(c:Nat)=>busD (U c)) f),(8,Af 0 0),(9,Af 1 0),(28,iD f),(29,iD i)]) (λ(i:Nat)=>[ixK [nl0,nl0,nl0,nl0,nl0],ixK [.row (desc.map bD) f,.row (L.flatMap bgC) L.length,.osl 2 0 f f Ab,.osl 3 0 f f Ab,natD tot],blU0 (fA f<|uI U i) Ad,blP<|fA f<|qI U i]) (λ(i:Nat)=>f-i) (λ(i:Nat)=>i<=f) 0 ?_ ?_ ?_
 ·omega
 ·refine vk 4
 intro i h1;rcases AR i f with h3|h3
 ·have hhd:=zEf (g:=λc=>busD (U c)) h3;obtain⟨u1,u2⟩:=hU i h3;have hcp:=copies_c (U i) (U i).length rfl u1 (λb hb=>(u2 b hb).1);have hs1:(fA f (uI U i)).set i (busD (U i))=fA f (uI U (i+1)):=by
   rw[zEv];refine zB1 λc _=>?_;unfold uI;by_cases e:c=i
   ·subst e;rw[if_pos rfl,if_pos (by omega)]
   rw[if_neg e];by_cases e2:c<i
   ·rw[if_pos e2,if_pos (by omega)]
   rw[if_neg e2,if_neg (by omega)]
  have hs2:(fA f (qI U i)).set i (.mref 4)=fA f λc=>if c=i then .mref 4 else qI U i c:=zEv
  have hl1:(fA f (uI U i)).length=f:=zEw;have hl2:(fA f (qI U i)).length=f:=zEw;focus
   refine vAu<|zA<|vT ((i:Int)<↑f)<|vKB<|vAe ?_;refine zA ?_;refine zA7 [0,2,3,5,6,7,8,1,4,9,10,12,11] [(13,[(4,100000),(11,4)],[14,15])] rfl ?_;refine vr 7 (True/\True/\ix ↑i ↑f ((fA f λ(c:Nat)=>busD (U c))≠[])) (vp 40 i (fA f λ(c:Nat)=>busD (U c))<|vr 3 (0<3/\0<2/\0<Aa (Ai i (fA f λ(c:Nat)=>busD (U c)))) (vsh 41 hhd<|vc hcp<|vr 1 ((0:Int)<=(i:Int)/\(i:Int)<↑f)<|vo 44 2 i<|vrT 1<|vnil<|zB3 rfl rfl (by kernel_rfl)<|vr 1 (Bo (blU0 (fA f<|uI U i) Ad)=Ad/\Ab=Ab/\1=1/\i+1<=Aa (AK<|blU0 (fA f<|uI U i) Ad)/\¬2∈[])<|vb 2 (Ak (setAt (AK<|blU0 (fA f<|uI U i) Ad) i<|cellsOf<|Am (Aj buC<|U i)<|Aa<|U i) (Ba<|blU0 (fA f<|uI U i) Ad) (Bb<|blU0 (fA f<|uI U i) Ad) Ab Ad<|AY<|blU0 (fA f<|uI U i) Ad) (Ak (fA f<|uI U (i+1)) (88:TypeId) 1 Ab Ad Aq) (by simp(disch:=omega) only[cellsOf,setAt,hs1])<|vnil ?_) ⟨(by omega),(by omega),(by exact zCe h3)⟩) ⟨trivial,trivial,⟨(by omega),⟨(by omega),(by exact fA_ne h3)⟩⟩⟩;refine zE3 (C:=0<2/\Ax (Ao 3 0 f f Ab)=Ax (BF [Ao 3 0 f f Ab,natD tot] Uk)/\True/\Ax (AM 4)=Ax (AM 4)/\eqDL [] []/\128=128/\0=0/\Ab=Ab/\(BC [])=BC []) ⟨(by omega),(by kernel_rfl),trivial,(by kernel_rfl),rfl,(by kernel_rfl),(by kernel_rfl),(by kernel_rfl),(by kernel_rfl)⟩ ?_;refine vr 1 ((0:Int)<=(i:Int)/\(i:Int)<↑f)<|vo 45 3 i<|vr 1 (Bo (blP<|fA f<|qI U i)=Ad/\zD5 (AM 4)=Ab/\1=1/\i+1<=Aa (AK<|blP<|fA f<|qI U i))<|vb 3 (Ak (setAt (AK<|blP<|fA f<|qI U i) i<|cellsOf<|AM 4) (Ba<|blP<|fA f<|qI U i) (Bb<|blP<|fA f<|qI U i) Ab Ad<|AY<|blP<|fA f<|qI U i) (Ak (fA f λ(c:Nat)=>if c=i then AM 4 else qI U i c) (128:TypeId) 1 Ab Ad A0) (by simp(disch:=omega) only[cellsOf,setAt,hs2])<|vnil<|zBv<|zC<|vnn (fr 69 [(2,Am (fA f λ(c:Nat)=>busD (U c)) f),(8,Af 0 0),(9,Af 1 0),(10,iD i),(28,iD f),(29,iD i),(32,Af 1 2),(33,Ao 2 0 f f Ab),(34,iD i),(35,Af 1 3),(36,Ao 3 0 f f Ab),(37,iD i),(38,Am (fA f λ(c:Nat)=>busD (U c)) f),(39,iD i),(40,AE<|Ai i (fA f λ(c:Nat)=>busD (U c))),(41,busD<|U i),(42,Am (Aj buC<|U i)<|Aa<|U i),(43,AM 4),(44,Af 2 i),(45,Af 3 i)]) [ixK [nl0,nl0,nl0,nl0,nl0],ixK [Am (Al bD desc) f,Am (Aj bgC L)<|Aa L,Ao 2 0 f f Ab,Ao 3 0 f f Ab,natD tot],Ak (fA f<|uI U (i+1)) (88:TypeId) 1 Ab Ad Aq,Ak (fA f λ(c:Nat)=>if c=i then AM 4 else qI U i c) (128:TypeId) 1 Ab Ad A0,Ak [] 128 0 Ab Ad<|BC []] ?_;rotate_left
  have hg1:((fA f (uI U (i+1))).drop i).headD .unk=busD (U i):=by rw[zEf h3];exact if_pos (by omega)
  have hg2:((fA f λc=>if c=i then .mref 4 else qI U i c).drop i).headD .unk= .mref 4:=by rw[zEf h3];exact if_pos rfl
  focus
   refine zA5<|vAs<|vr 4 (True/\0<3/\(0:Int)<=(i:Int)/\(i:Int)<↑f)<|vo 49 2 i<|vr 1 (0<Aa (Ai i<|fA f<|uI U (i+1))) (vsh 50 hg1<|veT<|zH ?_) (by exact zCe h3);rotate_left
  have hq:∀m,5<=m->blw m (fA f λc=>if c=i then .mref 4 else qI U i c):=λm hm=>zEx.2 λc hc j hj=>by
   split
   ·simp[refs];omega
   unfold qI;split<;>rfl
  have hnm:∀K,∀e∈[ixK [nl0,nl0,nl0,nl0,nl0],ixK [.row (desc.map bD) f, .row (L.flatMap bgC) L.length, .osl 2 0 f f Ab, .osl 3 0 f f Ab,natD tot],blU0 (fA f (uI U (i+1))) Ad,blP (fA f λc=>if c=i then .mref 4 else qI U i c),mapI K],namB 5 e:=λK=>asm_nam (by omega) (hq 5 (by omega)) (λj hj=>by simp[zV,refs];omega) (λj hj=>by simp[zV,refs]) λe he=>by
   rw[BP]at he;subst he;exact .inl rfl
  refine zK (λ(j:Nat)=>fr 69 [(2,Am (fA f λ(c:Nat)=>busD (U c)) f),(8,Af 0 0),(9,Af 1 0),(10,iD i),(28,iD f),(29,iD i),(50,busD<|U i),(51,iD (Aa (U i):Int)),(52,iD j)]) (λ(j:Nat)=>[ixK [nl0,nl0,nl0,nl0,nl0],ixK [.row (desc.map bD) f,.row (L.flatMap bgC) L.length,.osl 2 0 f f Ab,.osl 3 0 f f Ab,natD tot],blU0 (fA f<|uI U (i+1)) Ad,blP (fA f λc=>if c=i then .mref 4 else qI U i c),mapI<|ptI (U i) j]) (λ(j:Nat)=>(U i).length-j) (λ(j:Nat)=>j<=(U i).length) 0 ?_ ?_ ?_
  ·omega
  ·refine vk 5
  intro j h4;rcases AR j (U i).length with h5|h5
  ·have hgt2:=zCp zCh (U i) j h5;have hgle:=zEe zCh (U i) j h5;have hgne:=zDc zCh (by decide) (U i) (by omega);have hmem:(U i).getD j Ae∈U i:=by rw[AI,AL h5];exact AV h5
   have hbk:=u2 _ hmem;have hsu:ptI (U i) (j+1)=tput (ptI (U i) j) ((U i).getD j Ae).key j:=rfl;generalize ptI (U i) j=K at*;generalize (U i).getD j Ae=u at*;have hid:=zC2 u.key u.key.length rfl hbk.1 hbk.2;have hmp:=mput_i K u.key j;have hnm2:=hnm (tput K u.key j);focus
    refine vAu (zA (vT ((j:Int)<(Aa (U i):Int)) (vKB (vA (vr 3 (ix ↑j (Aa (U i):Int) (Aj buC (U i)≠[])/\3<=Aa (Ai (j*3) (Aj buC (U i)))) ?_)))));refine vs 56 (AF (Au 3 (Ai (j*3) (Aj buC (U i))))) (AF (buC u)) (by simp(disch:=omega) only[hgt2]) (ve (Ad=Ad/\Ab=Ab/\3=3/\3<=3) (vd [0,2,5,8,1,3,4,6,7,9] (vr 6 (True/\True/\0<2/\(0:Int)<=(i:Int)/\(i:Int)<↑f) (vo 60 3 i (vr 1 (0<Aa (Ai i (AK (blP (fA f λ(c:Nat)=>if c=i then AM 4 else qI U i c))))) (vsh 61 hg2 (vr 1 (0<3) (vc hid (vr 1 (Bo (mapI K)=Ad/\zX (A6 (A7 A8 "string" 1 16 Ab 8 8 (Ax (AD (AQ #[]))) Ab #[])) (AD (bs (idR (Bu.key u))))=Ab/\Bz (Al (λ(p:List Va×Nat)=>kyv (Az p)) K) (zX (A6 (A7 A8 "string" 1 16 Ab 8 8 (Ax (AD (AQ #[]))) Ab #[])))=Ab/\¬4∈[]) (vb 4 (mput (mapI K) (Al (λ(p:List Va×Nat)=>kyv (Az p)) K) (AD (bs (idR (Bu.key u)))) (iD j)) (mapI (tput K (Bu.key u) j)) (by simp(disch:=omega) only[hmp]) (vnil (zD (zC ?_)))) ⟨(by kernel_rfl),⟨(by kernel_rfl),⟨(by exact zG8 _),(by decide)⟩⟩⟩)))) (by exact zCe h3))))));refine zA5 (zB rfl (vr 2 (i6 (↑j+1)) (vnil (zC ?_))));rotate_left
   refine⟨j+1,by omega,by omega,?_⟩;rw[hsu];refine wkn (fr 69 [(2,Am (fA f λ(c:Nat)=>busD (U c)) f),(8,Af 0 0),(9,Af 1 0),(10,iD i),(11,iD j),(12,Af 5 0),(28,iD f),(29,iD i),(50,busD (U i)),(51,iD (Aa (U i):Int)),(52,iD ↑(j+1)),(57,Af 1 3),(58,Ao 3 0 f f Ab),(59,iD i),(60,Af 3 i),(61,AM 4),(62,Af 5 0),(63,(q36_ u)),(64,Ah (AD (bs (idR (Bu.key u))))),(65,iD j),(66,iD ↑(j+1))]) [ixK [nl0,nl0,nl0,nl0,nl0],ixK [Am (Al bD desc) f,(q38_ L),Ao 2 0 f f Ab,Ao 3 0 f f Ab,natD tot],blU0 (fA f (uI U (i+1))) Ad,blP (fA f λ(c:Nat)=>if c=i then AM 4 else qI U i c),mapI (tput K (Bu.key u) j),Ak [(q36_ u),bD (Bu.desc u),Aw (WT.d (Bu.t u))] 91 0 Ad Ad Aq] ?_;refine zA4 (N:=5) (0<5/\1<5/\True) rfl hnm2 (λk hk=>rfl) ?_ ⟨by omega,by omega,trivial⟩;refine vk 6
  obtain rfl:j=(U i).length:=by omega
  focus
   refine vAu<|zA<|vF ((Aa (U i):Int)<(Aa (U i):Int))<|vY2<|zD<|vN<|zB rfl ?_;refine vr 2 (i6 (↑i+1))<|vnil<|zC ?_;rotate_left
  refine⟨i+1,by omega,by omega,?_⟩;have e2:(fA f λc=>if c=i then .mref 4 else qI U i c).set i (zDa (U i))=fA f (qI U (i+1)):=by
   rw[zEv];refine zB1 λc _=>?_;unfold qI;by_cases e:c=i
   ·subst e;rw[if_pos rfl,if_pos (by omega)]
   rw[if_neg e,if_neg e];by_cases e2:c<i
   ·rw[if_pos e2,if_pos (by omega)]
   rw[if_neg e2,if_neg (by omega)]
  have hnm4:∀e∈[ixK [nl0,nl0,nl0,nl0,nl0],ixK [.row (desc.map bD) f, .row (L.flatMap bgC) L.length, .osl 2 0 f f Ab, .osl 3 0 f f Ab,natD tot],blU0 (fA f (uI U (i+1))) Ad,blP (fA f (qI U (i+1)))],namB 4 e:=asm_nam (AT _) (zEx.2 λc hc j hj=>by unfold qI;split<;>rfl) (λj hj=>by simp[zV,refs];omega) (λj hj=>by simp[zV,refs]) (by simp);refine wkn (fr 69 [(2,Am (fA f λ(c:Nat)=>busD (U c)) f),(8,Af 0 0),(9,Af 1 0),(10,iD i),(28,iD f),(29,iD ↑(i+1)),(50,busD (U i)),(51,iD (Aa (U i):Int)),(52,iD (Aa (U i):Int)),(53,bD (decide ((Aa (U i):Int)<(Aa (U i):Int)))),(67,iD ↑(i+1))]) [ixK [nl0,nl0,nl0,nl0,nl0],ixK [Am (Al bD desc) f,(q38_ L),Ao 2 0 f f Ab,Ao 3 0 f f Ab,natD tot],blU0 (fA f (uI U (i+1))) Ad,blP (fA f λ(c:Nat)=>if c=i then AM 4 else qI U i c),mapI (ptI (U i) (Aa (U i)))] ?_;refine Weak.trans (B9 (j:=3) (i:=i) (ej:=blP (fA f λc=>if c=i then .mref 4 else qI U i c)) (d:= .mref 4) (x:=zDa (U i)) (ks:=[4]) rfl rfl rfl (by rw[zXh h3];exact congrArg Ax (if_pos rfl)) rfl (by decide)) ?_;show Weak Tas _ ([ixK [nl0,nl0,nl0,nl0,nl0],ixK [.row (desc.map bD) f, .row (L.flatMap bgC) L.length, .osl 2 0 f f Ab, .osl 3 0 f f Ab,natD tot],blU0 (fA f (uI U (i+1))) Ad,blP ((fA f λc=>if c=i then .mref 4 else qI U i c).set i (zDa (U i)))]++[{mapI (ptI (U i) (U i).length)with fz:=Ab}]) _ _;rw[e2];refine zA4 (N:=4) (0<4/\1<4/\True) rfl hnm4 keepA ?_ ⟨by omega,by omega,trivial⟩;refine vk 5
 obtain rfl:i=f:=by omega
 have hu1:fA i (uI U i)=fA i λc=>busD (U c):=zB1 λc hc=>if_pos hc;have hq1:fA i (qI U i)=fA i λc=>zDa (U c):=zB1 λc hc=>if_pos hc;rw[hu1,hq1];have ht1:(fA i λc=>busD (U c)).take i=fA i λc=>busD (U c):=BN (by rw[zEw];exact AT _);have ht2:(fA i λc=>zDa (U c)).take i=fA i λc=>zDa (U c):=BN (by rw[zEw];exact AT _);have hW:∀sl,Weak Tas sl [ixK [nl0,nl0,nl0,nl0,nl0],ixK [.row (desc.map bD) i, .row (L.flatMap bgC) L.length, .osl 2 0 i i Ab, .osl 3 0 i i Ab,natD tot],blU0 (fA i λc=>busD (U c)) Ad,blP (fA i λc=>zDa (U c))] sl
   [ixK [nl0,nl0,nl0,nl0,nl0],ixK [.row (desc.map bD) i, .row (L.flatMap bgC) L.length, .row (fA i λc=>busD (U c)) i, .row (fA i λc=>zDa (U c)) i,natD tot],blU0 (fA i λc=>busD (U c)) Ab,⟨fA i λc=>zDa (U c),128,1,Ab,Ab, .plain⟩]:=λsl=>by
  refine(Weak.unsh (k:=3) (e:=blP (fA i λc=>zDa (U c))) rfl rfl rfl (λj=>(zEx (m:=0)).2 (λc hc j hj=>rfl) j (BG _))).trans ?_;refine(B9 (T:=Tas) (st:=[ixK [nl0,nl0,nl0,nl0,nl0],ixK [.row (desc.map bD) i, .row (L.flatMap bgC) L.length, .osl 2 0 i i Ab, .osl 3 0 i i Ab,natD tot],blU0 (fA i λc=>busD (U c)) Ad,⟨fA i λc=>zDa (U c),128,1,Ab,Ad, .plain⟩]) (j:=1) (i:=2) (ej:=ixK [.row (desc.map bD) i, .row (L.flatMap bgC) L.length, .osl 2 0 i i Ab, .osl 3 0 i i Ab,natD tot]) (d:= .osl 2 0 i i Ab) (x:= .row (fA i λc=>busD (U c)) i) (ks:=[2]) rfl rfl rfl rfl ?_ (by decide)).trans ?_
  ·rw[show zAc=8+1 from rfl,zJs (e:=blU0 (fA i λc=>busD (U c)) Ad) rfl rfl rfl];show Ax (Am (((fA i λc=>busD (U c)).drop 0).take i) i,[2])=_;rw[Bf,ht1]
  refine B9 (T:=Tas) (st:=[ixK [nl0,nl0,nl0,nl0,nl0],ixK [.row (desc.map bD) i, .row (L.flatMap bgC) L.length, .row (fA i λc=>busD (U c)) i, .osl 3 0 i i Ab,natD tot],blU0 (fA i λc=>busD (U c)) Ab,⟨fA i λc=>zDa (U c),128,1,Ab,Ad, .plain⟩]) (j:=1) (i:=3) (ej:=ixK [.row (desc.map bD) i, .row (L.flatMap bgC) L.length, .row (fA i λc=>busD (U c)) i, .osl 3 0 i i Ab,natD tot]) (d:= .osl 3 0 i i Ab) (x:= .row (fA i λc=>zDa (U c)) i) (ks:=[3]) rfl rfl rfl rfl ?_ (by decide);rw[show zAc=8+1 from rfl,zJs (e:=⟨fA i λc=>zDa (U c),128,1,Ab,Ad, .plain⟩) rfl rfl rfl];show Ax (Am (((fA i λc=>zDa (U c)).drop 0).take i) i,[3])=_;rw[Bf,ht2]
 focus
  refine vAu<|zA<|vF ((i:Int)<↑i)<|vY2<|zC<|vnn (fr 69 [(2,Am (fA i λ(c:Nat)=>busD (U c)) i),(8,Af 0 0),(9,Af 1 0),(28,iD i),(29,iD i),(30,bD<|decide ((i:Int)<↑i))]) [ixK [nl0,nl0,nl0,nl0,nl0],ixK [Am (Al bD desc) i,(q38_ L),Ao 2 0 i i Ab,Ao 3 0 i i Ab,natD tot],blU0 (fA i λ(c:Nat)=>busD (U c)) Ad,blP (fA i λ(c:Nat)=>zDa (U c))] ?_;rotate_left
 refine zBz (hW _) ?_;focus
  refine vAs<|ve (5<=5/\Ad=Ad/\Ab=Ab/\5=5/\5<=5)<|zE ?_;refine vre (5<=5) (AF [Am (Al bD desc) i,(q38_ L),Am (fA i λ(c:Nat)=>busD (U c)) i,Am (fA i λ(c:Nat)=>zDa (U c)) i,natD tot]) (.inr rfl) ?_;rotate_left
 subst hn;rfl
def pbad(f n:Int)(P:List Int)(i:Nat):Bool:=decide (P.getD i 0<f)||decide (n<=P.getD i 0)||decide (P.getD i 0∈P.take i)
def pany(f n:Int)(P:List Int):Bool:=(A1 P.length).any (pbad f n P)
def icE(n f:Int)(dn:Nat)(P:List Int)(ats:List At):Int:=
 if n<0\/32<n\/f<0\/n<f then 3 else if(dn:Int)≠f\/(P.length:Int)≠n-f then 1 else if pany f n P=Ab then 1 else lfE n ats
abbrev inpD(n f:Int)(desc:List Bool)(P:List Int)(ats:List At):D:= .agg [iD n,iD f, .row (desc.map bD) desc.length, .row (P.map λz=>iD z) P.length, .row (ats.flatMap atC) ats.length]
abbrev inpB(n f:Int)(desc:List Bool)(P:List Int)(ats:List At):Bk:=⟨[iD n,iD f, .row (desc.map bD) desc.length, .row (P.map λz=>iD z) P.length, .row (ats.flatMap atC) ats.length],31,0,Ad,Ad, .plain⟩
abbrev booB(l:List D):Bk:=⟨l,4,1,Ab,Ad, .plain⟩
def seeF(P:List Int)(i u:Nat):Bool:=decide ((u:Int)∈P.take i)
theorem icheck_c(n f:Int)(desc:List Bool)(P:List Int)(ats:List At)(hd:desc.length<=2000000)(hP:P.length<=2000000)(ha:ats.length<=2000000)(hl:∀a∈ats,a.V.length<=2000000)(hlf:0<=n->n<=32->Pure Ay 14 [iD n, .row (ats.flatMap atC) ats.length] [] (iD (lfE n ats))):
  Pure Ay 16 [inpD n f desc P ats] [] (iD (icE n f desc.length P ats)):=by
 by_cases h1:n<0\/32<n\/f<0\/n<f
 ·unfold icE;rw[if_pos h1];refine zF zA8 mixed Tryz.func16 rfl ?_;focus
   refine vAu<|zA<|vA<|vr 4 (True/\0<5) ?_;refine vsp 9 (decide (n<0)) (λhc=>?_)<|λhc=>?_;simp only[decide_eq_true_eq]at hc;refine veT<|vt<|vAe<|zE<|zG<|vret (True)<|.inr rfl;simp only[decide_eq_false_iff_not]at hc;refine vr 5 (True/\0<5) ?_;refine vsp 14 (decide (n>(32:Int))) (λhc=>?_)<|λhc=>?_;simp only[decide_eq_true_eq]at hc;refine veT<|vt<|vAe<|zE<|zG<|vret (True)<|.inr rfl;simp only[decide_eq_false_iff_not]at hc;refine vr 5 (True/\0<4) ?_;refine vsp 19 (decide (f<0)) (λhc=>?_)<|λhc=>?_;simp only[decide_eq_true_eq]at hc;refine veT<|vt<|vAe<|zE<|zG<|vret (True)<|.inr rfl;simp only[decide_eq_false_iff_not]at hc;refine ve (True/\0<4/\True/\0<5)<|vT (f>n)<|vAe<|zE<|zG<|vret (True)<|.inr rfl
 by_cases h2:(desc.length:Int)≠f\/(P.length:Int)≠n-f
 ·unfold icE;rw[if_neg h1,if_pos h2];refine zF zA8 mixed Tryz.func16 rfl ?_;focus
   refine vAu<|zA<|vA<|vew [] [(3,Ad),(8,Ad),(13,Ad)] (True/\0<5/\decide (n<0)=Ad/\True/\0<5/\decide (n>(32:Int))=Ad/\True/\0<4/\decide (f<0)=Ad/\True/\0<4/\True/\0<5)<|vF (f>n)<|vK<|zA<|zA ?_;refine zB rfl<|vr 7 (True/\0<3/\True/\0<4/\True) ?_;refine vsp 32 ((Aa desc:Int)!=f) (λhc=>?_)<|λhc=>?_;simp only[bne_iff_ne]at hc;refine veT<|vt<|vAe<|zE<|zG<|vret (True)<|.inr rfl;simp only[bne_eq_false_iff_eq]at hc;refine ve (True/\0<2/\True/\0<5/\True/\0<4/\i6 (n-f)/\True)<|zGb (t:=(Aa P:Int)!=n-f) (by kernel_rfl) (by simpa using by omega)<|vAe<|zE<|zG<|vret (True)<|.inr rfl
 unfold icE;rw[if_neg h1,if_neg h2];obtain⟨k,rfl⟩:∃k:Nat,n=(k:Int):=⟨n.toNat,by omega⟩;have hk:=hlf (by omega) (by omega);obtain⟨m,hm,hgood,hend⟩:∃m,m<=P.length/\(∀j,j<m->pbad f k P j=Ad)/\((m=P.length/\pany f k P=Ad)\/(m<P.length/\pbad f k P m=Ab/\pany f k P=Ab)):=by
  by_cases h3:∃p,p<P.length/\pbad f k P p=Ab
  ·obtain⟨p,hp,hpb,hmin⟩:=zD1 h3;exact⟨p,by omega,hmin, .inr ⟨hp,hpb,by unfold pany;rw[Cr];exact⟨p,Bv.2 hp,hpb⟩⟩⟩
  refine⟨P.length,AT _,λj hj=>?_, .inl ⟨rfl,?_⟩⟩
  ·cases e:pbad f k P j with
   |false=>rfl
   |true=>exact absurd ⟨j,hj,e⟩ h3
  cases e:pany f k P with
  |false=>rfl
  |true=>
   unfold pany at e;rw[Cr]at e;obtain⟨p,hp,e⟩:=e;exact absurd ⟨p,Bv.1 hp,e⟩ h3
 have hz:repL k [bD Ad]=fA k λu=>bD (seeF P 0 u):=by
  rw[zS7];exact zB1 λi _=>by unfold seeF;simp
 refine zF zA8 mixed Tryz.func16 rfl ?_;focus
  refine vAu<|zA<|vA<|vew [] [(3,Ad),(8,Ad),(13,Ad)] (True/\0<5/\decide ((k:Int)<0)=Ad/\True/\0<5/\decide ((k:Int)>(32:Int))=Ad/\True/\0<4/\decide (f<0)=Ad/\True/\0<4/\True/\0<5)<|vF (f>(k:Int))<|vK<|zA<|zA ?_;refine zB rfl<|vew [] [(6,Ad)] (True/\0<3/\True/\0<4/\True/\((Aa desc:Int)!=f)=Ad/\True/\0<2/\True/\0<5/\True/\0<4/\i6 ((k:Int)-f)/\True)<|zGc (t:=(Aa P:Int)!=(k:Int)-f) (by kernel_rfl) (by simpa using by omega)<|vK<|vA<|vr 3 (True/\0<5/\(0:Int)<=(k:Int)/\(k:Int)<=↑k/\(↑(1:Nat):Int)*(k:Int)<=(281474976710656:Int)/\(k:Int)<=(281474976710656:Int)/\0<1/\1=1)<|vb 1 (Ak (repL (AC (k:Int)) [bD Ad]) 4 1 Ab Ad<|kdOf Ad) (Ak (fA k λ(u:Nat)=>bD (seeF P 0 u)) 4 1 Ab Ad<|kdOf Ad) (by simp(disch:=omega) only[AW,hz])<|vrT 1<|vs 3 (Ao 1 0 (AC (k:Int)) (AC (k:Int)*1) Ab) (Ao 1 0 k k Ab) (by simp(disch:=omega) only[AW,A3])<|veT<|zA ?_;refine vA<|ve (True/\0<2)<|zH ?_;rotate_left
 refine zK (λ(i:Nat)=>fr 78 [(1,Af 0 0),(3,Ao 1 0 k k Ab),(47,Am (Al (λ(z:Int)=>iD z) P)<|Aa P),(48,iD<|Aa P),(49,iD i)]) (λ(i:Nat)=>[inpB k f desc P ats,booB (fA k λu=>bD (seeF P i u))]) (λ(i:Nat)=>m-i) (λ(i:Nat)=>i<=m) 0 ?_ ?_ ?_
 ·omega
 ·refine vk 2
 intro i h3;have hPd:∀j,j<P.length->((P.map λz=>iD z).drop j).headD .unk=iD (P.getD j 0):=λj hj=>zAo (λz:Int=>iD z) P 0 j hj;have hPn:0<P.length->(P.map λz=>iD z)≠[]:=λh=>zAm h;rcases AR i m with h4|h4
 ·have h5:i<P.length:=by omega
  have hhd:=hPd i h5;have hne:=hPn (by omega);have hgd:=hgood i h4;unfold pbad at hgd;have htk:P.take (i+1)=P.take i++[P.getD i 0]:=by rw[By h5,AI,AL h5];rfl
  generalize P.getD i 0=z at*;simp only[Cg,decide_eq_false_iff_not]at hgd;obtain⟨⟨g1,g2⟩,g3⟩:=hgd;obtain⟨v,rfl⟩:∃v:Nat,z=(v:Int):=⟨z.toNat,by omega⟩;have hvk:v<k:=by omega
  have hse:((fA k λu=>bD (seeF P i u)).drop v).headD .unk=bD false:=by
   rw[zEf hvk];unfold seeF;rw[decide_eq_false g3]
  have hset:(fA k λu=>bD (seeF P i u)).set v (bD Ab)=fA k λu=>bD (seeF P (i+1) u):=by
   rw[zEv];refine zB1 λu _=>?_;unfold seeF;rw[htk];by_cases e:u=v
   ·subst e;rw[if_pos rfl];simp
   rw[if_neg e];have:¬(u:Int)=(v:Int):=by omega
   simp[this]
  have hfl:(fA k λu=>bD (seeF P i u)).length=k:=zEw;focus
   refine vAu<|zA<|vT ((i:Int)<↑(Aa P))<|vKB<|vA<|vr 1 (ix ↑i ↑(Aa P) (Al (λ(z:Int)=>iD z) P≠[])) ?_;refine vp 51 i (Al (λ(z:Int)=>iD z) P)<|vr 1 (0<Aa (Ai i<|Al (λ(z:Int)=>iD z) P))<|vsh 52 hhd<|veT<|zA<|vA<|vw 14 [] [(4,Ad),(10,Ad)] (True/\0<4/\decide ((v:Int)<f)=Ad/\True/\0<5/\decide ((v:Int)>=(k:Int))=Ad/\(0:Int)<=(v:Int)/\(v:Int)<↑k)<|vo 66 1 v<|vr 1 (0<Aa (Ai v<|AK<|booB (fA k λ(u:Nat)=>bD (seeF P i u))))<|vsh 67 hse<|veT<|vf<|zQ ?_;refine vN<|zB rfl<|vr 3 ((0:Int)<=(v:Int)/\(v:Int)<↑k)<|vo 71 1 v<|vr 1 (Bo (booB (fA k λ(u:Nat)=>bD (seeF P i u)))=Ad/\Ab=Ab/\1=1/\v+1<=Aa (AK<|booB (fA k λ(u:Nat)=>bD (seeF P i u)))/\¬1∈[])<|vnil<|zD<|vN<|zB rfl<|vr 2 (i6 (↑i+1))<|vnil<|zC ?_;rotate_left
  refine⟨i+1,by omega,by omega,?_⟩;rw[<-hset];refine vk 2
 obtain rfl:i=m:=by omega
 rcases hend with⟨rfl,hpa⟩|⟨h5,hpb,hpa⟩
 ·rw[hpa,if_neg (by decide)];focus
   refine vAu<|zA<|vF ((Aa P:Int)<↑(Aa P))<|vZ2<|vA ?_;refine vr 4 (True/\0<5/\True/\0<1)<|vc hk<|veT<|zE<|vret (True)<|.inr rfl
 rw [hpa,if_pos rfl];have hhd:=hPd i h5;have hne:=hPn (by omega);unfold pbad at hpb;generalize P.getD i 0=z at*;simp only[Ci,decide_eq_true_eq]at hpb;by_cases g1:z<f
 ·focus
   refine vAu<|zA<|vT ((i:Int)<↑(Aa P))<|vKB<|vA<|vr 1 (ix ↑i ↑(Aa P) (Al (λ(z:Int)=>iD z) P≠[])) ?_;refine vp 51 i (Al (λ(z:Int)=>iD z) P)<|vr 1 (0<Aa (Ai i<|Al (λ(z:Int)=>iD z) P))<|vsh 52 hhd<|veT<|zA<|vA<|vew [] [(4,Ab)] (True/\0<4/\decide (z<f)=Ab)<|vt<|vAe<|zE<|zG ?_;refine zL<|zG<|zG<|zL<|zG<|vret (True)<|.inr rfl
 by_cases g2:(k:Int)<=z
 ·focus
   refine vAu<|zA<|vT ((i:Int)<↑(Aa P))<|vKB<|vA<|vr 1 (ix ↑i ↑(Aa P) (Al (λ(z:Int)=>iD z) P≠[])) ?_;refine vp 51 i (Al (λ(z:Int)=>iD z) P)<|vr 1 (0<Aa (Ai i<|Al (λ(z:Int)=>iD z) P))<|vsh 52 hhd<|veT<|zA<|vA<|vew [] [(4,Ad),(10,Ab)] (True/\0<4/\decide (z<f)=Ad/\True/\0<5/\decide (z>=(k:Int))=Ab)<|vt<|vAe<|zE<|zG ?_;refine zL<|zG<|zG<|zL<|zG<|vret (True)<|.inr rfl
 obtain⟨v,rfl⟩:∃v:Nat,z=(v:Int):=⟨z.toNat,by omega⟩;have hvk:v<k:=by omega
 have hse:((fA k λu=>bD (seeF P i u)).drop v).headD .unk=bD true:=by
  rw[zEf hvk];unfold seeF;rw[decide_eq_true];rcases hpb with(h|h)|h
  ·exact absurd h g1
  ·exact absurd h g2
  exact h
 focus
  refine vAu<|zA<|vT ((i:Int)<↑(Aa P))<|vKB<|vA<|vr 1 (ix ↑i ↑(Aa P) (Al (λ(z:Int)=>iD z) P≠[])) ?_;refine vp 51 i (Al (λ(z:Int)=>iD z) P)<|vr 1 (0<Aa (Ai i<|Al (λ(z:Int)=>iD z) P))<|vsh 52 hhd<|veT<|zA<|vA<|vw 14 [] [(4,Ad),(10,Ad)] (True/\0<4/\decide ((v:Int)<f)=Ad/\True/\0<5/\decide ((v:Int)>=(k:Int))=Ad/\(0:Int)<=(v:Int)/\(v:Int)<↑k)<|vo 66 1 v<|vr 1 (0<Aa (Ai v<|AK<|booB (fA k λ(u:Nat)=>bD (seeF P i u)))) (vsh 67 hse<|veT<|vt<|zA ?_) (by exact zCe hvk);refine zB rfl<|veT<|zE<|zG<|zL<|zG<|zG<|zL<|zG<|vret (True)<|.inr rfl
end
section
open Go.RowKit
abbrev toAt(a:List Nat×List Rw):At:=⟨a.1.map λv:Nat=>(v:Int),(a.1.length:Nat),a.2⟩
theorem toAt_fl(A:List (List Nat×List Rw)):(A.map toAt).flatMap atC=A.flatMap atR:=by
 rw[List.flatMap_map];refine congrArg (λf=>Aj f A) (funext λa=>?_);show[Am ((a.1.map λv:Nat=>(v:Int)).map λz=>iD z) (a.1.map λv:Nat=>(v:Int)).length,_,_]=_;rw[List.map_map,AZ];rfl
theorem zQo{n:Nat}{A:List (List Nat×List Rw)}(h:Vok n A.length λi=>(A.getD i Ae).1):∀a∈A,a.1.Pairwise (· <·)/\∀v∈a.1,v<n:=λa ha=>by
 obtain⟨i,hi,rfl⟩:=CJ ha;have h1:=h.asc i hi;have h2:=h.lt i hi;simp only[AI,AL hi,BQ]at h1 h2;exact⟨h1,h2⟩
theorem atE_ok{n:Nat}{a:List Nat×List Rw}(h1:a.1.Pairwise (· <·))(h2:∀v∈a.1,v<n):atE (n:Nat) (toAt a)=0:=by
 have ha:ascB (toAt a).V=true:=by
  unfold ascB;rw[BD];intro i hi;have hi:i<a.1.length:=by
   have:=Bv.1 hi
   rwa[AZ]at this
  unfold zVl;rcases CD i with h0|h0
  ·rw[decide_eq_true h0,Bool.true_or]
  have h3:=List.pairwise_iff_getElem.1 h1 (i-1) i (by omega) hi (by omega);rw[Ci];refine .inr (decide_eq_true ?_);rw[AI,AI,A9,A9,AL hi,AL (by omega:i-1<a.1.length)];show((a.1[i-1]:Nat):Int)<((a.1[i]:Nat):Int);omega
 have hb:(toAt a).V.all (inB (n:Nat))=true:=by
  rw[BD];intro z hz;obtain⟨v,hv,rfl⟩:=A4.1 hz;exact decide_eq_true ⟨by omega,by have:=h2 v hv;omega⟩
 unfold atE;rw[if_neg (by rw[ha];decide),if_neg (by rw[hb];decide),if_neg];show¬((a.1.map λv:Nat=>(v:Int)).length:Int)≠(a.1.length:Nat);rw[AZ];exact λh=>h rfl
theorem zXn(n:Nat)(A:List (List Nat×List Rw))(hn:n<=32)(hA:A.length<=32)(hV:Vok n A.length λi=>(A.getD i Ae).1):Pure Ay 14 [iD (n:Nat), .row (A.flatMap atR) A.length] [] (iD 0):=by
 have hv:=zQo hV;have h:=zRq n (A.map toAt) hn (by rwa[AZ]) (λa ha=>by
  obtain⟨b,hb,rfl⟩:=A4.1 ha;obtain⟨h1,h2⟩:=hv b hb;show(b.1.map λv:Nat=>(v:Int)).length<=_;rw[AZ]
  have:=zJz (n:=n) 0 h1 λw hw=>⟨BG _,h2 w hw⟩
  omega)
 rw[toAt_fl,AZ]at h;have h0:atL (n:Nat) (A.map toAt)=0:=atL_0 λj hj=>by
  rw[AZ]at hj;have e:(A.map toAt).getD j Ae=toAt A[j]:=by
   rw[AI,A9,AL hj];rfl
  rw[e];obtain⟨h1,h2⟩:=hv A[j] (AV hj);exact atE_ok h1 h2
 have hu:(useP n (A.map toAt) []).contains Ad=false:=by
  rw[Bool.eq_false_iff];intro hc;rw[List.contains_iff_mem]at hc;unfold useP at hc;obtain⟨v,hv1,hv2⟩:=A4.1 hc;obtain⟨i,hi,hm⟩:=hV.cov v (Bv.1 hv1);rw[Cg]at hv2;have h3:=List.any_eq_false.1 hv2.1 (toAt A[i]) (A4.2 ⟨A[i],AV hi,rfl⟩);refine h3 (decide_eq_true (A4.2 ⟨v,?_,rfl⟩));simpa[AI,AL hi]using hm
 rw[if_neg (by rw[h0];exact λk=>k rfl),if_neg (by rw[hu];decide)]at h;exact h
theorem rle_tr{a b c:Rw}(h1:rcmp a b<=0)(h2:rcmp b c<=0):rcmp a c<=0:=by
 rcases Int.lt_or_eq_of_le h1 with h1|h1
 ·rcases Int.lt_or_eq_of_le h2 with h2|h2
  ·exact Int.le_of_lt (zPg a b c h1 h2)
  rw[(zBx b c).2.1]at h2;subst h2;exact Int.le_of_lt h1
 rw[(zBx a b).2.1]at h1;subst h1;exact h2
theorem zRd:∀{L:List Rw},(∀j,0<j->j<L.length->rcmp (L.getD (j-1) []) (L.getD j [])<=0)->L.Pairwise λa b=>rcmp a b<=0
 |[],_=>List.Pairwise.nil
 |[a],_=>List.pairwise_singleton _ _
 | a::b::L,h=>by
  have ih:(b::L).Pairwise λa b=>rcmp a b<=0:=zRd λj h0 hj=>by
   have:=h (j+1) (by omega) (by simpa using hj)
   rw[Nat.add_sub_cancel]at this;obtain⟨i,rfl⟩:∃i,j=i+1:=⟨j-1,by omega⟩;simpa using this
  have h0:rcmp a b<=0:=by simpa using h 1 (by omega) (by simp)
  refine Cb.2 ⟨λx hx=>?_,ih⟩;rcases Bq.1 hx with rfl|hx
  ·exact h0
  exact rle_tr h0 ((Cb.1 ih).1 x hx)
theorem srtB_pw{L:List Rw}(h:srtB L=Ab):L.Pairwise λa b=>rcmp a b<=0:=zRd λj h0 hj=>by
 have h1:=BD.1 h j (Bv.2 hj);unfold zSv at h1;rw[decide_eq_false (by omega),Bool.false_or]at h1;have h2:¬rcmp (L.getD j []) (L.getD (j-1) [])<0:=by simpa using h1
 have h3:=(zBx (L.getD (j-1) []) (L.getD j [])).2.2;omega
theorem zZd:∀{L:List Rw}{p:Rw},(p::L).Pairwise (λa b=>rcmp a b<=0)->Rsc (p::uqA p L)
 |[],p,_=>List.pairwise_singleton _ _
 | b::L,p,h=>by
  obtain⟨h1,h2⟩:=Cb.1 h;have ih:=zZd h2;rw[uqA];split
  ·rename_i e;subst e;exact ih
  rename_i e;have hb:rcmp p b<0:=by
   have h3:=h1 b (by simp);have h4:rcmp p b≠0:=λk=>e ((zBx p b).2.1.1 k).symm;omega
  refine Cb.2 ⟨λx hx=>?_,ih⟩;rcases Bq.1 hx with rfl|hx
  ·exact hb
  exact zPg p b x hb ((Cb.1 ih).1 x hx)
theorem uq_rsc{L:List Rw}(h:L.Pairwise λa b=>rcmp a b<=0):Rsc (uq L):=by
 cases L with
 |nil=>exact List.Pairwise.nil
 |cons a L=>exact zZd h
theorem zV8(L:List Rw):Rsc (relR L):=by
 unfold relR;refine uq_rsc ?_;split
 ·rename_i h;exact srtB_pw h
 exact zJ4 L
theorem zTk{x:Rw}:∀{L:List Rw}{p:Rw},x∈p::L->x∈p::uqA p L
 |[],p,h=>h
 | b::L,p,h=>by
  rw[uqA];split
  ·rename_i e;subst e;exact zTk (by simpa using h)
  rcases Bq.1 h with rfl|h
  ·simp
  exact CC _ (zTk h)
theorem zKr{x:Rw}{L:List Rw}:x∈relR L↔x∈L:=by
 have key:∀M:List Rw,x∈uq M↔x∈M:=λM=>⟨zZc,λh=>by
  cases M with
  |nil=>cases h
  |cons a M=>exact zTk h⟩
 unfold relR;rw[key];split
 ·rfl
 exact(zCo L).mem_iff
def rk(p:Nat->Bool)(v:Nat):Nat:=((A1 v).filter p).length
theorem zZ9(p:Nat->Bool)(v:Nat):rk p (v+1)=rk p v+if p v then 1 else 0:=by
 unfold rk;rw[Cc,Cd,Br];simp only[Ce,Cf];split<;>rfl
theorem rk_mono(p:Nat->Bool){u v:Nat}(h:u<=v):rk p u<=rk p v:=by
 induction h with
 |refl=>exact AT _
 |step _ ih=>rw[zZ9];exact A2 ih (Nat.le_add_right _ _)
theorem rk_lt{p:Nat->Bool}{u v:Nat}(h:u<v)(hp:p u=Ab):rk p u<rk p v:=by
 have h1:=rk_mono p (u:=u+1) (v:=v) h;rw[zZ9,hp,if_pos rfl]at h1;omega
theorem rk_get(p:Nat->Bool):∀(N j:Nat),j<((A1 N).filter p).length->rk p (((A1 N).filter p).getD j 0)=j/\p (((A1 N).filter p).getD j 0)=Ab/\((A1 N).filter p).getD j 0<N
 |0,j,h=>by simp at h
 | N +1,j,h=>by
  rw[Cc,Cd]at h⊢;rcases AR j ((A1 N).filter p).length with h1|h1
  ·obtain⟨a,b,c⟩:=rk_get p N j h1;rw[AI,CN h1,<-AI];exact⟨a,b,by omega⟩
  rw[Br]at h;simp only[Ce,Cf]at h⊢;by_cases hp:p N=Ab
  ·simp only[hp,if_true]at h⊢;have h2:j=((A1 N).filter p).length:=by
    have:j<((A1 N).filter p).length+1:=h;omega
   subst h2;rw[AI,List.getElem?_append_right (AT _),Nat.sub_self];exact⟨rfl,hp,by show N<N+1;omega⟩
  simp only[hp]at h;have:j<((A1 N).filter p).length+0:=h;omega
theorem zPr(s v:Nat)(hv:v<32)(hb:s.testBit v=Ab):(numL s).getD v 0=rk (λw=>s.testBit w) v:=by
 unfold numL;rw[AI,A9,BJ hv,BA,if_pos hb];rfl
theorem mem32_len(s:Nat):(zBb s).length=rk (λw=>s.testBit w) 32:=rfl
theorem bit_lt{s n u:Nat}(h:s>>>n=0)(hb:s.testBit u=Ab):u<n:=by
 rcases AR u n with h1|h1
 ·exact h1
 have h2:(s>>>n).testBit (u-n)=s.testBit u:=by rw[Nat.testBit_shiftRight,show n+(u-n)=u by omega]
 rw[h,hb]at h2;simp at h2
theorem zF3(s:Nat)(A:List (List Nat×List Rw)){a:Nat}(h:a<A.length):(A.map (zBa s)).getD a Ae=zBa s (A.getD a Ae):=by
 rw[AI,A9,AL h,AI,AL h];rfl
theorem zWg{n s:Nat}{A:List (List Nat×List Rw)}(hn:n<=32)(hsn:s>>>n=0)(hV:Vok n A.length λi=>(A.getD i Ae).1):Vok (zBb s).length A.length λi=>((A.map (zBa s)).getD i Ae).1 where
 asc a h:=by
  rw[zF3 s A h]
  refine List.pairwise_map.2 ?_
  refine((hV.asc a h).filter _).imp_of_mem λ{x y} hx hy hxy=>?_
  obtain⟨x1,x2⟩:=BR.1 hx
  obtain⟨y1,y2⟩:=BR.1 hy
  have:=hV.lt a h x x1
  have:=hV.lt a h y y1
  rw[zPr s x (by omega) x2,zPr s y (by omega) y2]
  exact rk_lt hxy x2
 lt a h w hw:=by
  rw[zF3 s A h]at hw
  obtain⟨x,hx,rfl⟩:=A4.1 hw
  obtain⟨x1,x2⟩:=BR.1 hx
  have:=hV.lt a h x x1
  rw[zPr s x (by omega) x2,mem32_len]
  exact rk_lt (by omega) x2
 cov v hv:=by
  obtain⟨h1,h2,h3⟩:=rk_get (λw=>s.testBit w) 32 v hv
  obtain⟨a,ha,hm⟩:=hV.cov _ (bit_lt hsn h2)
  refine⟨a,ha,?_⟩
  rw[zF3 s A ha]
  refine A4.2 ⟨_,BR.2 ⟨hm,h2⟩,?_⟩
  rw[zPr s _ h3 h2,h1]
theorem part_ok{n s:Nat}{A:List (List Nat×List Rw)}(hn:n<=32)(hsn:s>>>n=0)(hA:A.length<=32)(hV:Vok n A.length λi=>(A.getD i Ae).1)(hR:∀a∈A,a.2.length<=65536):AOk (mkP s A) where
 n:=A2 (BK _ _) (by simp)
 na:=by show(A.map (zBa s)).length<=1000;rw[AZ];omega
 p:=by show 5<=50000;omega
 v:=by
  show Vok (zBb s).length (A.map (zBa s)).length _
  rw[AZ]
  exact zWg hn hsn hV
 r a ha:=by
  obtain⟨b,hb,rfl⟩:=A4.1 ha
  refine⟨A2 (zKo s b) (hR b hb),λr hr=>?_,zV8 _⟩
  obtain⟨q,_,rfl⟩:=A4.1 (zKr.1 hr)
  show(zY q (zC4 (λv=>s.testBit v) b.1)).length=((b.1.filter λv=>s.testBit v).map _).length
  rw[AZ,zXk]
  simp[zY]
theorem accL_ok{ar:Nat}:∀{L:List Rw},(∀x∈L,x.length=ar/\x.all vok=Ab)->accL (ar:Nat) L=0
 |[],_=>rfl
 | x::L,h=>by
  obtain⟨h1,h2⟩:=h x (by simp);have h3:accE (ar:Nat) x=0:=by
   unfold accE;rw[if_neg (by omega),if_pos h2]
  simp only[accL];rw[if_neg (by rw[h3];exact λk=>k rfl)];exact accL_ok λx hx=>h x (by simp[hx])
theorem jn_vok{n s:Nat}{A:List (List Nat×List Rw)}(hao:AOk (mkP s A))(hR:∀a∈A,∀r∈a.2,r.length=a.1.length/\r.all vok=Ab):∀x∈jn (mkP s A),x.length=(zBb s).length/\x.all vok=true:=λx hx=>by
 obtain⟨h1,h2⟩:=((zP2 hao).2 x).1 hx;refine⟨h1,BD.2 λv hv=>?_⟩;obtain⟨w,hw,rfl⟩:=CJ hv;have h1':x.length=(mkP s A).n:=h1;obtain⟨a,ha,hm⟩:=hao.v.cov w (by omega);have h3:=h2 a ha;have ha2:a<A.length:=by
  have:(mkP s A).A.length=A.length:=AZ _;omega
 have hpa:(mkP s A).A.getD a Ae=zBa s (A.getD a Ae):=zF3 s A ha2;rw[hpa]at h3;obtain⟨q,hq,e⟩:=A4.1 (zKr.1 h3);have hmem:x[w]∈prj (mkP s A).vs a 0 x:=A4.2 ⟨w,BR.2 ⟨hm,by simp⟩,by rw[AI,AL hw];rfl⟩;rw[<-e]at hmem;have hA:A.getD a Ae∈A:=by rw[AI,AL ha2];exact AV ha2
 obtain⟨q1,q2⟩:=hR _ hA q hq;obtain⟨c,hc,e2⟩:=A4.1 hmem;have hc2:=zJx _ _ c hc;rw[<-e2];refine BD.1 q2 _ ?_;rw[AI,AL (by omega:c<q.length)];exact AV _
theorem mat_c(n s:Nat)(A:List (List Nat×List Rw))(hn:n<32)(hs:s<4294967296)(hsn:s>>>n=0)(hA:A.length<=32)(hV:Vok n A.length λi=>(A.getD i Ae).1)(hr1:∀a∈A,a.2.length<=65536)(hR:∀a∈A,∀r∈a.2,r.length=a.1.length/\r.all vok=Ab)(h0:0<(zBb s).length)(M:Nat)(hM:∀a∈A,a.2.length+(zBb s).length<=M)(hC:(A.length+1)*(cE A.length M (zBb s).length)+1<=big)(hJ:(jn (mkP s A)).length<=65536):∃z:Nat,z<=big/\Pure Ay 72 [iD (n:Nat),u32D s, .row (A.flatMap atR) A.length] [] (.tup [.agg (atR (zBb s,jn (mkP s A))),iD ((stpA s A+z+(jn (mkP s A)).length:Nat):Int),iD 0]):=by
 have hao:=part_ok (s:=s) (by omega:n<=32) hsn hA hV hr1;have hv:=zQo hV;have hjv:=jn_vok (n:=n) hao hR;have hpv:=zWg (s:=s) (by omega:n<=32) hsn hV;have hck:=zXn (zBb s).length (A.map (zBa s)) (A2 (BK _ _) (by simp)) (by rwa[AZ]) (by rw[AZ];exact hpv);rw[List.flatMap_map,AZ]at hck;exact zPv n s A hn hs hsn hA (λa ha=>by
  obtain⟨v1,v2⟩:=hv a ha;have h3:=zJz (n:=n) 0 v1 λw hw=>⟨BG _,v2 w hw⟩;exact⟨v1,λv h=>by have:=v2 v h;omega,by omega,hr1 a ha,λr h=>(hR a ha r h).1⟩) (zXn n A (by omega) hA hV) hao h0 M (λa ha=>by
  obtain⟨b,hb,rfl⟩:=A4.1 ha
  have:=zKo s b
  have:=hM b hb
  omega) hC hck hJ (λr hr=>(hjv r hr).1) (zP2 hao).1 (accL_ok hjv)
end
section
open Go.RowKit
attribute [local irreducible] seqW awp zAe zAn zAd Weak updS zAv retL Pure Acts rP setP setQ cP nP fr
set_option maxRecDepth 4096
theorem eset_c(v k:Nat)(p:Int)(hv:v<32)(hk:k<4294967296):Pure Ay 73 [.agg [iD (v:Nat),u32D k,iD p]] [] (u32D (k|||2^v)):=by
 have h4:=zC8 hv;have h5:=zMv hk h4;refine zF zA8 mixed Tryz.func73 rfl ?_;focus
  refine vAu<|zA<|vA<|vew [] [(3,Ad)] (True/\0<3/\decide ((v:Int)<0)=Ad/\True/\0<3)<|vF ((v:Int)>=(32:Int))<|vK<|zA<|vd [0,2,1,3,4,5,6] ?_;refine vr 5 (True/\True/\0<2/\0<3/\(0:Int)<=(v:Int))<|vs 17 (Ah<|An AU<|A_ AU ((1:Int)*(2:Int)^min (AC (v:Int)) 32)) (dig ((2:Nat)^v)) (by simp(disch:=omega) only[AW,zDu])<|vrT 1<|vs 18 (Ah<|An AU<|A_ AU (↑(Bp (AO 32 (k:Int)|||AO 32 (↑((2:Nat)^v):Int))):Int)) (dig (k|||(2:Nat)^v)) (by simp(disch:=omega) only[zMl,zA2])<|veT<|zE<|vret (True)<|.inr rfl
abbrev matA(A:List (List Nat×List Rw))(b:Bg):List Nat×List Rw:=(zBb (bgS b),jn (mkP (bgS b) A))
def totS(A:List (List Nat×List Rw))(z:Bg->Nat)(L:List Bg):Nat:=(L.map λb=>stpA (bgS b) A+z b+(jn (mkP (bgS b) A)).length).sum
theorem zQq(A:List (List Nat×List Rw))(z:Bg->Nat)(L:List Bg)(b:Bg):totS A z (L++[b])=totS A z L+(stpA (bgS b) A+z b+(jn (mkP (bgS b) A)).length):=by simp[totS]
theorem all_c(n:Nat)(L:List Bg)(A:List (List Nat×List Rw))(z:Bg->Nat)(hl:L.length<=32)(hb:∀b∈L,b.v<32/\b.k<4294967296)(hm:∀b∈L,Pure Ay 72 [iD (n:Nat),u32D (bgS b), .row (A.flatMap atR) A.length] [] (.tup [.agg (atR (matA A b)),iD ((stpA (bgS b) A+z b+(jn (mkP (bgS b) A)).length:Nat):Int),iD 0]))(ht:∀i,i<=L.length->totS A z (L.take i)<=9000000000000000000):Pure Ay 32 [iD (n:Nat), .row (L.flatMap bgC) L.length, .row (A.flatMap atR) A.length] [] (.tup [.row (L.flatMap λb=>atR (matA A b)) L.length,iD ((totS A z L:Nat):Int),iD 0]):=by
 have hbc:∀b:Bg,(bgC b).length=3:=λ_=>rfl;refine zF zA8 mixed Tryz.func32 rfl ?_;focus
  refine vAu<|vAe<|vAe<|zA<|vAe ?_;refine zH ?_;rotate_left
 refine zK (λ(i:Nat)=>fr 44 [(0,iD n),(2,(q14_ A)),(9,Ao 0 0 i (i*3) Ab),(10,iD (↑(totS A z<|Au i L):Int)),(16,(q38_ L)),(17,iD<|Aa L),(18,iD i)]) (λ(i:Nat)=>[(⟨(L.take i).flatMap λb=>atR (matA A b),87,3,Ab,Ad,.plain⟩:Bk)]) (λ(i:Nat)=>L.length-i) (λ(i:Nat)=>i<=L.length) 0 ?_ ?_ ?_
 ·omega
 ·refine vk 0
 intro i h1;rcases AR i L.length with h3|h3
 ·have hg2:=zCp hbc L i h3;have hle:=zEe hbc L i h3;have hne:=zDc hbc (by decide) L (by omega);have htk:L.take (i+1)=L.take i++[L.getD i Ae]:=by rw[By h3,AI,AL h3];rfl
  have hbm:L.getD i Ae∈L:=by rw[AI,AL h3];exact AV h3
  obtain⟨b1,b2⟩:=hb _ hbm;have hmt:=hm _ hbm;have hse:=eset_c (L.getD i Ae).v (L.getD i Ae).k (L.getD i Ae).p b1 b2;have ht1:=ht (i+1) (by omega);have hpl:((L.take i).flatMap λb=>atR (matA A b)).length=i*3:=by rw[zDk (c:=3) (λ_=>rfl),CG,Nat.min_eq_left h1]
  rw[htk,zQq]at ht1;focus
   refine vAu<|zA<|vT ((i:Int)<↑(Aa L))<|vKB<|vA<|vr 2 (ix ↑i ↑(Aa L) (Aj bgC L≠[])/\3<=Aa (Ai (i*3)<|Aj bgC L)) ?_;refine vs 21 (AF<|Au 3<|Ai (i*3)<|Aj bgC L) (AF<|bgC<|Ap L i Ae) (by simp(disch:=omega) only[hg2])<|ve (Ad=Ad/\Ab=Ab/\3=3/\3<=3)<|vA<|vr 2 (3<=3)<|vc hse<|vrT 1<|vc hmt<|ve (0<3/\1<3/\2<3/\Ad=Ad/\Ab=Ab/\3=3/\3<=3)<|zA<|vAe<|vf ?_;refine vK<|vA<|ve (3<=3/\((3=3/\3<=3/\True)/\0<3/\3=3/\3<=16777216/\1<=9223372036854775807)/\Ab=Ab/\Aa (Aj (λ(b:Bg)=>atR (matA A b))<|Au i L)=i*3/\i*3=i*3/\87=87/\3=3/\3=3/\0<3/\0<56/\87=87/\(i+1)*56<=140737488355328/\3=3/\Bh Aq=Ad/\(Ad=Ad\/Bi Aq=Ab))<|zB rfl<|vr 4 (i6 ((↑(totS A z<|Au i L):Int)+(↑(stpA (bgS<|Ap L i Ae) A+z (Ap L i Ae)+Aa (jn<|mkP (bgS<|Ap L i Ae) A)):Int)))<|vnil<|zD<|vN<|zB rfl<|vr 2 (i6 (↑i+1)) ?_;refine vnil<|zC ?_;rotate_left
  refine⟨i+1,h3,by omega,?_⟩;rw[htk,zQq,<-zR2];refine vk 1
 obtain rfl:i=L.length:=by omega
 rw[Bn];have hfa:((L.flatMap λb=>atR (matA A b)).take (L.length*3))=L.flatMap λb=>atR (matA A b):=zNq (c:=3) (g:=λb=>atR (matA A b)) (λ_=>rfl) L _ rfl;focus
  refine vAu<|zA<|vF ((Aa L:Int)<↑(Aa L))<|vZ2<|vA ?_;refine veT<|zE ?_;refine zB9 (True) (D.tup [Am (Au (Aa L*3)<|Ai 0<|Aj (λ(b:Bg)=>atR (matA A b)) L)<|Aa L,iD ↑(totS A z L),iD 0]) (D.tup [Am (Aj (λ(b:Bg)=>atR (matA A b)) L)<|Aa L,Ah<|An Bm (↑(totS A z L):Int),Ah<|An Bm 0]) (.inr rfl) trivial (by simp(disch:=omega) only[Bf,hfa]) rfl
theorem below_n:∀n:Fin 33,AU.wrap (A5.wrap (A5.wrap (1*2^min n.val 64)-1))=((2^n.val-1:Nat):Int):=by decide
theorem below_c(n:Nat)(hn:n<=32):Pure Ay 131 [iD (n:Nat)] [] (u32D (2^n-1)):=by
 have h:=below_n ⟨n,by omega⟩;simp only at h;refine zF zA8 mixed Tryz.func131 rfl ?_;refine vAu<|vA<|vw 4 [5,6] [] ((0:Int)<=(n:Int)/\True/\True)<|vs 6 (Ah<|An AU<|A_ AU<|A_ A5 (A_ A5 ((1:Int)*(2:Int)^min n 64)-(1:Int))) (dig ((2:Nat)^n-1)) (by simp(disch:=omega) only[h])<|veT<|zE<|vret (True)<|.inr rfl
abbrev grB(n e:D):Bk:=⟨[n,e],77,0,Ad,Ad, .plain⟩
abbrev uuB(l:List Nat):Bk:=⟨l.map u32D,36,1,Ab,Ad, .plain⟩
abbrev nl1:D:= .val (.slice AJ 0 0)
theorem hof_c(n:Nat)(hn:n<=32)(L:List (List Nat))(hL:L.length<=64)(hl:∀V∈L,V.length<=1000/\∀v∈V,v<n):Pure Ay 30 [iD (n:Nat), .row (L.map λV=> .row (nsD V) V.length) L.length] [] (.tup [.agg [iD (n:Nat), .row ((L.map msk).map u32D) L.length],iD 0]):=by
 refine zF zA8 mixed Tryz.func30 rfl ?_;focus
  refine vAu<|zA<|vA<|vew [] [(2,Ad)] (decide ((n:Int)<0)=Ad)<|vF ((n:Int)>(32:Int))<|vK<|zA<|zA ?_;refine zB rfl<|veT<|vF ((Aa L:Int)>(64:Int))<|vK<|vA<|vr 4 (((1=1/\1<=2/\True)/\Ab=Ab)/\Ad=Ad/\Ab=Ab/\2=2/\2<=2)<|vnil<|zC<|vnn (fr 58 [(0,iD n),(1,Am (Al (λ(V:List Nat)=>Am (nsD V) (Aa V)) L)<|Aa L),(4,Af 0 0),(5,iD 0),(6,Af 1 0),(21,bD<|decide ((Aa L:Int)>(64:Int))),(23,iD n),(24,AF [iD n,nl])]) [Ak [iD 0,nl] 77 0 Ad Ad Aq,Ak [iD n,nl] 77 0 Ad Ad Aq] ?_;rotate_left
 refine zBz (Weak.nilC (j:=1) (i:=1) (ej:=grB (iD (n:Nat)) nl1) (uuB []) rfl rfl rfl rfl) ?_;focus
  refine zA<|vAu<|zH ?_;rotate_left
 refine zK (λ(i:Nat)=>fr 58 [(0,iD n),(4,Af 0 0),(6,Af 1 0),(25,Am (Al (λ(V:List Nat)=>Am (nsD V) (Aa V)) L)<|Aa L),(26,iD<|Aa L),(27,iD i)]) (λ(i:Nat)=>[grB (iD 0) nl1,grB (iD (n:Nat))<|.osl 2 0 i i Ab,uuB<|(L.take i).map msk]) (λ(i:Nat)=>L.length-i) (λ(i:Nat)=>i<=L.length) 0 ?_ ?_ ?_
 ·omega
 ·refine vk 3
 intro i h1;rcases AR i L.length with h3|h3
 ·have hmem:L.getD i []∈L:=by rw[AI,AL h3];exact AV h3
  have htk:L.take (i+1)=L.take i++[L.getD i []]:=by rw[By h3,AI,AL h3];rfl
  have hhd:=zAo (λV:List Nat=>Am (nsD V) V.length) L [] i h3;have hne:(L.map λV:List Nat=>Am (nsD V) V.length)≠[]:=zAm (by omega);obtain⟨l1,l2⟩:=hl _ hmem;have hcl:((L.take i).map msk).length=i:=by simp;omega
  generalize L.getD i []=V at*;have huu:uuB ((L.take (i+1)).map msk)=⟨((L.take i).map msk).map u32D++[u32D (msk V)],36,1,Ab,Ad, .plain⟩:=by rw[htk];simp
  focus
   refine vAu<|zA<|vT ((i:Int)<↑(Aa L))<|vKB<|vA<|vr 1 (ix ↑i ↑(Aa L) (Al (λ(V:List Nat)=>Am (nsD V) (Aa V)) L≠[])) ?_;refine vp 29 i (Al (λ(V:List Nat)=>Am (nsD V) (Aa V)) L)<|vr 1 (0<Aa (Ai i<|Al (λ(V:List Nat)=>Am (nsD V) (Aa V)) L))<|vsh 30 hhd<|veT<|vAe<|zA<|vAe<|zH ?_;rotate_left
  refine zK (λ(j:Nat)=>fr 58 [(0,iD n),(4,Af 0 0),(6,Af 1 0),(9,u32D<|msk<|Au j V),(25,Am (Al (λ(V:List Nat)=>Am (nsD V) (Aa V)) L)<|Aa L),(26,iD<|Aa L),(27,iD i),(31,(q5_ V)),(32,iD<|Aa V),(33,iD j)]) (λ(j:Nat)=>[grB (iD 0) nl1,grB (iD (n:Nat))<|.osl 2 0 i i Ab,uuB<|(L.take i).map msk]) (λ(j:Nat)=>V.length-j) (λ(j:Nat)=>j<=V.length) 0 ?_ ?_ ?_
  ·omega
  ·refine vk 3
  intro j h2;have hlt:∀j,msk (V.take j)<4294967296:=λj=>msk_lt λv hv=>by have:=l2 v (CH hv);omega
  rcases AR j V.length with h4|h4
  ·have h5:=l2 _ (zBw V j h4);have h6:=zC8 (by omega:V.getD j 0<32);have h7:=zMv (hlt j) h6;have h8:=hlt j;focus
    refine vAu<|zA<|vT ((j:Int)<↑(Aa V))<|vKB<|vA<|vr 1 (ix ↑j ↑(Aa V) (nsD V≠[])) ?_ ⟨(by omega),⟨(by omega),(by exact zAm (by omega))⟩⟩;refine vp 35 j (nsD V)<|vr 1 (0<Aa (Ai j<|nsD V))<|vs 36 (BF (Ai j<|nsD V) Uk) (iD ↑(Ap V j 0)) (by simp(disch:=omega) only[zCd])<|veT<|zA<|vA<|vew [] [(2,Ad)] (decide ((↑(Ap V j 0):Int)<0)=Ad)<|vF ((↑(Ap V j 0):Int)>=(n:Int))<|vK<|zB rfl<|vr 3 ((0:Int)<=(↑(Ap V j 0):Int)) ?_;refine vs 47 (Ah<|An AU<|A_ AU ((1:Int)*(2:Int)^min (AC (↑(Ap V j 0):Int)) 32)) (dig ((2:Nat)^Ap V j 0)) (by simp(disch:=omega) only[AW,zDu])<|vrT 1<|vs 48 (Ah<|An AU<|A_ AU (↑(Bp (AO 32 (↑(msk<|Au j V):Int)|||AO 32 (↑((2:Nat)^Ap V j 0):Int))):Int)) (dig (msk (Au j V)|||(2:Nat)^Ap V j 0)) (by simp(disch:=omega) only[zMl,zA2])<|vrT 1<|vnil<|zD<|vN<|zB rfl<|vr 2 (i6 (↑j+1))<|vnil<|zC ?_;rotate_left
   refine⟨j+1,by omega,by omega,?_⟩;rw[zPu V j h4];refine vk 3
  obtain rfl:j=V.length:=by omega
  rw[Bn];focus
   refine vAu<|zA<|vF ((Aa V:Int)<↑(Aa V))<|vZ2<|zB rfl<|vr 7 (True/\0<1/\((1=1/\1<=1/\True)/\0<1/\1=1/\1<=16777216/\1<=9223372036854775807)/\(Bk.arr (uuB<|Al msk<|Au i L)=Ab/\Aa (AK<|uuB<|Al msk<|Au i L)=i*1/\i=i*1/\Ba (uuB<|Al msk<|Au i L)=36/\Bb (uuB<|Al msk<|Au i L)=1/\1=1/\0<1/\0<4/\36=36/\(i+1)*4<=140737488355328/\1=1/\Bh (AY<|uuB<|Al msk<|Au i L)=Ad/\(Ad=Ad\/Bi (AY<|uuB<|Al msk<|Au i L)=Ab))/\True/\Ad=Ad/\Ab=Ab/\1=1/\2<=2) ?_;refine vb 1 (Ak [iD n,Ao 2 0 (i+1) ((i+1)*1) Ab] 77 0 Ad Ad Aq) (Ak [iD n,Ao 2 0 (i+1) (i+1) Ab] 77 0 Ad Ad Aq) (by simp(disch:=omega) only[A3])<|vnil<|zD<|vN<|zB rfl<|vr 2 (i6 (↑i+1))<|vnil<|zC ?_;rotate_left
  refine⟨i+1,by omega,by omega,?_⟩;rw[huu];refine vk 3
 obtain rfl:i=L.length:=by omega
 rw[Bn];have hall:(((L.map msk).map u32D).take L.length)=(L.map msk).map u32D:=BN (by simp);focus
  refine vAu<|zA<|vF ((Aa L:Int)<↑(Aa L))<|vZ2<|vA ?_;refine ve (2<=2/\Ad=Ad/\Ab=Ab/\2=2/\2<=2)<|zE ?_;refine zB9 (2<=2) (D.tup [AF [iD n,Am (Au (Aa L)<|Ai 0<|AK<|uuB<|Al msk L)<|Aa L],iD 0]) (D.tup [AF [Ah<|An Bm (n:Int),Am (Al u32D<|Al msk L)<|Aa L],Ah<|An Bm 0]) (.inr rfl) (by omega) (by simp(disch:=omega) only[Bf,hall]) rfl
theorem andn_lt{e n:Nat}(he:e<2^n):AO 32 ((e:Nat):Int)&&&~~~AO 32 ((2^n-1:Nat):Int)=0#32:=by
 rw[BitVec.ofInt_natCast,BitVec.ofInt_natCast];apply BitVec.eq_of_getLsbD_eq;intro i hi;rw[BitVec.getLsbD_and,BitVec.getLsbD_not,BitVec.getLsbD_ofNat,BitVec.getLsbD_ofNat,Nat.testBit_two_pow_sub_one];by_cases h:i<n
 ·simp[h,hi]
 rw[Nat.testBit_lt_two_pow (CK he (CL (by omega) (by omega)))];simp
theorem hd_u(E:List Nat)(i:Nat)(h:i<E.length):((E.map u32D).drop i).headD .unk=u32D (E.getD i 0):=zAo u32D E 0 i h
abbrev q39_(x0:List Nat):=Am (Al u32D x0) (Aa x0)
theorem zXc(n:Nat)(hn:n<=32)(E:List Nat)(hE:E.length<=64)(hl:∀e∈E,e<2^n):Pure Ay 108 [.agg [iD (n:Nat), .row (E.map u32D) E.length]] [] (iD 0):=by
 have hbe:=below_c n hn;refine zF zA8 mixed Tryz.func108 rfl ?_;focus
  refine vAu<|zA<|vA<|vew [] [(3,Ad)] (True/\0<2/\decide ((n:Int)<0)=Ad/\True/\0<2)<|vF ((n:Int)>(32:Int))<|vK<|zA<|zA ?_;refine zB rfl<|ve (True/\0<1)<|vF ((Aa E:Int)>(64:Int))<|vK<|zA<|vA<|ve (True/\0<1)<|zH ?_;rotate_left
 refine zK (λ(i:Nat)=>fr 31 [(1,Af 0 0),(18,(q39_ E)),(19,iD<|Aa E),(20,iD i)]) (λ(i:Nat)=>[grB (iD (n:Nat))<|.row (E.map u32D) E.length]) (λ(i:Nat)=>E.length-i) (λ(i:Nat)=>i<=E.length) 0 ?_ ?_ ?_
 ·omega
 ·refine vk 1
 intro i h1;rcases AR i E.length with h3|h3
 ·have hmem:E.getD i 0∈E:=zBw E i h3;have hlt:=hl _ hmem;have hhd:=hd_u E i h3;have hz:=andn_lt hlt;have hz2:((((0#32).toNat:Nat):Int)!=0)=false:=by decide
  focus
   refine vAu<|zA<|vT ((i:Int)<↑(Aa E))<|vKB<|vA<|vr 1 (ix ↑i ↑(Aa E) (Al u32D E≠[])) ?_ ⟨(by omega),⟨(by omega),(by exact zAm (by omega))⟩⟩;refine vp 22 i (Al u32D E)<|vr 1 (0<Aa (Ai i<|Al u32D E))<|vsh 23 hhd<|veT<|vA<|vr 3 (True/\0<2)<|vc hbe<|vrT 1<|vs 28 (Ah<|An AU<|A_ AU (↑(Bp (AO 32 (↑(Ap E i 0):Int)&&&~~~AO 32 (↑((2:Nat)^n-1):Int))):Int)) (dig<|Bp<|BitVec.ofNat 32 0) (by simp(disch:=omega) only[zA2,hz])<|veT<|vf<|zQ<|zD ?_;refine vN<|zB rfl<|vr 2 (i6 (↑i+1))<|vnil<|zC ?_;rotate_left
  refine⟨i+1,by omega,by omega,?_⟩;refine vk 1
 focus
  refine vAu<|zA<|vF ((i:Int)<↑(Aa E))<|vZ2<|vA ?_;refine veT<|zE<|vret (True)<|.inr rfl
def andn(e v:Nat):Nat:=(AO 32 ((e:Nat):Int)&&&~~~AO 32 ((2^v:Nat):Int)).toNat
theorem zVi(e v:Nat):andn e v<4294967296:=BitVec.isLt _
def adU(e m v:Nat):Nat:=if e.testBit v then m|||andn e v else m
def nbE(E:List Nat)(v:Nat):Nat:=E.foldl (λm e=>adU e m v) 0
theorem nbE_32:∀(E:List Nat)(v:Nat),nbE E v<4294967296:=λE v=>by
 have key:∀(E:List Nat)(m:Nat),m<4294967296->E.foldl (λm e=>adU e m v) m<4294967296:=by
  intro E;induction E with
  |nil=>exact λm h=>h
  |cons e E ih=>
   intro m h;rw[B7];refine ih _ ?_;unfold adU;split
   ·exact zMv h (zVi e v)
   exact h
 exact key E 0 (by omega)
theorem nbE_snoc(E:List Nat)(e v:Nat):nbE (E++[e]) v=adU e (nbE E v) v:=by
 unfold nbE;rw[BE];rfl
def adL(E:List Nat)(e j:Nat):List D:=(A1 32).map λv=>u32D (if v<j then adU e (nbE E v) v else nbE E v)
def adR(E:List Nat):List D:=(A1 32).map λv=>u32D (nbE E v)
theorem adL_zero(E:List Nat)(e:Nat):adL E e 0=adR E:=CM λv _=>by rw[if_neg (by omega)]
theorem adL_hd(E:List Nat)(e j:Nat)(h:j<32):((adL E e j).drop j).headD .unk=u32D (nbE E j):=by
 unfold adL;rw[zAo (λv=>u32D (if v<j then adU e (nbE E v) v else nbE E v)) (A1 32) 0 j (by simpa using h),AI,BJ h];show u32D (if j<j then adU e (nbE E j) j else nbE E j)=_;rw[if_neg (Nat.lt_irrefl _)]
theorem adL_set(E:List Nat)(e j:Nat)(h:j<32):(adL E e j).set j (u32D (adU e (nbE E j) j))=adL E e (j+1):=by
 unfold adL;apply Co;intro u;rw[BU,AZ,B8];split
 ·rename_i he;subst he;rw[A9,BJ h,BA,if_pos (by omega)]
 rename_i he;rw[A9,A9];rcases AR u 32 with hu|hu
 ·rw[BJ hu,BA,BA];by_cases h1:u<j
  ·rw[if_pos h1,if_pos (by omega)]
  rw[if_neg h1,if_neg (by omega)]
 rw[List.getElem?_eq_none (by simpa using hu)];rfl
theorem adL_no(E:List Nat)(e j:Nat)(h:e.testBit j=Ad):adL E e (j+1)=adL E e j:=CM λu _=>by
 by_cases h1:u<j
 ·rw[if_pos h1,if_pos (by omega)]
 rw[if_neg h1];by_cases h2:u=j
 ·subst h2;rw[if_pos (by omega)];unfold adU;rw[if_neg (by rw[h];decide)]
 rw[if_neg (by omega)]
theorem adL_all{E:List Nat}{e n:Nat}(h:e<2^n):adL E e n=adR (E++[e]):=CM λv _=>by
 rw[nbE_snoc];by_cases h1:v<n
 ·rw[if_pos h1]
 rw[if_neg h1];unfold adU;rw[if_neg (by rw[Nat.testBit_lt_two_pow (CK h (CL (by omega) (by omega)))];decide)]
theorem adL_len(E:List Nat)(e j:Nat):(adL E e j).length=32:=by simp[adL]
abbrev gaB(l:List D):Bk:=⟨l,144,0,Ad,Ad, .plain⟩
theorem adj_c(n:Nat)(hn:n<=32)(E:List Nat)(hE:E.length<=64)(hl:∀e∈E,e<2^n):Pure Ay 132 [.agg [iD (n:Nat), .row (E.map u32D) E.length]] [] (.agg ((A1 32).map λv=>u32D (nbE E v))):=by
 have hz:∀v,nbE [] v=0:=λv=>rfl;refine zF zA8 mixed Tryz.func132 rfl ?_;focus
  refine vAu<|vAe<|zA<|vA<|ve (True/\0<1)<|zH ?_;rotate_left
 refine zK (λ(i:Nat)=>fr 36 [(1,Af 0 0),(2,Af 1 0),(3,Af 2 0),(8,(q39_ E)),(9,iD<|Aa E),(10,iD i)]) (λ(i:Nat)=>[grB (iD (n:Nat))<|.row (E.map u32D) E.length,gaB<|adR [],gaB<|adR<|E.take i]) (λ(i:Nat)=>E.length-i) (λ(i:Nat)=>i<=E.length) 0 ?_ ?_ ?_
 ·omega
 ·refine vk 3
 intro i h1;rcases AR i E.length with h3|h3
 ·have hmem:E.getD i 0∈E:=zBw E i h3;have hhd:=hd_u E i h3;have hlt:=hl _ hmem;have htk:E.take (i+1)=E.take i++[E.getD i 0]:=by rw[By h3,AI,AL h3];rfl
  generalize E.getD i 0=e at*;focus
   refine vAu<|zA<|vT ((i:Int)<↑(Aa E))<|vKB<|vA<|vr 1 (ix ↑i ↑(Aa E) (Al u32D E≠[])) ?_ ⟨(by omega),⟨(by omega),(by exact zAm (by omega))⟩⟩;refine vp 12 i (Al u32D E)<|vr 1 (0<Aa (Ai i<|Al u32D E))<|vsh 13 hhd<|veT<|vA<|ve (True/\0<2)<|zH ?_;rotate_left
  refine zK (λ(j:Nat)=>fr 36 [(1,Af 0 0),(2,Af 1 0),(3,Af 2 0),(5,dig e),(8,(q39_ E)),(9,iD<|Aa E),(10,iD i),(15,iD n),(16,iD j)]) (λ(j:Nat)=>[grB (iD (n:Nat))<|.row (E.map u32D) E.length,gaB<|adR [],gaB<|adL (E.take i) e j]) (λ(j:Nat)=>n-j) (λ(j:Nat)=>j<=n) 0 ?_ ?_ ?_
  ·omega
  ·rw[adL_zero];refine vk 3
  intro j h2;rcases AR j n with h4|h4
  ·have h5:j<32:=by omega
   have h6:=zC8 h5;have h7:=nbE_32 (E.take i) j;have h8:=zMv h7 (zVi e j);have he32:e<4294967296:=CK hlt (CL (by omega) hn);have hdj:=adL_hd (E.take i) e j h5;have hll:=adL_len (E.take i) e j;have hor:(AO 32 ((nbE (E.take i) j:Nat):Int)|||AO 32 (((AO 32 ((e:Nat):Int)&&&~~~AO 32 ((2^j:Nat):Int)).toNat:Nat):Int)).toNat=nbE (E.take i) j|||andn e j:=zMl h7 (zVi e j);focus
    refine vAu<|zA<|vT ((j:Int)<↑n)<|vKB<|vAe ?_;refine vA<|vr 3 ((0:Int)<=(j:Int))<|vs 21 (Ah<|An AU<|Int.fdiv (e:Int) ((2:Int)^min (AC (j:Int)) 32)) (dig (e>>>j)) (by simp(disch:=omega) only[AW,zE5])<|vrT 1<|vs 22 (Ah<|An AU<|A_ AU (↑(Bp (AO 32 (↑(e>>>j):Int)&&&AO 32 (1:Int))):Int)) (dig<|Bp (AO 32 (↑(e>>>j):Int)&&&AO 32 (1:Int))) (by simp(disch:=omega) only[zA2])<|vrT 1<|vs 23 (bD ((↑(Bp (AO 32 (↑(e>>>j):Int)&&&AO 32 (1:Int))):Int)==(1:Int))) (bD<|Bs e j) (by simp(disch:=omega) only[bit_b])<|veT ?_;refine zAa (t:=Bs e j) (by kernel_rfl) (λhc=>?_)<|λhc=>?_;refine vd [0,1,3,4,5,6,2,7,8,9]<|vr 2 ((0:Int)<=(j:Int)/\(j:Int)<↑(32:Nat))<|vo 25 2 j<|vr 3 ((0:Int)<=(j:Int))<|vs 29 (Ah<|An AU<|A_ AU ((1:Int)*(2:Int)^min (AC (j:Int)) 32)) (dig ((2:Nat)^j)) (by simp(disch:=omega) only[AW,zDu])<|vrT 1<|vs 30 (Ah<|An AU<|A_ AU (↑(Bp (AO 32 (e:Int)&&&~~~AO 32 (↑((2:Nat)^j):Int))):Int)) (dig<|Bp (AO 32 (e:Int)&&&~~~AO 32 (↑((2:Nat)^j):Int))) (by simp(disch:=omega) only[zA2])<|vr 1 (0<Aa (Ai j<|AK<|gaB<|adL (Au i E) e j))<|vsh 26 hdj<|vrT 1<|vs 31 (Ah<|An AU<|A_ AU (↑(Bp (AO 32 (↑(nbE (Au i E) j):Int)|||AO 32 (↑(Bp (AO 32 (e:Int)&&&~~~AO 32 (↑((2:Nat)^j):Int))):Int))):Int)) (dig (nbE (Au i E) j|||andn e j)) (by simp(disch:=omega) only[zA2,hor])<|vr 1 ((0:Int)<=(j:Int)/\(j:Int)<↑(32:Nat))<|vo 32 2 j<|vr 1 (Bo (gaB<|adL (Au i E) e j)=Ad/\Ab=Ab/\1=1/\j+1<=32) ?_;refine vnil<|zD<|vN<|zB rfl<|vr 2 (i6 (↑j+1))<|vnil<|zC ?_;rotate_left;refine zQ<|zD<|vN<|zB rfl<|vr 2 (i6 (↑j+1))<|vnil<|zC ?_;rotate_left
   ·have hc2:e.testBit j=true:=by assumption
    have hset:=adL_set (E.take i) e j h5;unfold adU at hset;rw[if_pos hc2]at hset;refine⟨j+1,by omega,by omega,?_⟩;rw[<-hset];refine vk 3
   have hc2:e.testBit j=false:=by assumption
   refine⟨j+1,by omega,by omega,?_⟩;rw[adL_no _ _ _ hc2];refine vk 3
  obtain rfl:j=n:=by omega
  rw[adL_all hlt,<-htk];focus
   refine vAu<|zA<|vF ((j:Int)<↑j)<|vY2<|zD<|vN<|zB rfl ?_;refine vr 2 (i6 (↑i+1))<|vnil<|zC ?_;rotate_left
  refine⟨i+1,by omega,by omega,?_⟩;refine vk 3
 obtain rfl:i=E.length:=by omega
 rw[Bn];focus
  refine vAu<|zA<|vF ((Aa E:Int)<↑(Aa E))<|vZ2<|vA ?_;refine ve (32<=32/\Ad=Ad/\Ab=Ab/\32=32/\32<=32)<|zE<|vret (32<=32)<|.inr rfl
theorem adR_get(E:List Nat)(j:Nat)(h:j<32):(adR E).getD j .unk=u32D (nbE E j):=by
 unfold adR;rw[AI,A9,BJ h];rfl
theorem nbrs_c(n v:Nat)(hn:n<=32)(hv:v<n)(E:List Nat)(hE:E.length<=64)(hl:∀e∈E,e<2^n):Pure Ay 109 [.agg [iD (n:Nat), .row (E.map u32D) E.length],iD (v:Nat)] [] (u32D (nbE E v)):=by
 have hck:=zXc n hn E hE hl;have had:=adj_c n hn E hE hl;have hhd:=adR_get E v (by omega);have hal:(adR E).length=32:=by simp[adR]
 change Pure _ _ _ _ (.agg (adR E))at had;generalize adR E=l at had hhd hal;refine zF zA8 mixed Tryz.func109 rfl ?_;focus
  refine vAu<|zA<|vA<|vr 1 (2<=2)<|vc hck<|vew [] [(7,Ad)] (True/\decide ((v:Int)<0)=Ad/\True/\0<2)<|vF ((v:Int)>=(n:Int))<|vK ?_;refine vA<|vr 1 (2<=2)<|vc had<|vr 2 (ix ↑v ↑(32:Nat) (AC (v:Int)*1<Aa l))<|vs 21 (Ap l (AC (v:Int)*1) Uk) (u32D<|nbE E v) (by simp(disch:=omega) only[AW,A3,hhd])<|veT<|zE<|vret (True)<|.inr rfl
theorem cfree_c(n f:Nat)(hn:n<=32)(hf:f<=n)(E:List Nat)(hE:E.length<=64)(hl:∀e∈E,e<2^n):Pure Ay 70 [.agg [iD (n:Nat), .row (E.map u32D) E.length],iD (f:Nat)] [] (iD 0):=by
 have hck:=zXc n hn E hE hl;refine zF zA8 mixed Tryz.func70 rfl ?_;focus
  refine vAu<|zA<|vA<|vr 1 (2<=2)<|vc hck<|veT<|vAe<|vf ?_;refine vK<|zA<|vA<|vew [] [(2,Ad)] (decide ((f:Int)<0)=Ad/\True/\0<2)<|vF ((f:Int)>(n:Int))<|vK<|vAe ?_;refine zE<|vret (True)<|.inr rfl
def eaL(E:List Nat)(i:Nat):List D:=(A1 32).map λv=>u32D (if v<i then nbE E v else 0)
theorem eaL_set(E:List Nat)(i:Nat)(h:i<32):(eaL E i).set i (u32D (nbE E i))=eaL E (i+1):=by
 unfold eaL;apply Co;intro u;rw[BU,AZ,B8];split
 ·rename_i he;subst he;rw[A9,BJ h,BA,if_pos (by omega)]
 rename_i he;rw[A9,A9];rcases AR u 32 with hu|hu
 ·rw[BJ hu,BA,BA];by_cases h1:u<i
  ·rw[if_pos h1,if_pos (by omega)]
  rw[if_neg h1,if_neg (by omega)]
 rw[List.getElem?_eq_none (by simpa using hu)];rfl
theorem eadj_c(n:Nat)(hn:n<=32)(E:List Nat)(hE:E.length<=64)(hl:∀e∈E,e<2^n):Pure Ay 71 [.agg [iD (n:Nat), .row (E.map u32D) E.length]] [] (.agg (eaL E n)):=by
 refine zF zA8 mixed Tryz.func71 rfl ?_;focus
  refine vAu<|vAe<|zA<|vA<|ve (True/\0<2)<|zH ?_;rotate_left
 refine zK (λ(i:Nat)=>fr 17 [(1,Af 0 0),(2,Af 1 0),(3,Af 2 0),(6,iD n),(7,iD i)]) (λ(i:Nat)=>[grB (iD (n:Nat))<|.row (E.map u32D) E.length,gaB<|eaL E 0,gaB<|eaL E i]) (λ(i:Nat)=>n-i) (λ(i:Nat)=>i<=n) 0 ?_ ?_ ?_
 ·omega
 ·refine vk 3
 intro i h1;rcases AR i n with h3|h3
 ·have hnb:=nbrs_c n i hn h3 E hE hl;have hset:=eaL_set E i (by omega);have hll:(eaL E i).length=32:=by simp[eaL]
  focus
   refine vAu<|zA<|vT ((i:Int)<↑n)<|vKB<|vAe ?_;refine zB rfl<|vr 3 (2<=2)<|vc hnb<|vr 1 ((0:Int)<=(i:Int)/\(i:Int)<↑(32:Nat))<|vo 14 2 i<|vr 1 (Bo (gaB<|eaL E i)=Ad/\Ab=Ab/\1=1/\i+1<=32)<|vnil<|zD<|vN<|zB rfl<|vr 2 (i6 (↑i+1))<|vnil<|zC ?_;rotate_left
  refine⟨i+1,by omega,by omega,?_⟩;rw[<-hset];refine vk 3
 obtain rfl:i=n:=by omega
 focus
  refine vAu<|zA<|vF ((i:Int)<↑i)<|vZ2<|vA ?_;refine ve (32<=32/\Bo (gaB<|eaL E 0)=Ad/\Ab=Ab/\32=32/\32<=32) ?_;refine zE<|vret (32<=32)<|.inr rfl
end
end Go.Proofs.YtjcofbkhoeockaaGreatDoor
