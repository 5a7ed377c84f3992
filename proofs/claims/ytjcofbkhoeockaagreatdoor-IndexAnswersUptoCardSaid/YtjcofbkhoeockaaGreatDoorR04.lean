/- Texts of this claim, joined. -/
import Derived.Test.YtjcofbkhoeockaaGreatDoorR03
import Derived.Lib.RowBridge
import Derived.BigCall
import Derived.Lib.ItoaLen
import Derived.Lib.Walk
import Derived.WalkKit
import Derived.Lib.Strings
import Derived.Lib.ItoaWalk
import Derived.Lib.LaidTab
import Derived.Lib.Hide
set_option linter.unusedVariables false
set_option linter.unusedSimpArgs false
namespace Go.Proofs.YtjcofbkhoeockaaGreatDoor
open _root_.List renaming length->Aa,map->Ah,drop->Ai,flatMap->Al,getD->Au,take->AB,range->AK,replicate->AP,getElem?_eq_getElem->AS,length_append->AU,getD_eq_getElem?_getD->A3,getElem_mem->A8,headD->A9,length_map->Bh,drop_zero->Bi,take_of_length_le->Bo,take_length->Bq,mem_range->Bx,mem_singleton->By,mem_cons->Bz,length_filter_le->BC,all_eq_true->BG,mem_map->BH,take_succ_eq_append_getElem->BI,toArray->BL,all->BN,length_set->BP,map_cons->BR,ext_getElem?->BS,range_succ->BX,map_append->BY,append_nil->BZ,mem_append->B3,not_mem_nil->B5,append_assoc->B6,pairwise_cons->B8,set_append_right->Cb,getElem?_map->Cc,getElem_of_mem->Cd,map_set->Cf,length_cons->Cg,flatMap_append->Ch,set->Ci,replicate_succ->Cq,length_pos_iff->Ct,range'->Cu,map_congr_left->Cx,getElem?_cons_zero->Cy,getElem?_set->Cz,ext_getElem->CA,sum_cons->CC,length_nil->CE,mem_cons_of_mem->CF,findIdx?_eq_some_iff_getElem->CG,any_eq_true->CI,mem_filter->CJ,Pairwise->CK,getElem?_append_left->CL,contains_iff_mem->CM,length_take->CO,take_append_drop->CQ,length_range->CV,eq_nil_or_concat->CW,concat_eq_append->CX,pairwise_iff_getElem->CY
open _root_.Bool renaming true->Ab,false->Ac,or_false->A6,or_eq_false_iff->BO,false_or->BT,and_eq_true->Cj,or_eq_true->CP
open D renaming own->Ad,osl->Af,row->Ak,val->Ap,agg->Az,fx->AE,ptr->AG,clo->AO,mref->AR
open _root_.Inhabited renaming default->Ae
open Bk renaming mk->Ag,cells->AM,kd->A1,ty->A_,sz->Ba,fz->BB,arr->BJ
open Mk renaming p->Aj,n->Ar,A->AF,cb->A7
open _root_.Prod renaming fst->Am,snd->Aw
open Lib renaming itoa->Ao,decDigits->AN,nDigits->AT,bitLen->B_,itoa_length_le->Ca,byteCells->Ck,decDigits_length->CR,nDigits_le20->CU
open Kd renaming plain->Aq,sh->AW,isMap->Bc,isSh->Bf,map->BK
open _root_.Option renaming some->As,none->AL,some->Ce,map_some->Cr,getD_some->CH,map_eq_some_iff->CZ
open Value renaming int->Ax,string->AJ,pointer->Cp,bool->CB
open _root_.Int renaming toNat->Ay,toNat_natCast->BA,natAbs->Cl
open _root_.Go.Proofs.Tryz renaming prog->AA,func118->Cm,func84->CD
open Va renaming kind->AC,int->AH,str->AI
open IntKind renaming u8->AD,i64->Bp,u64->Bw,wrap->BU,u32->BV
open _root_.Nat renaming lt_or_ge->AQ,le_refl->AV,le_trans->A0,le->Bb,mul_one->Bn,testBit->Bs,zero_le->BD,zero_add->BE,mul_le_mul_right->B7,eq_zero_or_pos->Cv,min_eq_left->CN
open LeL renaming refl->AX
open Lay renaming n->AY,rb->BF
open _root_.ByteArray renaming mk->AZ,data->Bv
open Bg renaming k->A2,p->A4
open Js renaming ys->A5,its->BQ
open TypeInfo renaming desc->Bj,mk->Bl
open TypeDesc renaming string->Bm
open _root_.BitVec renaming ofInt->Br,toNat->B9
open _root_.Array renaming toList->Bt,replicate->CS,size_replicate->CT
open LeD renaming fx->BM,refl->BW
open Weak renaming fzCell->Co
abbrev al_:Prop:=(1=1/\1<=1/\True)/\0<1/\1=1/\1<=16777216/\1<=9223372036854775807
abbrev am_:Prop:=Ac=Ac/\Ab=Ab/\3=3/\3<=3
abbrev an_(p:Prop):Prop:=((1=1/\1<=1/\True)/\0<1/\1=1/\1<=16777216/\1<=9223372036854775807)/\Ab=Ab/\p
abbrev ao_:Prop:=(3=3/\3<=3/\True)/\0<3/\3=3/\3<=16777216/\1<=9223372036854775807
abbrev ap_(p:Prop):Prop:=((1=1/\1<=1/\True)/\0<1/\1=1/\1<=16777216/\1<=9223372036854775807)/\p
abbrev aq_:Prop:=0<2/\1<2/\Ac=Ac/\Ab=Ab/\2=2/\2<=2
abbrev ar_:Prop:=True/\0<1
abbrev as_:Prop:=True/\0<3
abbrev au_:Prop:=(1=1/\1<=3/\2=2/\3<=3/\True)/\Ab=Ab
abbrev av_:Prop:=True/\True/\True/\0<2/\0<9
abbrev aw_:Prop:=True/\True/\True/\2<=2/\3<=4/\3<=9
abbrev ax_:Prop:=Ac=Ac/\Ab=Ab/\2=2/\2<=2
abbrev ay_:Prop:=Ac=Ac/\Ab=Ab/\1=1/\1<=1
abbrev az_:Prop:=True/\True/\0<3/\2<=2
abbrev aA_:Prop:=True/\0<5
abbrev aB_:Prop:=True/\True/\0<9
abbrev aC_:Prop:=True/\0<4/\True/\0<5
abbrev aD_:Prop:=True/\Ac=Ac/\Ab=Ab/\1=1/\1<=3
abbrev aE_:Prop:=3<=3/\Ac=Ac/\Ab=Ab/\3=3/\3<=3
abbrev aF_:Prop:=True/\0<2
variable{st:List Bk}{cs:List D}{al ch:List Nat}{L:List Rw}{m:Mk}{k i n:Nat}{ix:Nat->List Nat}
section
open Go.RowKit
attribute [local irreducible] seqW awp zAd zAi zY Weak updS zAr retL Pure Acts rP setP setQ cP nP fr
set_option maxRecDepth 4096
def Tr2(p:Nat)(ch:List Nat):Par:=⟨λf=>f==146||f==147||f==145,λ_ _=>AL,λk=>decide (k<p)&&!ch.contains k,λ_=>Ac,λt=>t==225||t==219⟩
theorem Tr2_ok(p:Nat)(ch:List Nat):zA9 AA (Tr2 p ch):=by intro t n f h;cases h
theorem Tr2_new(p:Nat)(ch:List Nat):∀k,p<=k->(Tr2 p ch).keep k=false:=λk hk=>by
 show(decide (k<p)&&!ch.contains k)=Ac;rw[decide_eq_false (by omega)];rfl
theorem zGt(p:Nat)(ch:List Nat):∀k,p+3<=k->(Tr2 p ch).keep k=false:=by grind [Tr2_new]
abbrev yCl(cb:Nat):D:= .clo (.func 135) [] [.own cb 0]
abbrev atsD(A:List (List Nat×List Rw)):D:= .row (A.flatMap atN) A.length
theorem zRz:∀n,zG (AP n ⟨0,0,[]⟩)=repL n (vaC ⟨0,0,[]⟩):=λn=>by
 induction n with
 |zero=>rfl
 |succ n ih=>
  have:repL (n+1) (vaC ⟨0,0,[]⟩)=vaC ⟨0,0,[]⟩++repL n (vaC ⟨0,0,[]⟩):=by simp[repL,Cq]
  rw[this,<-ih,Cq];rfl
theorem co_set(h:i<k):setAt (rgD i++AP (k-i) (iD 0)) i [iD (i:Nat)]=rgD (i+1)++AP (k-(i+1)) (iD 0):=by
 show(rgD i++AP (k-i) (iD 0)).set i (iD (i:Nat))=_;have hl:(rgD i).length=i:=by simp
 rw[Cb _ _ (by omega),hl,Nat.sub_self,show k-i=k-(i+1)+1 by omega,Cq,List.set_cons_zero];simp_all [rgD,BX,BY]
theorem frz_args{l:Nat}{rs:List D}{b:Bool}(hk:st[k]?=As ⟨cs,3,1,Ab,Ac, .plain⟩)(hb:(⟨cs,3,1,Ab,Ac, .plain⟩:Bk).nob=Ab)(ht:(cs.drop 0).take n=cs):mapF (frz Ab st zAe) [.agg [iD (n:Nat), .row rs l], .osl k 0 n n b]=As ([.agg [iD (n:Nat), .row rs l], .row cs n],[k]):=by
 have h1:frz Ab st zAe (.agg [iD (n:Nat), .row rs l])=As (.agg [iD (n:Nat), .row rs l],[]):=rfl;have h2:frz Ab st zAe (.osl k 0 n n b)=As (.row cs n,[k]):=by
  unfold zAe;rw[frz];rw[hk];simp only[hb,if_true];rw[ht];rfl
 simp only[mapF,h1,h2];rfl
theorem setFz_app(h:st.length=k):zA0 (st++[⟨cs,3,1,Ab,Ac, .plain⟩]) [k]=st++[⟨cs,3,1,Ab,Ab, .plain⟩]:=by
 subst h;unfold zA0;show(st++[_]).modify st.length _=_;apply BS;grind
theorem kill1{B b':Bk}(hk:k<st.length)(hB:zAn k B=B):((st++[B]).map (zAn k)).set k b'=(st.map (zAn k)).set k b'++[B]:=by
 grind
theorem zXo(h:k<m.p+4+m.n)(al:List Nat)(i:Nat):((al.map λi=>Ad (m.p+4+m.n+5*i+4) 0)++[Ad (m.p+4+m.n+5*i+4) 0]).map (zAl k)=(al++[i]).map λi=>Ad (m.p+4+m.n+5*i+4) 0:=by
 grind [D,zPi,zGk]
abbrev tmB(m:Mk)(i:Nat):Bk:=⟨[.own (m.p+4+m.n+5*i+4) 0],225,1,Ab,Ac, .sh⟩
theorem tm_kill(h:k<m.p+4+m.n):zAn k (tmB m i)=tmB m i:=zA1 (by simp only[zX,refs,A6,beq_eq_false_iff_ne];omega)
def ixp(m:Mk)(a:Nat)(l:List Nat)(v:Nat):List Nat:=ats a m.vs v++if v∈l then[a]else[]
theorem ixp_nil(m:Mk)(a:Nat):ixp m a []=ats a m.vs:=funext λv=>by
 show ats a m.vs v++(if v∈([]:List Nat)then[a]else[])=_;rw[if_neg (by simp),BZ]
theorem ixp_all(m:Mk)(a:Nat):ixp m a (m.vs a)=ats (a+1) m.vs:=funext λv=>by
 show ats a m.vs v++(if v∈m.vs a then[a]else[])=ats (a+1) m.vs v;unfold ats;rw[BX,List.filter_append];congr 1;split
 ·rename_i h;simp[h]
 rename_i h;simp[h]
theorem ixp_succ(m:Mk)(a:Nat)(l:List Nat)(u:Nat)(hu:u∉l):(λw=>if w=u then ixp m a l u++[a]else ixp m a l w)=ixp m a (l++[u]):=by grind [ixp]
theorem ql_mj{c:Nat}(h:MOk m){v:Nat}(hv:v<m.n)(b:Bk):(((qlay m ix al c).map (zAn (m.p+4+v))).set (m.p+4+v) b)[m.p+2]?=As (joB m):=by
 have hcb:=h.cb;rw[List.getElem?_set_ne (by omega),Cc,ql_j,Cr];congr 1;refine zA1 ?_;simp only[zX,refs,A6,BT,BO,beq_eq_false_iff_ne];omega
theorem hd_lt(m:Mk)(ix:Nat->List Nat)(v:Nat)(h:v<m.n):(((AK m.n).map (ltP m ix)).drop v).headD .unk=ltP m ix v:=by
 simp_all
theorem ixp_len(m:Mk)(a:Nat)(l:List Nat)(v:Nat):(ixp m a l v).length<=a+1:=by
 grind [ixp,AU,ats,ats_len]
theorem ixp_lt(m:Mk)(a:Nat)(l:List Nat):∀v,∀i∈ixp m a l v,i<a+1:=λv i hi=>by
 unfold ixp at hi;rcases B3.1 hi with h|h
 ·have:=Bx.1 (CJ.1 h).1
  omega
 split at h
 ·rw[By.1 h];omega
 cases h
theorem zRr(hm:MOk m){st0 X:List Bk}(hp:st0.length=m.p)(hb:∀k,k<m.p->st0[k]?=As (m.base k))(hX:X=st0++[roB (AP m.n ⟨0,0,[]⟩),(⟨repL m.n [nlD],219,1,Ab,Ac, .sh⟩:Bk),joB m]):∀b∈X,namB (m.p+3) b:=λb hbX=>by
 rw[hX]at hbX;rcases B3.1 hbX with h|h
 ·obtain⟨k,hk,rfl⟩:=Cd h;have h1:=hb k (by omega);rw[AS hk]at h1;rw[Ce.inj h1];exact(hm.bs k (by omega)).imp id λh j hj=>h j (by omega)
 have hcb:=hm.cb;simp only[Bz,B5,or_false]at h;rcases h with rfl|rfl|rfl
 ·exact .inl rfl
 ·refine .inr λj _=>?_;show zX j (repL m.n [nlD])=Ac;rw[zFc];exact(show∀n,zX j (AP n nlD)=Ac from λn=>by
   induction n with
   |zero=>simp only[List.replicate_zero,zX]
   |succ n ih=>simp only[Cq,zX,refs,ih,A6]) _
 refine .inr λj hj=>?_;simp only[zX,refs,A6,BT,BO,beq_eq_false_iff_ne];omega
def sumS(its:List It):Nat->Nat
 |0=>0
 |i+1=>sumS its i+(its.getD i Ae).s
theorem zTy{its:List It}{B:Nat}:∀{k:Nat},(∀i,i<k->(its.getD i Ae).s<=B)->sumS its k<=k*B
 |0,_=>BD _
 |k+1,h=>by
  have h1:=zTy (k:=k) λi hi=>h i (by omega);grind [sumS,Nat.succ_mul]
abbrev S1(m:Mk):Js:=extJ (ats m.A.length m.vs) m.n 0 (S0 m)
abbrev S2(m:Mk)(k:Nat):Js:={S1 m with s:=(S1 m).s+sumS (S1 m).its k}
theorem hd_pt(m:Mk){na:Nat}(h:i<na):(((AK na).map λi=>Ad (m.p+4+m.n+5*i+4) 0).drop i).headD .unk= .own (m.p+4+m.n+5*i+4) 0:=by
 simp_all
theorem lay_pt{yb:List (List Va)->Nat->Option Bk}(h:YbOk m ch yb)(S:Js):(lay (qL m ch yb) S)[m.p+3]?=As (ptB m (AK m.A.length)):=by
 rw[zD2 (by show m.p+3<m.p+4+m.n+5*m.A.length;omega)];unfold blk;rw[if_neg (show¬m.p+3=(qL m ch yb).jb from show¬m.p+3=m.p+2 by omega),if_neg (show¬m.p+3=(qL m ch yb).rb from show¬m.p+3=m.p by omega),zMy (λi hi=>by show m.p+4+m.n+5*i+4≠m.p+3;omega)];show As ((yb S.ys (m.p+3)).getD (qblk m _ _ (m.p+3)))=_;rw[zTr h S.ys (by omega)];grind [qblk]
abbrev q9_(x0:Mk):=Ak (Al atN (AF x0)) (Aa (AF x0))
abbrev q10_(x0:Nat)(x1:Mk):=AG (Ai (x0*3) (Al atN (AF x1)))
abbrev q11_(x0:Nat)(x1:Mk):=Az (AB 3 (Ai (x0*3) (Al atN (AF x1))))
abbrev q12_:=Ag [nl,iD 0,nl] 87 0 Ac Ac Aq
theorem run_k(m:Mk)(hm:MOk m)(ha:AOk m)(ch:List Nat)(yb:List (List Va)->Nat->Option Bk)(hy:YbOk m ch yb)(hR:∀a∈m.A,a.2≠[])(M K:Nat)(hM:∀a∈m.A,a.2.length+m.n<=M)(hY:YOk (qL m ch yb) K)(hK:(S1 m).ys.length<=K)(hC:(m.A.length+1)*(cE m.A.length M m.n)+1<=big)(st0:List Bk)(hp:st0.length=m.p)(hb:∀k,k<m.p->st0[k]?=As (m.base k)):Acts AA 134 [iD (m.n:Nat),atsD m.A,yCl m.cb] st0 ch (.tup [iD ((S2 m m.A.length).s:Nat),iD 0]) (lay (qL m ch yb) (S2 m m.A.length)):=by
 have hn:=ha.n;have hV:=ha.v;have hA:=ha.na;have hp9:=ha.p;have hl1:∀b,(st0++[b]).length=m.p+1:=λb=>by rw[AU,hp];rfl
 have hl2:∀b c,(st0++[b]++[c]).length=m.p+2:=λb c=>by rw[AU,hl1];rfl
 refine zAm (Tr2_ok m.p ch) mixed Tryz.func134 rfl (λk hk=>by
  by_cases h:k∈ch
  ·exact .inr h
  refine .inl ?_;show(decide (k<m.p)&&!ch.contains k)=Ab;rw[decide_eq_true (by omega)];simpa using h) ?_
 refine vA<|zAb [] [(6,iD 0),(7,iD 0)] ?_;refine zA<|vd [0,2,4,1,3,5,6,7]<|zA3 3 [(23,iD ↑(Ar m)),(25,iD ↑(Ar m)),(27,AO (Fn.func 135) [] [Ad (A7 m) 0])] ?_;refine zBa (Aj m) ((0:Int)<=(↑(Ar m):Int)/\(↑(Ar m):Int)<=(↑(Ar m):Int)/\(↑(32:Nat):Int)*(↑(Ar m):Int)<=(281474976710656:Int)/\(↑(Ar m):Int)<=(281474976710656:Int)/\0<3/\3=3) (Ag (repL (Ay (↑(Ar m):Int)) [iD 0,iD 0,q5_]) 64 3 Ab Ac<|kdOf<|zCt AA (Tr2 (Aj m) ch) 54) (Af 0 0 (Ay (↑(Ar m):Int)) (Ay (↑(Ar m):Int)*3) Ab) hp ?_ (hp:=by omega);refine zBa (Aj m+1) ((0:Int)<=(↑(Ar m):Int)/\(↑(Ar m):Int)<=(↑(Ar m):Int)/\(↑(24:Nat):Int)*(↑(Ar m):Int)<=(281474976710656:Int)/\(↑(Ar m):Int)<=(281474976710656:Int)/\0<1/\1=1) (Ag (repL (Ay (↑(Ar m):Int)) [nl]) 219 1 Ab Ac<|kdOf<|zCt AA (Tr2 (Aj m) ch) 216) (Af 0 0 (Ay (↑(Ar m):Int)) (Ay (↑(Ar m):Int)*1) Ab) (hl1 _) ?_ (hp:=by omega);refine zR 1 [] [] ((1=1/\1<=4/\1=1/\2<=4/\1=1/\4<=4/\True)/\Ab=Ab) [(28,Az [Af (Aj m) 0 (Ay (↑(Ar m):Int)) (Ay (↑(Ar m):Int)*3) Ab,Af (Aj m+1) 0 (Ay (↑(Ar m):Int)) (Ay (↑(Ar m):Int)*1) Ab,iD 0,AO (Fn.func 135) [] [Ad (A7 m) 0]])] ?_ (hc:=by decide);refine zAo 28 (Az [Af (Aj m) 0 (Ay (↑(Ar m):Int)) (Ay (↑(Ar m):Int)*3) Ab,Af (Aj m+1) 0 (Ay (↑(Ar m):Int)) (Ay (↑(Ar m):Int)*1) Ab,iD 0,AO (Fn.func 135) [] [Ad (A7 m) 0]]) (Az [Af (Aj m) 0 (Ar m) (Ar m*3) Ab,Af (Aj m+1) 0 (Ar m) (Ar m) Ab,iD 0,AO (Fn.func 135) [] [Ad (A7 m) 0]]) (by simp(disch:=omega) only[BA,Bn]) ?_;refine zBa (Aj m+2) (True) (Ag [Af (Aj m) 0 (Ar m) (Ar m*3) Ab,Af (Aj m+1) 0 (Ar m) (Ar m) Ab,iD 0,AO (Fn.func 135) [] [Ad (A7 m) 0]] 218 0 Ac Ac Aq) (Ad 0 0) (hl2 _ _) ?_;refine zA3 1 [(8,Ad (Aj m+2) 0)] ?_;refine zAk ?_ (by kernel_rfl);refine zC ?_;obtain⟨X,hX⟩:∃X,X=st0++[roB (AP m.n ⟨0,0,[]⟩),(⟨repL m.n [nlD],219,1,Ab,Ac, .sh⟩:Bk),joB m]:=⟨_,rfl⟩;have hXl:X.length=m.p+3:=by rw[hX,AU,hp];rfl
 have hXn:∀b∈X,namB (m.p+3) b:=zRr hm hp hb hX;refine next_st X ?_ ?_
 ·rw[hX,B6,B6];unfold roB;rw[zRz];exact congrArg (st0++·) (by kernel_rfl)
 have hac:∀a:List Nat×List Rw,(atN a).length=3:=λ_=>rfl;refine zCi<|zA<|vA<|zAb [0,2,23,24,25,26,27,28,29] [(30,(q9_ m)),(31,iD (Aa (AF m):Int)),(32,iD 0)] ?_;refine zJ<|zK (λ(a:Nat)=>fr 124 [(1,atsD<|AF m),(8,Ad (Aj m+2) 0),(30,(q9_ m)),(31,iD (Aa (AF m):Int)),(32,iD a)]) (λ(a:Nat)=>X) (λ(a:Nat)=>m.A.length-a) (λ(a:Nat)=>a<=m.A.length) 0 ?_ ?_ ?_
 ·omega
 ·refine vkp [1,8,30,31,32]
 intro a h1;rcases AQ a m.A.length with h2|h2
 ·have hg2:=zC0 hac m.A a h2;have hle:=zFw hac m.A a h2;have hne:=zDe hac (by decide) m.A;have ham:m.A.getD a Ae∈m.A:=by rw[A3,AS h2];exact A8 h2
  have hr1:=hR _ ham;obtain⟨hr2,hr3,hr4⟩:=ha.r _ ham;generalize m.A.getD a Ae=x at*;have hlen:=zKj (x.1.length:Nat) (x.2.map rowV) x.2.length;have hpos:0<x.2.length:=Ct.2 hr1;refine vA<|zAb [] [(33,bD<|decide ((a:Int)<(Aa (AF m):Int)))] ?_;refine zA<|vT ((a:Int)<(Aa (AF m):Int))<|vKB<|vA<|zR 2 [] [] (ix ↑a (Aa (AF m):Int) (Al atN (AF m)≠[])/\3<=Aa (Ai (a*3)<|Al atN<|AF m)) [(34,(q10_ a m)),(35,(q11_ a m))] ?_ (hc:=⟨⟨(by omega),⟨(by omega),(by assumption)⟩⟩,(by omega)⟩);refine zAo 35 (Az<|AB 3<|Ai (a*3)<|Al atN<|AF m) (Az<|atN x) (by simp(disch:=omega) only[hg2]) ?_;refine zBa (Aj m+3) (True) (q12_) (Ad 0 0) hXl ?_;refine zB6 (q12_) (Aj m+3) (Ac=Ac/\Ab=Ab/\3=3/\3<=3) (Ag [Ak (Ah (λ(v:Nat)=>iD v)<|Am x)<|Aa<|Am x,iD (Aa (Am x):Int),Ak (Ah rowV<|Aw x)<|Aa<|Aw x] 87 0 Ac Ac Aq) (zAt hXl) ⟨(by kernel_rfl),⟨(by kernel_rfl),(by omega)⟩⟩ ?_;rw[zEi hXl];refine zAb [33,34,35] [] ?_;refine vA<|zA3 1 [(36,Ad (Aj m+3) 1)] ?_;refine zAh (Ag [Ak (Ah (λ(v:Nat)=>iD v)<|Am x)<|Aa<|Am x,iD (Aa (Am x):Int),Ak (Ah rowV<|Aw x)<|Aa<|Aw x] 87 0 Ac Ac Aq) (Aj m+3) (Bb 2 2) (Az [iD (Aa (Am x):Int),Ak (Ah rowV<|Aw x)<|Aa<|Aw x]) (zAt hXl) (by simp) ?_;refine zTz [Az [iD (Aa (Am x):Int),Ak (Ah rowV<|Aw x)<|Aa<|Aw x]] (by exact hlen) ?_;refine zAb [10,36,37,38] [(39,bD ((Aa (Aw x):Int)==(0:Int)))] ?_;refine vEf ((Aa (Aw x):Int)) ((0:Int))<|zT<|zD<|vN<|zB rfl<|zR 2 [] [] (i6 (↑a+1)) [(32,iD (↑a+1)),(40,iD (↑a+1))] ?_;refine zAk ?_ (by kernel_rfl);refine zC<|⟨a+1,h2,by omega,?_⟩;rw[zM9];refine zA4 (m.p+2<m.p+3/\True) hXl hXn (zGt _ _) ?_ ⟨by omega,trivial⟩;refine vkp [1,8,30,31,32]
 obtain rfl:a=m.A.length:=by omega
 refine vA<|zAb [] [(33,bD<|decide ((Aa (AF m):Int)<(Aa (AF m):Int)))] ?_;refine zA<|vF ((Aa (AF m):Int)<(Aa (AF m):Int))<|vZ2<|vA<|zA3 1 [(11,nl)] ?_;refine zAk ?_ (by kernel_rfl);refine zC ?_;rw[hX];refine zZ1 m st0 11 hp hb (by kernel_rfl) [30,31,32,33] ([Uk,atsD m.A]++AP 6 Uk++[.own (m.p+2) 0,Uk,Uk,.osl (m.p+3) 0 0 0 Ab]++AP 112 Uk) (by kernel_rfl) ?_;refine zA<|vA<|zAb [0,1,2,3,4,5,9,10,12,19,21,23,24,25,26,27,28,29,30,31,32,33,34,35,36,37,38,39,40,103] [(41,(q9_ m)),(42,iD (Aa (AF m):Int)),(43,iD 0)] ?_;refine zJ<|zK (λ(a:Nat)=>fr 124 [(8,Ad (Aj m+2) 0),(11,Af (Aj m+3) 0 a a Ab),(22,Uk),(41,(q9_ m)),(42,iD (Aa (AF m):Int)),(43,iD a),(102,Uk),(104,Uk),(105,Uk),(106,Uk),(107,Uk),(108,Uk),(109,Uk),(110,Uk),(111,Uk),(112,Uk),(113,Uk),(114,Uk),(115,Uk),(116,Uk),(117,Uk),(118,Uk),(119,Uk),(120,Uk),(121,Uk),(122,Uk),(123,Uk)]) (λ(a:Nat)=>qlay m (ats a m.vs) (AK a) a) (λ(a:Nat)=>m.A.length-a) (λ(a:Nat)=>a<=m.A.length) 0 ?_ ?_ ?_
 ·omega
 ·rw[show ats 0 m.vs=λ_=>[]from rfl,show AK 0=[]from rfl];refine vkp [8,11,41,42,43]
 intro a h1;rcases AQ a m.A.length with h2|h2
 ·have hg2:=zC0 hac m.A a h2;have hle:=zFw hac m.A a h2;have hne:=zDe hac (by decide) m.A;have ham:m.A.getD a Ae∈m.A:=by rw[A3,AS h2];exact A8 h2
  have hr1:=hR _ ham;obtain⟨hr2,hr3,hr4⟩:=ha.r _ ham;have hql:(qlay m (ats a m.vs) (AK a) a).length=m.p+4+m.n+5*a:=zKm;have hql1:∀b,(qlay m (ats a m.vs) (AK a) a++[b]).length=m.p+4+m.n+5*a+1:=λb=>by rw[AU,hql];rfl
  have hvp:=hV.asc a h2;have hvt:=hV.lt a h2;have hvl:(m.A.getD a Ae).1.length<=32:=ha.vl h2;have hix:=ixp_all m a;change (m.A.getD a Ae).1.Pairwise _ at hvp;change ∀w∈(m.A.getD a Ae).1,w<m.n at hvt;change ixp m a (m.A.getD a Ae).1=_ at hix;generalize hgx:m.A.getD a Ae=x at hg2 hne hle ham hr1 hr2 hr3 hr4 hvl hvp hvt hix⊢;refine vA<|zAb [] [(44,bD<|decide ((a:Int)<(Aa (AF m):Int)))] ?_;refine zA<|vT ((a:Int)<(Aa (AF m):Int))<|vKB<|vA<|zR 2 [] [] (ix ↑a (Aa (AF m):Int) (Al atN (AF m)≠[])/\3<=Aa (Ai (a*3)<|Al atN<|AF m)) [(45,(q10_ a m)),(46,(q11_ a m))] ?_ (hc:=⟨⟨(by omega),⟨(by omega),(by assumption)⟩⟩,(by omega)⟩);refine zAo 46 (Az<|AB 3<|Ai (a*3)<|Al atN<|AF m) (Az<|atN x) (by simp(disch:=omega) only[hg2]) ?_;refine zBa (Aj m+4+Ar m+5*a) (True) (q12_) (Ad 0 0) hql ?_;refine zB6 (q12_) (Aj m+4+Ar m+5*a) (Ac=Ac/\Ab=Ab/\3=3/\3<=3) (Ag [Ak (Ah (λ(v:Nat)=>iD v)<|Am x)<|Aa<|Am x,iD (Aa (Am x):Int),Ak (Ah rowV<|Aw x)<|Aa<|Aw x] 87 0 Ac Ac Aq) (zAt hql) ⟨(by kernel_rfl),⟨(by kernel_rfl),(by omega)⟩⟩ ?_;rw[zEi hql];refine zAb [44,45,46] [] ?_;refine vA<|zA3 1 [(47,Ad (Aj m+4+Ar m+5*a) 0)] ?_;refine zAh (Ag [Ak (Ah (λ(v:Nat)=>iD v)<|Am x)<|Aa<|Am x,iD (Aa (Am x):Int),Ak (Ah rowV<|Aw x)<|Aa<|Aw x] 87 0 Ac Ac Aq) (Aj m+4+Ar m+5*a) (Bb 1 3) (Ak (Ah (λ(v:Nat)=>iD v)<|Am x)<|Aa<|Am x) (zAt hql) (by simp) ?_;refine zA3 1 [(49,iD (Aa (Am x):Int))] ?_;refine zBa (Aj m+4+Ar m+5*a+1) ((0:Int)<=(Aa (Am x):Int)/\(Aa (Am x):Int)<=(Aa (Am x):Int)/\(↑(8:Nat):Int)*(Aa (Am x):Int)<=(281474976710656:Int)/\(Aa (Am x):Int)<=(281474976710656:Int)/\0<1/\1=1) (Ag (repL (Ay (Aa (Am x):Int)) [iD 0]) 3 1 Ab Ac<|kdOf<|zCt AA (Tr2 (Aj m) ch) 23) (Af 0 0 (Ay (Aa (Am x):Int)) (Ay (Aa (Am x):Int)*1) Ab) (hql1 _) ?_ (hp:=by omega);refine zF1 (qlay m (ats a m.vs) (AK a) a++[acB x]++[⟨rgD 0++AP (x.1.length-0) (iD 0),3,1,Ab,Ac,.plain⟩]) ?_ ?_
  ·rw[zFc];rfl
  refine zA3 1 [(14,Af (Aj m+4+Ar m+5*a+1) 0 (Ay (Aa (Am x):Int)) (Ay (Aa (Am x):Int)*1) Ab)] ?_;refine zAo 14 (Af (Aj m+4+Ar m+5*a+1) 0 (Ay (Aa (Am x):Int)) (Ay (Aa (Am x):Int)*1) Ab) (Af (Aj m+4+Ar m+5*a+1) 0 (Aa<|Am x) (Aa<|Am x) Ab) (by simp(disch:=omega) only[BA,Bn]) ?_;refine zAb [47,48,49,50] [] ?_;refine zA<|vA<|zAb [51] [(52,iD (Aa (Am x):Int)),(53,iD 0)] ?_;refine zJ<|zK (λ(i:Nat)=>fr 124 [(8,Ad (Aj m+2) 0),(11,Af (Aj m+3) 0 a a Ab),(13,Ad (Aj m+4+Ar m+5*a) 0),(14,Af (Aj m+4+Ar m+5*a+1) 0 (Aa<|Am x) (Aa<|Am x) Ab),(22,Uk),(41,(q9_ m)),(42,iD (Aa (AF m):Int)),(43,iD a),(52,iD (Aa (Am x):Int)),(53,iD i),(102,Uk),(104,Uk),(105,Uk),(106,Uk),(107,Uk),(108,Uk),(109,Uk),(110,Uk),(111,Uk),(112,Uk),(113,Uk),(114,Uk),(115,Uk),(116,Uk),(117,Uk),(118,Uk),(119,Uk),(120,Uk),(121,Uk),(122,Uk),(123,Uk)]) (λ(i:Nat)=>qlay m (ats a m.vs) (AK a) a++[acB x]++[⟨rgD i++AP (x.1.length-i) (iD 0),3,1,Ab,Ac,.plain⟩]) (λ(i:Nat)=>x.1.length-i) (λ(i:Nat)=>i<=x.1.length) 0 ?_ ?_ ?_
  ·omega
  ·refine vkp [8,11,13,14,41,42,43,52,53]
  intro i h3;rcases AQ i x.1.length with h4|h4
  ·have hl2:(qlay m (ats a m.vs) (AK a) a++[acB x]).length=m.p+4+m.n+5*a+1:=hql1 _;refine vA<|zAb [] [(54,bD<|decide ((i:Int)<(Aa (Am x):Int)))] ?_;refine zA<|vT ((i:Int)<(Aa (Am x):Int))<|vKB<|vA<|zAb [54,55] [(15,iD i)] ?_;refine zB rfl<|zR 4 [] [] ((0:Int)<=(i:Int)/\(i:Int)<(Aa (Am x):Int)) [(56,Af (Aj m+4+Ar m+5*a+1) 0 (Aa<|Am x) (Aa<|Am x) Ab),(57,iD i),(58,iD i),(59,Ad (Aj m+4+Ar m+5*a+1) (0+Ay (i:Int)*1))] ?_;refine zAo 59 (Ad (Aj m+4+Ar m+5*a+1) (0+Ay (i:Int)*1)) (Ad (Aj m+4+Ar m+5*a+1) i) (by simp(disch:=omega) only[BA,Bn,BE]) ?_;refine st_puta (Ag (rgD i++AP (Aa (Am x)-i) (iD 0)) 3 1 Ab Ac Aq) (Aj m+4+Ar m+5*a+1) (Ac=Ac/\Ab=Ab/\1=1/\i+1<=Aa (rgD i++AP (Aa (Am x)-i) (iD 0))) (Ag (setAt (rgD i++AP (Aa (Am x)-i) (iD 0)) i<|cellsOf<|iD i) 3 1 Ab Ac Aq) (by kernel_rfl) (zAt hl2) ⟨(by kernel_rfl),⟨(by kernel_rfl),⟨(by kernel_rfl),(by(simp;omega))⟩⟩⟩ ?_;rw[zEi hl2];refine zF1 (qlay m (ats a m.vs) (AK a) a++[acB x]++[⟨rgD (i+1)++AP (x.1.length-(i+1)) (iD 0),3,1,Ab,Ac,.plain⟩]) ?_ ?_
   ·exact congrArg (λcs=>qlay m (ats a m.vs) (AK a) a++[acB x]++[(⟨cs,3,1,Ab,Ac, .plain⟩:Bk)]) (co_set h4)
   refine zAk ?_ (by kernel_rfl);refine zD<|vN<|zB rfl<|zR 2 [] [] (i6 (↑i+1)) [(53,iD (↑i+1)),(60,iD (↑i+1))] ?_;refine zAk ?_ (by kernel_rfl);refine zC<|⟨i+1,by omega,by omega,?_⟩;refine vkp [8,11,13,14,41,42,43,52,53]
  obtain rfl:i=x.1.length:=by omega
  rw[Nat.sub_self,List.replicate_zero,BZ];have hl1:=hql1 (acB x);refine vA<|zAb [] [(54,bD<|decide ((Aa (Am x):Int)<(Aa (Am x):Int)))] ?_;refine zA<|vF ((Aa (Am x):Int)<(Aa (Am x):Int))<|vZ2<|vA<|zA3 1 [(62,Ad (Aj m+4+Ar m+5*a) 1)] ?_;have htn:=trieNew_c x.1.length x.2 (by omega) hr2 hr3 hr4;refine zAh (Ag [Ak (Ah (λ(v:Nat)=>iD v)<|Am x)<|Aa<|Am x,iD (Aa (Am x):Int),Ak (Ah rowV<|Aw x)<|Aa<|Aw x] 87 0 Ac Ac Aq) (Aj m+4+Ar m+5*a) (Bb 2 2) (Az [iD (Aa (Am x):Int),Ak (Ah rowV<|Aw x)<|Aa<|Aw x]) (zA2<|zAt hql) (by simp) ?_;refine zA3 1 [(64,Af (Aj m+4+Ar m+5*a+1) 0 (Aa<|Am x) (Aa<|Am x) Ab)] ?_;refine st_callo 144 [.agg [iD (x.1.length:Nat),.row (x.2.map rowV) x.2.length],.osl (m.p+4+m.n+5*a+1) 0 x.1.length x.1.length Ab] _ [m.p+4+m.n+5*a+1] (by kernel_rfl) (frz_args (zAt hl1) rfl<|Bo (by simp)) htn ?_;rw[setFz_app hl1];have hl2:(qlay m (ats a m.vs) (AK a) a++[acB x]++[coB x.1.length]).length=m.p+4+m.n+5*a+2:=by rw[AU,hl1];rfl
  have hl3:(qlay m (ats a m.vs) (AK a) a++[acB x]++[coB x.1.length]++[teB (zCa x.1.length x.2)]).length=m.p+4+m.n+5*a+3:=by rw[AU,hl2];rfl
  have hit:=(iter_a (zCa x.1.length x.2)).new0 (st:=qlay m (ats a m.vs) (AK a) a++[acB x]++[coB x.1.length]++[teB (zCa x.1.length x.2)]) (λI w β vs h=>h) (λb hb=>by
   simp only[Bz,B5,or_false]at hb;rcases hb with rfl|rfl
   ·exact .inr λk=>by simp only[zX,refs,A6]
   exact zA8 (zBd _))
  rw[hl3]at hit;change Acts _ _ _ _ _ (.own (m.p+4+m.n+5*a+4) 0) _ at hit;refine zR 3 [] [] (0<2/\1<2) [(61,D.tup [Az [Ak (Al lvC<|zCa (Aa<|Am x)<|Aw x)<|Aa<|zCa (Aa<|Am x)<|Aw x],iD 0]),(66,Az [Ak (Al lvC<|zCa (Aa<|Am x)<|Aw x)<|Aa<|zCa (Aa<|Am x)<|Aw x]),(67,iD 0)] ?_;refine zBa (Aj m+4+Ar m+5*a+2) (True) (q8_) (Ad 0 0) hl2 ?_;refine zB6 (q8_) (Aj m+4+Ar m+5*a+2) (Ac=Ac/\Ab=Ab/\1=1/\1<=1) (Ag [Ak (Al lvC<|zCa (Aa<|Am x)<|Aw x)<|Aa<|zCa (Aa<|Am x)<|Aw x] 222 0 Ac Ac Aq) (zAt hl2) ⟨(by kernel_rfl),⟨(by kernel_rfl),(by omega)⟩⟩ ?_;rw[zEi hl2];refine zAb [14,52,53,54,61,62,63,64,65,66,67] [(17,iD 0)] ?_;refine zA<|vA<|zAb [68] [(69,bD Ac)] ?_;refine vf<|vK<|vA<|zAh (Ag [Ak (Al lvC<|zCa (Aa<|Am x)<|Aw x)<|Aa<|zCa (Aa<|Am x)<|Aw x] 222 0 Ac Ac Aq) (Aj m+4+Ar m+5*a+2) (Bb 1 1) (Az [Ak (Al lvC<|zCa (Aa<|Am x)<|Aw x)<|Aa<|zCa (Aa<|Am x)<|Aw x]) (zAt hl2) (by simp) ?_;refine zZ [] [] [Az [Ak (Al lvC<|zCa (Aa<|Am x)<|Aw x)<|Aa<|zCa (Aa<|Am x)<|Aw x]] [Az [Ak (Al lvC<|zCa (Aa<|Am x)<|Aw x)<|Aa<|zCa (Aa<|Am x)<|Aw x]] (AX _) (by exact hit) ?_;refine zAb [16,17,69,71,72] [(18,Ad (Aj m+4+Ar m+5*a+4) 0)] ?_;refine vA<|zA3 2 [(73,Af (Aj m+3) 0 a a Ab),(74,Ad (Aj m+4+Ar m+5*a+4) 0)] ?_;refine zF1 (qlay m (ats a m.vs) (AK a) (a+1)) ?_ ?_
  ·grind [ql_snoc]
  have hqn:∀ix al,(qlay m ix al (a+1)).length=m.p+4+m.n+5*(a+1):=λ_ _=>zKm;refine zBa (Aj m+4+Ar m+5*(a+1)) ((1=1/\1<=1/\True)/\0<1/\1=1/\1<=16777216/\1<=9223372036854775807) (Ag [Ad (Aj m+4+Ar m+5*a+4) 0] 225 1 Ab Ac AW) (Af 0 0 1 1 Ab) (hqn _ _) ?_ (hp:=⟨⟨(by kernel_rfl),⟨(by omega),trivial⟩⟩,(by omega)⟩);refine st_appo1 (ptB m<|AK a) (tmB m a) 73 (m.p+3) (m.p+4+m.n+5*(a+1)) (Ab=Ab/\(ptB m<|AK a).cells.length=a*1/\a=a*1/\225=225/\1=1/\1=1/\0<1/\0<8/\225=225/\(a+1)*8<=140737488355328/\1=1/\Ac=Ac/\(zCt AA (Tr2 m.p ch) 219=Ac\/Ab=Ab)) (m.p+2≠m.p+3/\m.p+4+m.n+5*a≠m.p+3/\m.p+4+m.n+5*a+4≠m.p+3/\m.p+4+m.n+5*a+4≠m.p+3/\m.p+4+m.n+5*(a+1)≠m.p+3/\True) ⟨(((AK a).map λi=>Ad (m.p+4+m.n+5*i+4) 0)++[Ad (m.p+4+m.n+5*a+4) 0]).map<|zAl (m.p+3),225,1,Ab,Ac,.sh⟩ (.osl (m.p+3) 0 (a+1) ((a+1)*1) Ab) 11 (.osl (m.p+3) 0 a a Ab) (by kernel_rfl) (zA2 ql_al) (zAt<|hqn _ _) ⟨rfl,by simp,by omega,rfl,rfl,rfl,by decide,by decide,rfl,by omega,rfl,rfl,.inr rfl⟩ (by kernel_rfl) zQw (by kernel_rfl) ⟨by omega,by omega,by omega,by omega,by omega,trivial⟩ (zGt _ _ _<|AV _) ?_;rw[kill1 (k:=m.p+3) (by rw[hqn];omega) (tm_kill (by omega)),zXo (k:=m.p+3) (by omega)];refine zF1 (qlay m (ats a m.vs) (AK (a+1)) (a+1)++[tmB m a]) ?_ ?_
  ·grind [ql_all,AK,BX]
  refine zA3 1 [(11,Af (Aj m+3) 0 (a+1) ((a+1)*1) Ab)] ?_;refine zAo 11 (Af (Aj m+3) 0 (a+1) ((a+1)*1) Ab) (Af (Aj m+3) 0 (a+1) (a+1) Ab) (by simp(disch:=omega) only[Bn]) ?_;refine zAk ?_ (by kernel_rfl);refine zC ?_;have hrl:∀i∈AK (a+1),i<a+1:=λi hi=>Bx.1 hi;refine zF7 [74,75,76] (AP 8 Uk++[.own (m.p+2) 0,Uk,Uk,.osl (m.p+3) 0 (a+1) (a+1) Ab,Uk,.own (m.p+4+m.n+5*a) 0]++AP 4 Uk++[.own (m.p+4+m.n+5*a+4) 0]++AP 22 Uk++[atsD m.A,iD (m.A.length:Nat),iD (a:Nat)]++AP 80 Uk) (m.p+2<m.p+4+m.n+5*(a+1)/\m.p+3<m.p+4+m.n+5*(a+1)/\m.p+4+m.n+5*a<m.p+4+m.n+5*(a+1)/\m.p+4+m.n+5*a+4<m.p+4+m.n+5*(a+1)/\True) (hqn _ _) (ql_nam hm hrl (by rw[<-ixp_nil];exact ixp_lt m a [])) (λk hk=>zGt _ _ _ (by omega)) (by kernel_rfl) (by kernel_rfl) ⟨by omega,by omega,by omega,by omega,trivial⟩ ?_;have hqa:∀ix al,(qlay m ix al (a+1))[m.p+4+m.n+5*a]?=As (acB x):=λix al=>by
   rw[ql_atm (by omega)];simp_all [qatm]
  refine vA<|zA3 1 [(77,Ad (Aj m+4+Ar m+5*a) 0)] ?_;refine zAh (Ag [Ak (Ah (λ(v:Nat)=>iD v)<|Am x)<|Aa<|Am x,iD (Aa (Am x):Int),Ak (Ah rowV<|Aw x)<|Aa<|Aw x] 87 0 Ac Ac Aq) (Aj m+4+Ar m+5*a) (Bb 1 3) (Ak (Ah (λ(v:Nat)=>iD v)<|Am x)<|Aa<|Am x) (hqa _ _) (by simp) ?_;refine zAb [0,1,2,3,4,5,9,10,12,13,14,15,16,17,19,21,23,24,25,26,27,28,29,30,31,32,33,34,35,36,37,38,39,40,44,45,46,47,48,49,50,51,52,53,54,55,56,57,58,59,60,61,62,63,64,65,66,67,68,69,70,71,72,73,74,75,76,77,103] [(79,iD (Aa (Am x):Int)),(80,iD 0)] ?_;refine zJ<|zK (λ(t:Nat)=>fr 124 [(6,Uk),(7,Uk),(8,Ad (Aj m+2) 0),(11,Af (Aj m+3) 0 (a+1) (a+1) Ab),(18,Ad (Aj m+4+Ar m+5*a+4) 0),(22,Uk),(41,atsD<|AF m),(42,iD (Aa (AF m):Int)),(43,iD a),(78,Ak (Ah (λ(v:Nat)=>iD v)<|Am x)<|Aa<|Am x),(79,iD (Aa (Am x):Int)),(80,iD t),(101,Uk),(102,Uk),(104,Uk),(105,Uk),(106,Uk),(107,Uk),(108,Uk),(109,Uk),(110,Uk),(111,Uk),(112,Uk),(113,Uk),(114,Uk),(115,Uk),(116,Uk),(117,Uk),(118,Uk),(119,Uk),(120,Uk),(121,Uk),(122,Uk),(123,Uk)]) (λ(t:Nat)=>qlay m (ixp m a<|x.1.take t) (AK (a+1)) (a+1)) (λ(t:Nat)=>x.1.length-t) (λ(t:Nat)=>t<=x.1.length) 0 ?_ ?_ ?_
  ·omega
  ·rw[List.take_zero,ixp_nil];refine vkp [8,11,18,41,42,43,78,79,80]
  intro t ht;rcases AQ t x.1.length with ht2|ht2
  ·have hhd:=zAq (λv:Nat=>iD (v:Nat)) x.1 0 t ht2;have hne1:(x.1.map λv=>iD (v:Nat))≠[]:=zAc;have htk:=zBt x.1 0 t ht2;have hun:x.1.getD t 0∉x.1.take t:=zFx (hvp.imp λh=>Nat.ne_of_lt h) ht2;have hum:x.1.getD t 0<m.n:=hvt _ (by rw[A3,AS ht2];exact A8 ht2);have hsu:=ixp_succ m a (x.1.take t) (x.1.getD t 0) hun;rw[<-htk]at hsu;have hil:=ixp_len m a (x.1.take t) (x.1.getD t 0);generalize x.1.getD t 0=u at*;generalize hix0:ixp m a (x.1.take t)=ix at*;refine vA<|zAb [] [(81,bD<|decide ((t:Int)<(Aa (Am x):Int)))] ?_;refine zA<|vT ((t:Int)<(Aa (Am x):Int))<|vKB<|vA<|zR 1 [] [] (YtjcofbkhoeockaaGreatDoor.ix ↑t (Aa (Am x):Int) (Ah (λ(v:Nat)=>iD v) (Am x)≠[])) [(82,AG<|Ai (Ay (t:Int)*1)<|Ah (λ(v:Nat)=>iD v)<|Am x)] ?_ (hc:=⟨(by omega),⟨(by omega),(by assumption)⟩⟩);refine zAo 82 (AG<|Ai (Ay (t:Int)*1)<|Ah (λ(v:Nat)=>iD v)<|Am x) (AG<|Ai t<|Ah (λ(v:Nat)=>iD v)<|Am x) (by simp(disch:=omega) only[BA,Bn]) ?_;refine zR 1 [] [] (0<Aa (Ai t<|Ah (λ(v:Nat)=>iD v)<|Am x)) [(83,A9 (Ai t<|Ah (λ(v:Nat)=>iD v)<|Am x) Uk)] ?_ (hc:=by(simp;omega));refine zAo 83 (A9 (Ai t<|Ah (λ(v:Nat)=>iD v)<|Am x) Uk) (iD u) (by simp(disch:=omega) only[hhd]) ?_;refine zAb [81,82,83] [(20,iD u)] ?_;refine zA6 [0,1,2,4,5,6,7,9,12,3,8,10,11,13] [(14,[(3,100000)],[15,16])] rfl ?_;refine zR 9 [] [] (True/\True) [(84,Ad (Aj m+2) 0),(85,Ad (Aj m+2) 0),(86,Ad (Aj m+2) 1),(88,iD u),(89,Ad (Aj m+2) 0),(90,Ad (Aj m+2) 0),(91,Ad (Aj m+2) 1),(93,iD u),(96,Ad (Aj m+4+Ar m+5*a+4) 0)] ?_ (hc:=by decide);refine zAh (Ag [Af (Aj m) 0 (Ar m) (Ar m*3) Ab,Af (Aj m+1) 0 (Ar m) (Ar m) Ab,iD ↑(0:Nat),AO (Fn.func 135) [] [Ad (A7 m) 0]] 218 0 Ac Ac Aq) (Aj m+2) (Bb 1 3) (Af (Aj m+1) 0 (Ar m) (Ar m) Ab) ql_j (by simp) ?_;refine zAh (Ag [Af (Aj m) 0 (Ar m) (Ar m*3) Ab,Af (Aj m+1) 0 (Ar m) (Ar m) Ab,iD ↑(0:Nat),AO (Fn.func 135) [] [Ad (A7 m) 0]] 218 0 Ac Ac Aq) (Aj m+2) (Bb 1 3) (Af (Aj m+1) 0 (Ar m) (Ar m) Ab) ql_j (by simp) ?_;refine zR 1 [] [] ((0:Int)<=(u:Int)/\(u:Int)<↑(Ar m)) [(94,Ad (Aj m+1) (0+Ay (u:Int)*1))] ?_;refine zAo 94 (Ad (Aj m+1) (0+Ay (u:Int)*1)) (Ad (Aj m+1) u) (by simp(disch:=omega) only[BA,Bn,BE]) ?_;refine zAh (Ag (Ah (ltP m ix)<|AK<|Ar m) 219 1 Ab Ac AW) (Aj m+1) (Bb 1<|Aa<|Ai u<|Ah (ltP m ix)<|AK<|Ar m) (A9 (Ai u<|Ah (ltP m ix)<|AK<|Ar m) Uk) ql_t (by(simp;omega)) ?_;rw[hd_lt m ix u hum];refine zBa (Aj m+4+Ar m+5*(a+1)) ((1=1/\1<=1/\True)/\0<1/\1=1/\1<=16777216/\1<=9223372036854775807) (Ag [Ad (Aj m+4+Ar m+5*a+4) 0] 225 1 Ab Ac AW) (Af 0 0 1 1 Ab) (hqn ix _) ?_ (hp:=⟨⟨(by kernel_rfl),⟨(by omega),trivial⟩⟩,(by omega)⟩);refine zAk ?_ (by kernel_rfl);have hqt:(qlay m ix (AK (a+1)) (a+1)++[tmB m a]).length=m.p+4+m.n+5*(a+1)+1:=by rw[AU,hqn];rfl
   refine zBy rfl rfl ?_ (hf:=zDr (λx hx=>by rw[hqt];simp at hx;subst hx;show _<=100000;omega));refine zLs (Ag (Ah (λ(i:Nat)=>Ad (Aj m+4+Ar m+5*i+4) 0)<|ix u) 225 1 Ab Ac AW) (Ag [Ad (Aj m+4+Ar m+5*a+4) 0] 225 1 Ab Ac AW) 95 (Aj m+4+u) (Aj m+4+Ar m+5*(a+1)) (Ab=Ab/\Aa (Ah (λ(i:Nat)=>Ad (Aj m+4+Ar m+5*i+4) 0)<|ix u)=Aa (ix u)*1/\Aa (ix u)=Aa (ix u)*1/\225=225/\1=1/\1=1/\0<1/\0<8/\225=225/\(Aa (ix u)+1)*8<=140737488355328/\1=1/\Bc AW=Ac/\(zCt AA (Tr2 (Aj m) ch) 219=Ac\/Bf AW=Ab)) (Aj m+2≠Aj m+4+u/\Aj m+3≠Aj m+4+u/\Aj m+4+Ar m+5*a+4≠Aj m+4+u/\Aj m+2≠Aj m+4+u/\Aj m+2≠Aj m+4+u/\Aj m+2≠Aj m+4+u/\Aj m+1≠Aj m+4+u/\Aj m+2≠Aj m+4+u/\Aj m+2≠Aj m+4+u/\Aj m+2≠Aj m+4+u/\Aj m+1≠Aj m+4+u/\Aj m+1≠Aj m+4+u/\Aj m+4+Ar m+5*a+4≠Aj m+4+u/\Aj m+4+Ar m+5*(a+1)≠Aj m+4+u/\True) (Ag (Ah (zAl (Aj m+4+u)) (Ah (λ(i:Nat)=>Ad (Aj m+4+Ar m+5*i+4) 0) (ix u)++[Ad (Aj m+4+Ar m+5*a+4) 0])) 225 1 Ab Ac AW) (Af (Aj m+4+u) 0 (Aa (ix u)+1) ((Aa (ix u)+1)*1) Ab) (by kernel_rfl) (zA2<|ql_v hum) (zAt<|hqn ix _) ?_ (by kernel_rfl) ⟨(by omega),⟨(by omega),⟨(by omega),⟨(by omega),⟨(by omega),⟨(by omega),⟨(by omega),⟨(by omega),⟨(by omega),⟨(by omega),⟨(by omega),⟨(by omega),⟨(by omega),⟨(by omega),trivial⟩⟩⟩⟩⟩⟩⟩⟩⟩⟩⟩⟩⟩⟩ ?_ ?_
   ·exact⟨rfl,by simp,by omega,rfl,rfl,rfl,by decide,by decide,rfl,by omega,rfl,rfl, .inr rfl⟩
   ·grind [zGt]
   rw[kill1 (k:=m.p+4+u) (by rw[hqn];omega) (tm_kill (by omega)),zXo (k:=m.p+4+u) (by omega)];refine zAk ?_ (by kernel_rfl);refine zDo (by rw[AU,AU,BP,Bh];exact AV _) (zDi 3 100000 (joB m) (m.p+2) (0<3) (.osl (m.p+1) 0 m.n m.n Ab) (by kernel_rfl) (by
    rw[zD9 (by rw[AU,BP,Bh,hqn];show _+1<=100000;omega)];exact zA2 (ql_mj hm hum _)) (by decide) (by kernel_rfl)) ?_
   refine zR 1 [] [] ((0:Int)<=(u:Int)/\(u:Int)<↑(Ar m)) [(99,Ad (Aj m+1) (0+Ay (u:Int)*1))] ?_;refine zAo 99 (Ad (Aj m+1) (0+Ay (u:Int)*1)) (Ad (Aj m+1) u) (by simp(disch:=omega) only[BA,Bn,BE]) ?_;refine zB6 (Ag (Ah (zAl (Aj m+4+u))<|Ah (ltP m ix)<|AK<|Ar m) 219 1 Ab Ac AW) (Aj m+1) (Ac=Ac/\Ab=Ab/\1=1/\u+1<=Aa (Ah (zAl (Aj m+4+u))<|Ah (ltP m ix)<|AK<|Ar m)) (Ag (setAt (Ah (zAl (Aj m+4+u))<|Ah (ltP m ix)<|AK<|Ar m) u<|cellsOf<|Af (Aj m+4+u) 0 (Aa (ix u)+1) ((Aa (ix u)+1)*1) Ab) 219 1 Ab Ac AW) (zA2<|ql_mk hm hum _) ⟨(by kernel_rfl),⟨(by kernel_rfl),⟨(by kernel_rfl),(by(simp;omega))⟩⟩⟩ ?_;refine zF1 (qlay m (ixp m a<|x.1.take (t+1)) (AK (a+1)) (a+1)++[tmB m a]) ?_ ?_
   ·rw[zBh (by rw[BP,Bh,hqn];omega),<-hsu,Bn];exact congrArg (λs=>s++[tmB m a]) (ql_app hm hum a)
   refine zAk ?_ (by kernel_rfl);refine zBv<|zD<|zC<|zF7 (20::Cu 84 16) (AP 8 Uk++[.own (m.p+2) 0,Uk,Uk,.osl (m.p+3) 0 (a+1) (a+1) Ab]++AP 6 Uk++[.own (m.p+4+m.n+5*a+4) 0]++AP 22 Uk++[atsD m.A,iD (m.A.length:Nat),iD (a:Nat)]++AP 34 Uk++[.row (x.1.map λv=>iD (v:Nat)) x.1.length,iD (x.1.length:Nat),iD (t:Nat)]++AP 43 Uk) (m.p+2<m.p+4+m.n+5*(a+1)/\m.p+3<m.p+4+m.n+5*(a+1)/\m.p+4+m.n+5*a+4<m.p+4+m.n+5*(a+1)/\True) (hqn _ _) (ql_nam hm hrl<|ixp_lt m a _) (λk hk=>zGt _ _ _ (by omega)) (by kernel_rfl) (by kernel_rfl) ⟨by omega,by omega,by omega,trivial⟩ ?_;refine zB rfl<|zR 2 [] [] (i6 (↑t+1)) [(80,iD ↑(t+1)),(100,iD ↑(t+1))] ?_;refine zAk ?_ (by kernel_rfl);refine zC<|⟨t+1,by omega,by omega,?_⟩;refine vkp [8,11,18,41,42,43,78,79,80]
  obtain rfl:t=x.1.length:=by omega
  rw[Bq,hix];refine vA<|zAb [] [(81,bD<|decide ((Aa (Am x):Int)<(Aa (Am x):Int)))] ?_;refine zA<|vF ((Aa (Am x):Int)<(Aa (Am x):Int))<|vY2<|zD<|vN<|zB rfl<|zR 2 [] [] (i6 (↑a+1)) [(43,iD ↑(a+1)),(101,iD ↑(a+1))] ?_;refine zAk ?_ (by kernel_rfl);refine zC<|⟨a+1,by omega,by omega,?_⟩;refine vkp [8,11,41,42,43]
 obtain rfl:a=m.A.length:=by omega
 have hL:=qL_ok hm ha hy;have hat:=itS_at ha hR;have hbd:=itS_bd ha;have hsz:=itS_sz ha hM;have hc0:1*cE m.A.length M m.n<=(m.A.length+1)*cE m.A.length M m.n:=B7 _ (by omega);have hc1:0+cE m.A.length M m.n+1<=big:=by omega
 have hc2:∀a,a<m.A.length->((S0 m).its.getD a Ae).s+cE m.A.length M m.n<=big:=λa h=>by
  grind
 have hsp:=zJf hV m.n 0 (S0 m) (by omega) hat (by simp);have hco:=zQ3 hV M m.n 0 (S0 m) (by omega) hat (by simp) hsz hc1 hc2;have hex:=extend_a (qL m ch yb) hL hV M K hY (by show m.n<=_;omega) (by show m.A.length<=_;omega) m.n 0 (S0 m) rfl hat List.length_replicate hbd hsz hc1 hc2 hK;change Acts _ _ [.own (m.p+2) 0,iD (0:Nat)] _ ch (bD Ab) (lay (qL m ch yb) (S2 m 0))at hex;rw[<-qL_lay hy];focus
  refine vA<|zAb [] [(44,bD<|decide ((Aa (AF m):Int)<(Aa (AF m):Int)))] ?_;refine zA<|vF ((Aa (AF m):Int)<(Aa (AF m):Int))<|vZ2<|vA<|zA3 1 [(102,Ad (Aj m+2) 0)] ?_;refine zJp [] [] [Ad (Aj m+2) 0,iD 0] [Ad (Aj m+2) 0,iD 0] (¬Aj m+2∈ch/\¬Aj m+3∈ch/\¬Aj m+2∈ch/\True) (by kernel_rfl) trivial (AX _) (by exact hex) (by kernel_rfl) ?_ ?_ ?_;rotate_left;rotate_left;refine zAb [41,42,43,44,102,103] [] ?_;refine zA<|vA<|zAb [11] [(104,Af (Aj m+3) 0 (Aa<|AF m) (Aa<|AF m) Ab),(105,iD (Aa (AF m):Int)),(106,iD 0)] ?_;refine zJ ?_;rotate_left
 ·exact λk hk=>by
   show(decide (k<m.p)&&!ch.contains k)=Ac;grind
 ·exact⟨λh=>by have:=hy.c _ h;omega,λh=>by have:=hy.c _ h;omega,λh=>by have:=hy.c _ h;omega,trivial⟩
 refine zK (λ(i:Nat)=>fr 124 [(8,Ad (Aj m+2) 0),(104,Af (Aj m+3) 0 (Aa<|AF m) (Aa<|AF m) Ab),(105,iD (Aa (AF m):Int)),(106,iD i),(120,Uk),(121,Uk),(122,Uk),(123,Uk)]) (λ(i:Nat)=>lay (qL m ch yb) (S2 m i)) (λ(i:Nat)=>m.A.length-i) (λ(i:Nat)=>i<=m.A.length) 0 ?_ ?_ ?_
 ·omega
 ·refine vkp [8,104,105,106]
 intro i hi;rcases AQ i m.A.length with hi2|hi2
 ·have hpt:=lay_pt hy (S2 m i);have hhd:=hd_pt m hi2;have hli:(lay (qL m ch yb) (S2 m i))[m.p+4+m.n+5*i+4]?=As (itK ((S1 m).its.getD i Ae)):=zQv (L:=qL m ch yb) (S:=S2 m i) hL (i:=i) hi2;have hlj:(lay (qL m ch yb) (S2 m i))[m.p+2]?=As (jB (qL m ch yb) (S2 m i).s):=zNn (L:=qL m ch yb) (S:=S2 m i) hL;have hre:=hsp.res i hi2;have hst:=steps_g hli ((hbd i hi2).of hre.t hre.fl);have hb2:sumS (S1 m).its (i+1)<=(i+1)*cE m.A.length M m.n:=zTy λj hj=>by
   grind
  have hb3:(i+1)*cE m.A.length M m.n<=m.A.length*cE m.A.length M m.n:=B7 _ (by omega);have hb1:(S1 m).s+sumS (S1 m).its i+((S1 m).its.getD i Ae).s<=100000000000000000:=by
   have h1:sumS (S1 m).its i+((S1 m).its.getD i Ae).s<=m.A.length*cE m.A.length M m.n:=A0 hb2 hb3;grind
  refine vA<|zAb [] [(107,bD<|decide ((i:Int)<(Aa (AF m):Int)))] ?_;refine zA<|vT ((i:Int)<(Aa (AF m):Int))<|vKB<|vA<|zR 1 [] [] ((0:Int)<=(i:Int)/\(i:Int)<(Aa (AF m):Int)) [(108,Ad (Aj m+3) (0+Ay (i:Int)*1))] ?_;refine zAo 108 (Ad (Aj m+3) (0+Ay (i:Int)*1)) (Ad (Aj m+3) i) (by simp(disch:=omega) only[BA,Bn,BE]) ?_;refine zAh (Ag (Ah (λ(i:Nat)=>Ad (Aj m+4+Ar m+5*i+4) 0)<|AK<|Aa<|AF m) 225 1 Ab Ac AW) (Aj m+3) (Bb 1<|Aa<|Ai i<|Ah (λ(i:Nat)=>Ad (Aj m+4+Ar m+5*i+4) 0)<|AK<|Aa<|AF m) (A9 (Ai i<|Ah (λ(i:Nat)=>Ad (Aj m+4+Ar m+5*i+4) 0)<|AK<|Aa<|AF m) Uk) hpt (by(simp;omega)) ?_;refine zA3 1 [(22,A9 (Ai i<|Ah (λ(i:Nat)=>Ad (Aj m+4+Ar m+5*i+4) 0)<|AK<|Aa<|AF m) Uk)] ?_;refine zAo 22 (A9 (Ai i<|Ah (λ(i:Nat)=>Ad (Aj m+4+Ar m+5*i+4) 0)<|AK<|Aa<|AF m) Uk) (Ad (Aj m+4+Ar m+5*i+4) 0) (by simp(disch:=omega) only[hhd]) ?_;refine zAb [107,108,109] [] ?_;refine zA6 [0,1,2,4,3] [(5,[(3,100000)],[6,7,8,9])] rfl ?_;refine zA3 4 [(110,Ad (Aj m+2) 0),(111,Ad (Aj m+2) 0),(112,Ad (Aj m+2) 2),(114,Ad (Aj m+4+Ar m+5*i+4) 0)] ?_;refine zAh (Ag [Af (BF<|qL m ch yb) 0 (AY<|qL m ch yb) (AY (qL m ch yb)*3) Ab,Af (Lay.tb<|qL m ch yb) 0 (AY<|qL m ch yb) (AY<|qL m ch yb) Ab,iD (↑(Js.s<|S2 m i):Int),AO (Fn.func 135) [] [Ad (Lay.cb<|qL m ch yb) 0]] 218 0 Ac Ac Aq) (Aj m+2) (Bb 1 2) (iD (↑(Js.s<|S2 m i):Int)) hlj (by simp) ?_;have hll:(lay (qL m ch yb) (S2 m i)).length<=100000:=by rw[zAs];exact hL.sm
  have hlk:(lay (qL m ch yb) (S2 m i)).take 100000=lay (qL m ch yb) (S2 m i):=zD9 hll;refine zAk ?_ (by kernel_rfl);refine zBy rfl rfl ?_ (hf:=zDr (λx hx=>by simp at hx;subst hx;exact hll));refine zZ [] [] [Ad (Aj m+4+Ar m+5*i+4) 0] [Ad (Aj m+4+Ar m+5*i+4) 0] (AX _) (by exact hst) ?_;refine zAk ?_ (by kernel_rfl);refine zDo (AV _) (zDi 3 100000 (jB (qL m ch yb) (S2 m i).s) (m.p+2) (0<2) (iD ((S2 m i).s:Nat)) (by kernel_rfl) (by rw[hlk];exact hlj) (by decide) (by kernel_rfl)) ?_;refine zR 1 [116] [] (True) [(116,iD<|BU Bp ((↑(Js.s<|S2 m i):Int)+(↑(It.s<|Au (BQ<|S1 m) i Ae):Int)))] ?_ (hc:=trivial);refine zAo 116 (iD<|BU Bp ((↑(Js.s<|S2 m i):Int)+(↑(It.s<|Au (BQ<|S1 m) i Ae):Int))) (iD ((↑(Js.s (S1 m)+sumS (BQ<|S1 m) i):Int)+(↑(It.s<|Au (BQ<|S1 m) i Ae):Int))) (by simp(disch:=omega) only[wrap_i64]) ?_;refine zA3 2 [(117,Ad (Aj m+2) 0),(118,Ad (Aj m+2) 2)] ?_;refine zB6 (Ag [Af (BF<|qL m ch yb) 0 (AY<|qL m ch yb) (AY (qL m ch yb)*3) Ab,Af (Lay.tb<|qL m ch yb) 0 (AY<|qL m ch yb) (AY<|qL m ch yb) Ab,iD (↑(Js.s<|S2 m i):Int),AO (Fn.func 135) [] [Ad (Lay.cb<|qL m ch yb) 0]] 218 0 Ac Ac Aq) (Aj m+2) (Ac=Ac/\Ab=Ab/\1=1/\3<=4) (Ag [Af (BF<|qL m ch yb) 0 (AY<|qL m ch yb) (AY (qL m ch yb)*3) Ab,Af (Lay.tb<|qL m ch yb) 0 (AY<|qL m ch yb) (AY<|qL m ch yb) Ab,iD ((↑(Js.s (S1 m)+sumS (BQ<|S1 m) i):Int)+(↑(It.s<|Au (BQ<|S1 m) i Ae):Int)),AO (Fn.func 135) [] [Ad (Lay.cb<|qL m ch yb) 0]] 218 0 Ac Ac Aq) hlj ⟨(by kernel_rfl),⟨(by kernel_rfl),(by omega)⟩⟩ ?_;refine zF1 (lay (qL m ch yb)<|S2 m (i+1)) ?_ ?_
  ·rw[show S2 m (i+1)={S2 m i with s:=(S2 m i).s+((S1 m).its.getD i Ae).s} by simp only[S2,sumS,Nat.add_assoc]];exact zMl (L:=qL m ch yb) (S:=S2 m i) hL ((S2 m i).s+((S1 m).its.getD i Ae).s)
  refine zAk ?_ (by kernel_rfl);refine zBv<|zD<|zC<|zMf (22::Cu 110 9) ([Uk,Uk,Uk,Uk,Uk,Uk,Uk,Uk,.own (m.p+2) 0]++AP 95 Uk++[.osl (m.p+3) 0 m.A.length m.A.length Ab,iD (m.A.length:Nat),iD (i:Nat)]++AP 17 Uk) (by kernel_rfl) ?_;refine zB rfl<|zR 2 [] [] (i6 (↑i+1)) [(106,iD ↑(i+1)),(119,iD ↑(i+1))] ?_;refine zAk ?_ (by kernel_rfl);refine zC<|⟨i+1,by omega,by omega,?_⟩;refine vkp [8,104,105,106]
 obtain rfl:i=m.A.length:=by omega
 have hlj:(lay (qL m ch yb) (S2 m m.A.length))[m.p+2]?=As (jB (qL m ch yb) (S2 m m.A.length).s):=zNn (L:=qL m ch yb) (S:=S2 m m.A.length) hL;refine vA<|zAb [] [(107,bD<|decide ((Aa (AF m):Int)<(Aa (AF m):Int)))] ?_;refine zA<|vF ((Aa (AF m):Int)<(Aa (AF m):Int))<|vZ2<|vA<|zA3 3 [(120,Ad (Aj m+2) 0),(121,Ad (Aj m+2) 0),(122,Ad (Aj m+2) 2)] ?_;refine zAh (Ag [Af (BF<|qL m ch yb) 0 (AY<|qL m ch yb) (AY (qL m ch yb)*3) Ab,Af (Lay.tb<|qL m ch yb) 0 (AY<|qL m ch yb) (AY<|qL m ch yb) Ab,iD (↑(Js.s<|S2 m<|Aa<|AF m):Int),AO (Fn.func 135) [] [Ad (Lay.cb<|qL m ch yb) 0]] 218 0 Ac Ac Aq) (Aj m+2) (Bb 1 2) (iD (↑(Js.s<|S2 m<|Aa<|AF m):Int)) hlj (by simp) ?_;refine zAb [8,104,105,106,107,120,121,122,123] [(6,iD (↑(Js.s (S1 m)+sumS (BQ<|S1 m) (Aa<|AF m)):Int)),(7,iD 0)] ?_;refine zE<|zN (True) [Ap<|Ax Bp (↑(Js.s (S1 m)+sumS (BQ<|S1 m) (Aa<|AF m)):Int),q2_] (.inr rfl) ?_;exact⟨by kernel_rfl,rfl⟩
theorem run0_k(m:Mk)(hm:MOk m)(ha:AOk m)(e:Nat)(he:e<m.A.length)(he0:(m.A.getD e Ae).2=[])(he1:∀j,j<e->(m.A.getD j Ae).2≠[])(ch:List Nat)(st0:List Bk)(hp:st0.length=m.p)(hb:∀k,k<m.p->st0[k]?=As (m.base k)):∃bs,Acts AA 134 [iD (m.n:Nat),atsD m.A,yCl m.cb] st0 ch (.tup [iD 0,iD 0]) (st0++bs):=by
 have hn:=ha.n;have hA:=ha.na;refine⟨[roB (AP m.n ⟨0,0,[]⟩),(⟨repL m.n [nlD],219,1,Ab,Ac, .sh⟩:Bk),joB m,acB (m.A.getD e Ae)],?_⟩;have hl1:∀b,(st0++[b]).length=m.p+1:=λb=>by rw[AU,hp];rfl
 have hl2:∀b c,(st0++[b]++[c]).length=m.p+2:=λb c=>by rw[AU,hl1];rfl
 refine zAm (Tr2_ok m.p ch) mixed Tryz.func134 rfl (λk hk=>by
  by_cases h:k∈ch
  ·exact .inr h
  refine .inl ?_;show(decide (k<m.p)&&!ch.contains k)=Ab;rw[decide_eq_true (by omega)];simpa using h) ?_
 refine vA<|zAb [] [(6,iD 0),(7,iD 0)] ?_;refine zA<|vd [0,2,4,1,3,5,6,7]<|zA3 3 [(23,iD ↑(Ar m)),(25,iD ↑(Ar m)),(27,AO (Fn.func 135) [] [Ad (A7 m) 0])] ?_;refine zBa (Aj m) ((0:Int)<=(↑(Ar m):Int)/\(↑(Ar m):Int)<=(↑(Ar m):Int)/\(↑(32:Nat):Int)*(↑(Ar m):Int)<=(281474976710656:Int)/\(↑(Ar m):Int)<=(281474976710656:Int)/\0<3/\3=3) (Ag (repL (Ay (↑(Ar m):Int)) [iD 0,iD 0,q5_]) 64 3 Ab Ac<|kdOf<|zCt AA (Tr2 (Aj m) ch) 54) (Af 0 0 (Ay (↑(Ar m):Int)) (Ay (↑(Ar m):Int)*3) Ab) hp ?_ (hp:=by omega);refine zBa (Aj m+1) ((0:Int)<=(↑(Ar m):Int)/\(↑(Ar m):Int)<=(↑(Ar m):Int)/\(↑(24:Nat):Int)*(↑(Ar m):Int)<=(281474976710656:Int)/\(↑(Ar m):Int)<=(281474976710656:Int)/\0<1/\1=1) (Ag (repL (Ay (↑(Ar m):Int)) [nl]) 219 1 Ab Ac<|kdOf<|zCt AA (Tr2 (Aj m) ch) 216) (Af 0 0 (Ay (↑(Ar m):Int)) (Ay (↑(Ar m):Int)*1) Ab) (hl1 _) ?_ (hp:=by omega);refine zR 1 [] [] ((1=1/\1<=4/\1=1/\2<=4/\1=1/\4<=4/\True)/\Ab=Ab) [(28,Az [Af (Aj m) 0 (Ay (↑(Ar m):Int)) (Ay (↑(Ar m):Int)*3) Ab,Af (Aj m+1) 0 (Ay (↑(Ar m):Int)) (Ay (↑(Ar m):Int)*1) Ab,iD 0,AO (Fn.func 135) [] [Ad (A7 m) 0]])] ?_ (hc:=by decide);refine zAo 28 (Az [Af (Aj m) 0 (Ay (↑(Ar m):Int)) (Ay (↑(Ar m):Int)*3) Ab,Af (Aj m+1) 0 (Ay (↑(Ar m):Int)) (Ay (↑(Ar m):Int)*1) Ab,iD 0,AO (Fn.func 135) [] [Ad (A7 m) 0]]) (Az [Af (Aj m) 0 (Ar m) (Ar m*3) Ab,Af (Aj m+1) 0 (Ar m) (Ar m) Ab,iD 0,AO (Fn.func 135) [] [Ad (A7 m) 0]]) (by simp(disch:=omega) only[BA,Bn]) ?_;refine zBa (Aj m+2) (True) (Ag [Af (Aj m) 0 (Ar m) (Ar m*3) Ab,Af (Aj m+1) 0 (Ar m) (Ar m) Ab,iD 0,AO (Fn.func 135) [] [Ad (A7 m) 0]] 218 0 Ac Ac Aq) (Ad 0 0) (hl2 _ _) ?_;refine zA3 1 [(8,Ad (Aj m+2) 0)] ?_;refine zAk ?_ (by kernel_rfl);refine zC ?_;obtain⟨X,hX⟩:∃X,X=st0++[roB (AP m.n ⟨0,0,[]⟩),(⟨repL m.n [nlD],219,1,Ab,Ac, .sh⟩:Bk),joB m]:=⟨_,rfl⟩;have hXl:X.length=m.p+3:=by rw[hX,AU,hp];rfl
 have hXn:∀b∈X,namB (m.p+3) b:=zRr hm hp hb hX;refine next_st X ?_ ?_
 ·rw[hX,B6,B6];unfold roB;rw[zRz];exact congrArg (st0++·) (by kernel_rfl)
 have hac:∀a:List Nat×List Rw,(atN a).length=3:=λ_=>rfl;refine zCi<|zA<|vA<|zAb [0,2,23,24,25,26,27,28,29] [(30,(q9_ m)),(31,iD (Aa (AF m):Int)),(32,iD 0)] ?_;refine zJ<|zK (λ(a:Nat)=>fr 124 [(1,atsD<|AF m),(8,Ad (Aj m+2) 0),(30,(q9_ m)),(31,iD (Aa (AF m):Int)),(32,iD a)]) (λ(a:Nat)=>X) (λ(a:Nat)=>e-a) (λ(a:Nat)=>a<=e) 0 ?_ ?_ ?_
 ·omega
 ·refine vkp [1,8,30,31,32]
 intro a h1;have h2:a<m.A.length:=by omega
 have hg2:=zC0 hac m.A a h2;have hle:=zFw hac m.A a h2;have hne:=zDe hac (by decide) m.A;rcases AQ a e with h3|h3
 ·have hr1:=he1 a h3;obtain⟨hr2,hr3,hr4⟩:=ha.r _ (ha.get h2);generalize m.A.getD a Ae=x at*;have hlen:=zKj (x.1.length:Nat) (x.2.map rowV) x.2.length;have hpos:0<x.2.length:=Ct.2 hr1;refine vA<|zAb [] [(33,bD<|decide ((a:Int)<(Aa (AF m):Int)))] ?_;refine zA<|vT ((a:Int)<(Aa (AF m):Int))<|vKB<|vA<|zR 2 [] [] (ix ↑a (Aa (AF m):Int) (Al atN (AF m)≠[])/\3<=Aa (Ai (a*3)<|Al atN<|AF m)) [(34,(q10_ a m)),(35,(q11_ a m))] ?_ (hc:=⟨⟨(by omega),⟨(by omega),(by assumption)⟩⟩,(by omega)⟩);refine zAo 35 (Az<|AB 3<|Ai (a*3)<|Al atN<|AF m) (Az<|atN x) (by simp(disch:=omega) only[hg2]) ?_;refine zBa (Aj m+3) (True) (q12_) (Ad 0 0) hXl ?_;refine zB6 (q12_) (Aj m+3) (Ac=Ac/\Ab=Ab/\3=3/\3<=3) (Ag [Ak (Ah (λ(v:Nat)=>iD v)<|Am x)<|Aa<|Am x,iD (Aa (Am x):Int),Ak (Ah rowV<|Aw x)<|Aa<|Aw x] 87 0 Ac Ac Aq) (zAt hXl) ⟨(by kernel_rfl),⟨(by kernel_rfl),(by omega)⟩⟩ ?_;rw[zEi hXl];refine zAb [33,34,35] [] ?_;refine vA<|zA3 1 [(36,Ad (Aj m+3) 1)] ?_;refine zAh (Ag [Ak (Ah (λ(v:Nat)=>iD v)<|Am x)<|Aa<|Am x,iD (Aa (Am x):Int),Ak (Ah rowV<|Aw x)<|Aa<|Aw x] 87 0 Ac Ac Aq) (Aj m+3) (Bb 2 2) (Az [iD (Aa (Am x):Int),Ak (Ah rowV<|Aw x)<|Aa<|Aw x]) (zAt hXl) (by simp) ?_;refine zTz [Az [iD (Aa (Am x):Int),Ak (Ah rowV<|Aw x)<|Aa<|Aw x]] (by exact hlen) ?_;refine zAb [10,36,37,38] [(39,bD ((Aa (Aw x):Int)==(0:Int)))] ?_;refine vEf ((Aa (Aw x):Int)) ((0:Int))<|zT<|zD<|vN<|zB rfl<|zR 2 [] [] (i6 (↑a+1)) [(32,iD (↑a+1)),(40,iD (↑a+1))] ?_;refine zAk ?_ (by kernel_rfl);refine zC<|⟨a+1,h3,by omega,?_⟩;rw[zM9];refine zA4 (m.p+2<m.p+3/\True) hXl hXn (zGt _ _) ?_ ⟨by omega,trivial⟩;refine vkp [1,8,30,31,32]
 obtain rfl:a=e:=by omega
 obtain⟨x,hx⟩:∃x,x=m.A.getD a default:=⟨_,rfl⟩;rw[<-hx]at hg2 he0;have hlen:=zKj (x.1.length:Nat) (x.2.map rowV) x.2.length;have hz:x.2.length=0:=by rw[he0];rfl
 refine vA<|zAb [] [(33,bD<|decide ((a:Int)<(Aa (AF m):Int)))] ?_;refine zA<|vT ((a:Int)<(Aa (AF m):Int))<|vKB<|vA<|zR 2 [] [] (ix ↑a (Aa (AF m):Int) (Al atN (AF m)≠[])/\3<=Aa (Ai (a*3)<|Al atN<|AF m)) [(34,(q10_ a m)),(35,(q11_ a m))] ?_ (hc:=⟨⟨(by omega),⟨(by omega),(by assumption)⟩⟩,(by omega)⟩);refine zAo 35 (Az<|AB 3<|Ai (a*3)<|Al atN<|AF m) (Az<|atN x) (by simp(disch:=omega) only[hg2]) ?_;refine zBa (Aj m+3) (True) (q12_) (Ad 0 0) hXl ?_;refine zB6 (q12_) (Aj m+3) (Ac=Ac/\Ab=Ab/\3=3/\3<=3) (Ag [Ak (Ah (λ(v:Nat)=>iD v)<|Am x)<|Aa<|Am x,iD (Aa (Am x):Int),Ak (Ah rowV<|Aw x)<|Aa<|Aw x] 87 0 Ac Ac Aq) (zAt hXl) ⟨(by kernel_rfl),⟨(by kernel_rfl),(by omega)⟩⟩ ?_;rw[zEi hXl];refine zAb [33,34,35] [] ?_;refine vA<|zA3 1 [(36,Ad (Aj m+3) 1)] ?_;refine zAh (Ag [Ak (Ah (λ(v:Nat)=>iD v)<|Am x)<|Aa<|Am x,iD (Aa (Am x):Int),Ak (Ah rowV<|Aw x)<|Aa<|Aw x] 87 0 Ac Ac Aq) (Aj m+3) (Bb 2 2) (Az [iD (Aa (Am x):Int),Ak (Ah rowV<|Aw x)<|Aa<|Aw x]) (zAt hXl) (by simp) ?_;refine zTz [Az [iD (Aa (Am x):Int),Ak (Ah rowV<|Aw x)<|Aa<|Aw x]] (by exact hlen) ?_;refine zAb [10,36,37,38] [(39,bD ((Aa (Aw x):Int)==(0:Int)))] ?_;refine vEt ((Aa (Aw x):Int)) ((0:Int))<|vA<|zAb [39] [(6,iD 0),(7,iD 0)] ?_;refine zE<|zL<|zH<|zH<|zL<|zH<|zN (True) [q2_,q2_] (.inr rfl) ?_;exact⟨by kernel_rfl,by rw[hX,<-hx,B6];rfl⟩
theorem rs_it0(hL:∀r∈L,r.length=k)(hs:Rsc L)(hne:L≠[]):RS (it0 (zCa k L))=L:=by
 show rws (zCa k L) 0 (szT (zCa k L))=L;rcases Cv k with h0|h0
 ·subst h0;have ht:zCa 0 L=[]:=List.length_eq_zero_iff.1 (zHs 0 L);rw[ht];show[[]]=L;have h1:∀r∈L,r=[]:=λr hr=>List.length_eq_zero_iff.1 (hL r hr);match L,hne,h1,hs with
  |[r],_,h1,_=>rw[h1 r (by simp)]
  |r::u::L,_,h1,hs=>
   have h2:=(B8.1 hs).1 u (by simp);rw[h1 r (by simp),h1 u (by simp)]at h2;exact absurd h2 (by decide)
 grind [trie_rows,dst_of]
def jn(m:Mk):List Rw:=if m.A.all (λa=>!a.2.isEmpty)then(S1 m).ys else[]
theorem zHb(ha:AOk m):Rsc (jn m)/\∀y,y∈jn m↔(y.length=m.n/\∀a,a<m.A.length->prj m.vs a 0 y∈(m.A.getD a Ae).2):=by
 unfold jn;split
 ·rename_i h;have hne:∀a∈m.A,a.2≠[]:=λa h1=>by
   grind
  obtain⟨J,h1,h2,h3⟩:=(zJf ha.v m.n 0 (S0 m) (by omega) (itS_at ha hne) (by simp)).ys;rw[show(S1 m).ys=J from h1];refine⟨h2,λy=>?_⟩;rw[h3];have hrs:∀a,a<m.A.length->RS ((S0 m).its.getD a Ae)=(m.A.getD a Ae).2:=λa h=>by
   obtain⟨_,r3,r4⟩:=ha.r _ (ha.get h);rw[show(S0 m).its.getD a Ae=it0 (m.tr a)from zQ0 m h];grind [rs_it0]
  grind
 rename_i h;refine⟨CK.nil,λy=>⟨λh=>by simp at h,λ⟨_,k⟩=>?_⟩⟩;grind [BG,Cd,AS,prj]
theorem zWd{yb:List (List Va)->Nat->Option Bk}(S:Js)(hk:k<m.p):blk (qL m ch yb) S k=(yb S.ys k).getD (m.base k):=by
 unfold blk;rw[if_neg (show¬k=(qL m ch yb).jb from show¬k=m.p+2 by omega),if_neg (show¬k=(qL m ch yb).rb from show¬k=m.p by omega),zMy (λi hi=>by show m.p+4+m.n+5*i+4≠k;omega)];show(yb S.ys k).getD (qblk m _ _ k)=_;unfold qblk;rw[if_pos hk]
theorem lay_low{yb:List (List Va)->Nat->Option Bk}(S:Js):lay (qL m ch yb) S=((AK m.p).map λk=>(yb S.ys k).getD (m.base k))++(Cu m.p (4+m.n+5*m.A.length)).map (blk (qL m ch yb) S):=by
 have e:AK (m.p+4+m.n+5*m.A.length)=AK m.p++Cu m.p (4+m.n+5*m.A.length):=by
  rw[List.range_eq_range',List.range_eq_range',show m.p+4+m.n+5*m.A.length=m.p+(4+m.n+5*m.A.length) by omega,<-List.range'_append_1,BE]
 show(AK (m.p+4+m.n+5*m.A.length)).map (blk (qL m ch yb) S)=_;grind [Cx,zWd]
theorem low_nam(hm:MOk m){yb:List (List Va)->Nat->Option Bk}(hy:YbOk m ch yb)(ys:List (List Va)):∀b∈(AK m.p).map (λk=>(yb ys k).getD (m.base k)),namB m.p b:=λb hb=>by
 obtain⟨k,hk,rfl⟩:=BH.1 hb;show namB m.p ((yb ys k).getD (m.base k));cases e:yb ys k with
 |none=>exact hm.bs k (Bx.1 hk)
 |some b=>exact(hy.b ys k b e).2
theorem S2_le(m:Mk)(ha:AOk m)(hR:∀a∈m.A,a.2≠[])(M:Nat)(hM:∀a∈m.A,a.2.length+m.n<=M)(hC:(m.A.length+1)*(cE m.A.length M m.n)+1<=big):(S2 m m.A.length).s<=big:=by
 have hc0:1*cE m.A.length M m.n<=(m.A.length+1)*cE m.A.length M m.n:=B7 _ (by omega);have hc1:0+cE m.A.length M m.n+1<=big:=by omega
 have hc2:∀a,a<m.A.length->((S0 m).its.getD a Ae).s+cE m.A.length M m.n<=big:=λa h=>by
  grind
 have hco:=zQ3 ha.v M m.n 0 (S0 m) (by omega) (itS_at ha hR) (by simp) (itS_sz ha hM) hc1 hc2;have hb2:sumS (S1 m).its m.A.length<=m.A.length*cE m.A.length M m.n:=zTy λj hj=>by
  grind
 grind
theorem run_a(m:Mk)(hm:MOk m)(ha:AOk m)(ch:List Nat)(yb:List (List Va)->Nat->Option Bk)(hy:YbOk m ch yb)(M K:Nat)(hM:∀a∈m.A,a.2.length+m.n<=M)(hY:YOk (qL m ch yb) K)(hK:(jn m).length<=K)(hC:(m.A.length+1)*(cE m.A.length M m.n)+1<=big)(st0:List Bk)(hp:st0.length=m.p)(hb:∀k,k<m.p->st0[k]?=As (m.base k)):∃z:Nat,z<=big/\Acts AA 134 [iD (m.n:Nat),atsD m.A,yCl m.cb] st0 ch (.tup [iD (z:Nat),iD 0]) ((AK m.p).map λk=>(yb (jn m) k).getD (m.base k)):=by
 by_cases h:∀a∈m.A,a.2≠[]
 ·have hj:jn m=(S1 m).ys:=by
   grind [jn,BG]
  rw[hj]at hK⊢;have hr:=run_k m hm ha ch yb hy h M K hM hY hK hC st0 hp hb;rw[lay_low]at hr;exact⟨_,S2_le m ha h M hM hC,hr.tail (N:=m.p) (by simp) (by omega) (low_nam hm hy _) (λj hj=>by simp only[refs,zX,A6])⟩
 have hj:jn m=[]:=by
  grind [jn,BG]
 have hx:∃e,e<m.A.length/\(m.A.getD e Ae).2=[]/\∀j,j<e->(m.A.getD j Ae).2≠[]:=by
  have h0:∃e,e<m.A.length/\(m.A.getD e Ae).2=[]:=by
   refine Classical.byContradiction λhn=>h λa h1 h2=>hn ?_;obtain⟨i,hi,rfl⟩:=Cd h1;simp_all
  obtain⟨e,he⟩:=h0;induction e using Nat.strongRecOn with
  |ind e ih=>
   grind
 obtain⟨e,e1,e2,e3⟩:=hx;obtain⟨bs,hr⟩:=run0_k m hm ha e e1 e2 e3 ch st0 hp hb;have hst:st0=(AK m.p).map λk=>(yb (jn m) k).getD (m.base k):=by
  apply BS;intro i;rcases AQ i m.p with hi|hi
  ·rw[hb i hi,Cc,List.getElem?_range hi,Cr,hj];cases e:yb [] i with
   |none=>rfl
   |some b=>rw[hy.z i b e];rfl
  grind
 have hr2:=hr.tail (N:=m.p) hp (by omega) (by rw[hst];exact low_nam hm hy _) (λj hj=>by simp only[refs,zX,A6]);grind
end
variable{e:Bk}{wh:Bool}{f:FuncId}{args:List D}{m s:Nat}{P:Program}
section
open Go.RowKit
theorem Acts.pre{T:Par}{args':List D}{st1 st2:List Bk}{x:D}(h:Acts P f args' st1 ch x st2)(hw:Weak T args st args' st1)(hk:∀k,k<st.length->k∉ch->T.keep k=Ab):Acts P f args st ch x st2:=by
 intro β I w vs hr hsr hinj hfz hdom hi hg;obtain⟨β1,I1,s,p,q⟩:=hw β I w vs ⟨hr,hsr,hinj,hfz,hdom,hi,hg⟩;refine(h β1 I1 w vs s.rel s.sr s.inj s.fz s.dom s.imb s.gl).mono ?_;rintro e w' ⟨v,β',I',e1,e2,e3,e4,e5,e6,e7,e8,e9⟩;exact⟨v,β',I',e1,e2,p.trans e3,λk y hc hb=>e4 k y hc (q k y (hk k (hdom k y hb) hc) hb),e5,e6,e7,e8,e9⟩
theorem Acts.at1{args1:List D}{b0:Bk}{c0:Nat}(k:Nat)(h:Acts P f args1 [e] [] (.osl 1 0 n c0 wh) [e,b0])(he:st[k]?=As e)(ha:e.free)(ha':b0.free)
  (hargs:∀I w β vs,RelT I w β args vs->RelT I w (only β k) args1 vs):Acts P f args st [] (.osl st.length 0 n c0 wh) (st++[b0]):=by
 intro β I w vs hr hsr hinj hfz hdom hi hg;have o0:∀{j:Nat}{y:Nat×Nat},only β k j=As y->j=0/\β k=As y:=λ{j y} hj=>by
  grind [only]
 have hk:k<st.length:=(List.getElem?_eq_some_iff.1 he).1;have hsr1:SR (only β k) I w [e]:=λj b c hj=>by
  obtain⟨rfl,hb⟩:=o0 hj;obtain⟨e0,h1,h2⟩:=hsr k b c hb;rw[he]at h1;cases h1;exact⟨e,rfl,ha.own h2⟩
 have hinj1:Inj (only β k):=λj j' b c c' h1 h2=>by rw[(o0 h1).1,(o0 h2).1]
 have hfz1:FZ (only β k) I [e]:=λj b c i e0 h1 h2 h3=>by
  obtain⟨rfl,hb⟩:=o0 h1;simp only[Cy,Ce.injEq]at h2;subst h2;exact hfz k b c i e hb he h3
 refine(h (only β k) I w vs (hargs I w β vs hr) hsr1 hinj1 hfz1 (λj y hj=>by rw[(o0 hj).1];simp) hi hg).mono ?_;rintro en w' ⟨v,β1,I',rfl,p1,p2,p3,p4,p5,p6,p7,p8⟩;have keepk:∀y,β k=As y->β1 0=As y:=λy hy=>p3 0 y (by simp) (by simp only[only,if_true];exact hy);have new1:∀{b c:Nat},β1 1=As (b,c)->w.heap.size<=b:=λ{b c} hb=>by
  rcases p2.be 1 b c hb with⟨k',c',hk'⟩|hh
  ·have:=p5 1 0 b c c' hb (keepk _ (o0 hk').2)
   cases this
  exact hh
 have hlt:∀{j b c:Nat},β j=As (b,c)->b<w.heap.size:=λ{j b c} hj=>by
  obtain⟨e0,_,h1⟩:=hsr j b c hj;exact h1.lt
 have heap:∀{j b c:Nat},j≠k->β j=As (b,c)->w'.heap[b]?=w.heap[b]?:=λ{j b c} hne hj=>p2.out b (hlt hj) λj' c' hj'=>by
  have:=(o0 hj').2
  exact hne (hinj j k b c c' hj this)
 let β':Be:=λj=>if j<st.length then β j else if j=st.length then β1 1 else AL
 have bo:∀{j:Nat}{y:Nat×Nat},β' j=As y->(j<st.length/\β j=As y)\/(j=st.length/\β1 1=As y):=λ{j y} hj=>by
  grind
 have hle:BeLe β β':=λj y hj=>by
  grind
 refine⟨v,β',I',rfl,p1,⟨p2.fix,p2.size,λb hb hn=>p2.out b hb λj c hj=>hn k c (o0 hj).2,p2.os,p2.tape,p2.output,p2.dr,λj b c hj=>?_,λb o hb=>?_⟩,λj y _ hj=>hle j y hj,λj b c hj=>?_,λj j' b c c' hj hj'=>?_,λj b c i e0 hj h2 h3=>?_,λj y hj=>?_,?_⟩
 ·grind
 ·rcases p2.im b o hb with h1|h1|⟨j,c,h1⟩;all_goals grind
 ·rcases bo hj with⟨hl,h⟩|⟨rfl,h⟩
  ·rw[CL hl];by_cases ej:j=k
   ·subst ej;obtain⟨e0,h1,h2⟩:=p4 0 b c (keepk _ h);simp only[Cy,Ce.injEq]at h1;subst h1;exact⟨e,he,ha.own h2⟩
   obtain⟨e0,h1,h2⟩:=hsr j b c h;exact⟨e0,h1,h2.mono (heap ej h) p2.fix hle⟩
  obtain⟨e0,h1,h2⟩:=p4 1 b c h;simp only[List.getElem?_cons_succ,Cy,Ce.injEq]at h1;subst h1;exact⟨b0,by simp,ha'.own h2⟩
 ·rcases bo hj with⟨hl,h⟩|⟨rfl,h⟩<;>rcases bo hj' with⟨hl',h'⟩|⟨rfl,h'⟩
  ·exact hinj j j' b c c' h h'
  all_goals grind
 ·rcases bo hj with⟨hl,h⟩|⟨rfl,h⟩
  ·rw[CL hl]at h2;by_cases ej:j=k
   ·subst ej;rw[he]at h2;cases h2;exact p6 0 b c i e (keepk _ h) rfl h3
   refine hfz j b c i e0 h h2 ?_;rcases p2.im b _ h3 with h1|h1|⟨j2,c2,h1⟩
   ·exact h1
   ·have:=hlt h;omega
   exact absurd (hinj j k b c c2 h (o0 h1).2) ej
  simp only[List.getElem?_append_right (AV _),Nat.sub_self,Cy,Ce.injEq]at h2;subst h2;exact p6 1 b c i b0 h rfl h3
 ·grind
 simp only[Rel]at p8⊢;grind
section
variable{T:Par}{sl:List D}{st:List Bk}
theorem Weak.frzSlot{d x:D}{ks:List Nat}(hs:sl[s]?=As d)(hx:frz Ab st zAe d=As (x,ks)):Weak T sl st (sl.set s x) (zA0 st ks):=by
 intro β I w tm h;obtain⟨v,hv,hr⟩:=h.rel.get s _ hs;have hfr:=zCj h.sr.weak _ _ _ _ v hx hr;have h0:=h.fzAll ks;refine⟨β,fixI I β st ks,⟨?_,h0.sr,h0.inj,h0.fz,h0.dom,h0.imb,h0.gl⟩,Stp.fzAll h ks,Kp.refl _ _⟩;refine RelT.of_get (by rw[BP,h0.rel.length]) λi d' u hd hu=>?_;rw[Cz]at hd;split at hd
 ·grind [Rel.no]
 obtain⟨u',g1,g2⟩:=h0.rel.get i d' hd;rw[hu]at g1;cases g1;exact g2
theorem zJ5{st:List Bk}{off l:Nat}(h:st[k]?=As e)(hm:e.kd.isMap=Ac)(hn:e.nob=Ab):frz Ab st (n+1) (.osl k off l m wh)=As (.row ((e.cells.drop off).take m) l,[k]):=by
 grind [only,frz,Bool.false_eq_true]
end
structure At where
 V:List Int
 ar:Int
 R:List Rw
 deriving Inhabited
abbrev atC(a:At):List D:=[.row (a.V.map λz=>iD z) a.V.length,iD a.ar, .row (a.R.map rowV) a.R.length]
theorem zWi(a:At):(atC a).length=3:=rfl
def zWq(V:List Int)(i:Nat):Bool:=decide (i=0)||decide (V.getD (i-1) 0<V.getD i 0)
def ascB(V:List Int):Bool:=(AK V.length).all (zWq V)
def inB(n:Int)(v:Int):Bool:=decide (0<=v/\v<n)
def atE(n:Int)(a:At):Int:=if ascB a.V=Ac then 16 else if a.V.all (inB n)=Ac then 3 else if(a.V.length:Int)≠a.ar then 6 else 0
def atL(n:Int):List At->Int
 |[]=>0
 |a::l=>if atE n a≠0 then atE n a else atL n l
def useP(n:Nat)(ats:List At)(W:List Int):List Bool:=(AK n).map λv:Nat=>(ats.any λa=>decide ((v:Int)∈a.V))||decide ((v:Int)∈W)
def lfE(n:Int)(ats:List At):Int:=if n<0\/32<n then 3 else if 32<ats.length then 12 else if atL n ats≠0 then atL n ats else if(useP n.toNat ats []).contains Ac then 22 else 0
theorem zPr(n:Nat)(ats:List At)(W:List Int):(useP n ats W).length=n:=by simp[useP]
theorem useP_0(n:Nat):useP n [] []=AP n false:=by
 apply CA (by simp[useP]);intro i h1 h2;simp[useP]
theorem useP_set(n:Nat)(ats:List At)(W:List Int)(v:Nat)(h:v<n):(useP n ats W).set v Ab=useP n ats (W++[(v:Int)]):=by
 apply CA (by simp[useP]);intro i h1 h2;rw[List.getElem_set];simp only[useP,List.getElem_map,List.getElem_range,B3,By];grind
theorem useP_snoc(n:Nat)(ats:List At)(a:At):useP n ats a.V=useP n (ats++[a]) []:=by
 grind [useP,Cx]
theorem atL_at{n:Int}:∀{L:List At}{i:Nat},(∀j,j<i->atE n (L.getD j Ae)=0)->i<L.length->atE n (L.getD i Ae)≠0->atL n L=atE n (L.getD i Ae)
 |x::l,0,_,_,h=>by
  have h:atE n x≠0:=h;simp only[atL,if_pos h];rfl
 |x::l,i+1,h,hi,he=>by
  have h0:atE n x=0:=h 0 (by omega);simp only[atL];rw[if_neg (by rw[h0];exact λk=>k rfl)]
  have:=atL_at (n:=n) (L:=l) (i:=i) (λj hj=>by have:=h (j+1) (by omega);simpa using this) (by simpa using hi) (by simpa using he)
  rw[this];simp
theorem atL_0{n:Int}:∀{L:List At},(∀j,j<L.length->atE n (L.getD j Ae)=0)->atL n L=0
 |[],_=>rfl
 |x::l,h=>by
  have h0:atE n x=0:=h 0 (by simp);simp only[atL];rw[if_neg (by rw[h0];exact λk=>k rfl)];exact atL_0 λj hj=>by have:=h (j+1) (by simpa using hj);simpa using this
end
variable{i:FuncId->Bool}{rest:List Bk}{N:Nat}
section
open Go.RowKit
attribute [local irreducible] seqW awp zAd zAi zY Weak updS zAr retL Pure Acts rP setP setQ cP nP fr
set_option maxRecDepth 4096
abbrev boD(bs:List Bool):List D:=bs.map λb=>bD b
theorem zYn(bs:List Bool)(i:Nat)(h:i<bs.length):((boD bs).drop i).headD .unk=bD (bs.getD i Ab):=by simp_all
theorem indexF_c(bs:List Bool)(n:Nat)(hn:bs.length=n)(hb:n<=1000000):∃z:Int,(0<=z↔bs.contains Ac=Ab)/\Pure AA 93 [.row (boD bs) n,bD Ac] [] (iD z):=by
 subst hn;by_cases hc:bs.contains Ac=Ab
 ·obtain⟨p,hp,hq,hm⟩:∃p,p<bs.length/\bs.getD p Ab=Ac/\∀j,j<p->bs.getD j Ab=true:=by
   have hf:∃p,p<bs.length/\bs.getD p Ab=false:=by
    rw[CM]at hc;obtain⟨p,h1,h2⟩:=List.mem_iff_getElem.1 hc;exact⟨p,h1,by rw[A3,AS h1];exact h2⟩
   let p:=bs.findIdx (· ==Ac);have hlt:p<bs.length:=List.findIdx_lt_length_of_exists (by
    obtain⟨p,h1,h2⟩:=hf;exact⟨Ac,CM.1 hc,rfl⟩)
   refine⟨p,hlt,?_,λj hj=>?_⟩;all_goals grind
  refine⟨p,⟨λ_=>hc,λ_=>by omega⟩,?_⟩;refine zF zAx mixed Tryz.func93 rfl<|vAu<|zA<|vAe<|zJ<|zK (λ(i:Nat)=>fr 19 [(0,Ak (boD bs)<|Aa bs),(1,bD Ac),(7,iD (Aa bs:Int)),(8,iD (i:Int))]) (λ(i:Nat)=>[]) (λ(i:Nat)=>p-i) (λ(i:Nat)=>i<=p) 0 ?_ ?_ ?_
  ·omega
  ·refine vk 0
  rintro i h1;have hx:=zYn bs i (by omega);have hne:boD bs≠[]:=zAc;rcases AQ i p with h2|h2
  ·rw[hm i h2]at hx;refine vAu<|zA<|vT ((i:Int)<↑(Aa bs))<|vKB<|vAe<|vA<|vr 4 (ix ↑i ↑(Aa bs) (boD bs≠[]))<|vp 14 i (boD bs)<|vr 1 (0<Aa (Ai i<|boD bs))<|vsh 15 hx<|veT<|vf<|zT<|zD<|vN<|zB rfl<|vr 2 (i6 (↑i+1))<|vnil<|zC<|⟨i+1,by omega,by omega,?_⟩;refine vk 0
  obtain rfl:i=p:=by omega
  rw[hq]at hx;refine vAu<|zA<|vT ((i:Int)<↑(Aa bs))<|vKB<|vAe<|vA<|vr 4 (ix ↑i ↑(Aa bs) (boD bs≠[]))<|vp 14 i (boD bs)<|vr 1 (0<Aa (Ai i<|boD bs))<|vsh 15 hx<|veT<|vt<|vAe<|zE<|zL<|zH<|zH<|zL<|zH<|vret (True)<|.inr rfl
 refine⟨-1,⟨λh=>by omega,λh=>absurd h hc⟩,?_⟩;have hall:∀j,j<bs.length->bs.getD j Ab=true:=λj hj=>by
  grind
 refine zF zAx mixed Tryz.func93 rfl<|vAu<|zA<|vAe<|zJ<|zK (λ(i:Nat)=>fr 19 [(0,Ak (boD bs)<|Aa bs),(1,bD Ac),(7,iD (Aa bs:Int)),(8,iD (i:Int))]) (λ(i:Nat)=>[]) (λ(i:Nat)=>bs.length-i) (λ(i:Nat)=>i<=bs.length) 0 ?_ ?_ ?_
 ·omega
 ·refine vk 0
 rintro i h1;rcases AQ i bs.length with h2|h2
 ·have hx:=zYn bs i h2;have hne:boD bs≠[]:=zAc;rw[hall i h2]at hx;refine vAu<|zA<|vT ((i:Int)<↑(Aa bs))<|vKB<|vAe<|vA<|vr 4 (ix ↑i ↑(Aa bs) (boD bs≠[]))<|vp 14 i (boD bs)<|vr 1 (0<Aa (Ai i<|boD bs))<|vsh 15 hx<|veT<|vf<|zT<|zD<|vN<|zB rfl<|vr 2 (i6 (↑i+1))<|vnil<|zC<|⟨i+1,by omega,by omega,?_⟩;refine vk 0
 refine vAu<|zA<|vF ((i:Int)<(Aa bs:Int))<|vZ2<|vAe<|zE<|vret (True)<|.inr rfl
theorem zV2(bs:List Bool)(n:Nat)(hn:bs.length=n)(hb:n<=1000000):Pure AA 50 [.row (boD bs) n,bD Ac] [] (bD (bs.contains Ac)):=by
 obtain⟨z,h1,h2⟩:=indexF_c bs n hn hb;cases hc:bs.contains Ac with
 |true=>
  refine zF zAx mixed Tryz.func50 rfl<|vAu<|vA<|vrT 2<|vc (h2)<|veT<|zE<|vre (True) (Ap<|CB<|decide (z>=(0:Int))) (.inr rfl) ?_;grind
 |false=>
  refine zF zAx mixed Tryz.func50 rfl<|vAu<|vA<|vrT 2<|vc (h2)<|veT<|zE<|vre (True) (Ap<|CB<|decide (z>=(0:Int))) (.inr rfl) ?_;grind
theorem repL_bo(n:Nat):repL n [.val (.bool Ac)]=boD (useP n [] []):=by simp_all [zFc,useP_0]
theorem set_bo(bs:List Bool)(v:Nat):(boD bs).set v (bD Ab)=boD (bs.set v Ab):=by simp
abbrev boB(bs:List Bool):Bk:=⟨boD bs,4,1,Ab,Ac, .plain⟩
abbrev atB(a:At):Bk:=⟨atC a,87,0,Ac,Ac, .plain⟩
theorem lfMany_c(n:Int)(ats:List D)(m:Nat)(h0:0<=n)(h1:n<=32)(hm:32<m):Pure AA 14 [iD n, .row ats m] [] (iD 12):=by
 refine zF zAx mixed Tryz.func14 rfl<|vAu<|zA<|vA<|vew [] [(2,Ac)] (decide (n<0)=Ac)<|vF (n>(32:Int))<|vK<|zA<|vAe<|vT ((m:Int)>(32:Int))<|vAe<|zE<|zH<|vret (True)<|.inr rfl
set_option maxHeartbeats 4000000 in
theorem zSm(n:Nat)(ats:List At)(hn:n<=32)(hm:ats.length<=32)(hl:∀a∈ats,a.V.length<=2000000):Pure AA 14 [iD (n:Nat), .row (ats.flatMap atC) ats.length] [] (iD (if atL n ats≠0 then atL n ats else if(useP n ats []).contains Ac then 22 else 0)):=by
 refine zF zAx mixed Tryz.func14 rfl<|vAu<|zA<|vA<|vew [] [(2,Ac)] (decide ((n:Int)<0)=Ac)<|vF ((n:Int)>(32:Int))<|vK<|zA<|vAe<|vF ((Aa ats:Int)>(32:Int))<|vK<|vA<|vr 3 ((0:Int)<=(n:Int)/\(n:Int)<=(n:Int)/\(↑(1:Nat):Int)*(n:Int)<=(281474976710656:Int)/\(n:Int)<=(281474976710656:Int)/\0<1/\1=1)<|vs 5 (Af 0 0 (Ay (n:Int)) (Ay (n:Int)*1) Ab) (Af 0 0 n n Ab)<|veT<|zA<|vAe<|zJ<|zK (λ(i:Nat)=>fr 75 [(0,iD (n:Int)),(5,Af 0 0 n n Ab),(22,Ak (Al atC ats)<|Aa ats),(23,iD (Aa ats:Int)),(24,iD (i:Int))]) (λ(i:Nat)=>[boB<|useP n (ats.take i) []]) (λ(i:Nat)=>ats.length-i) (λ(i:Nat)=>i<=ats.length/\∀j,j<i->atE n (ats.getD j Ae)=0) 0 ?_ ?_ ?_
 ·grind
 ·refine wkn (fr 75 [(0,iD (↑n:Int)),(4,iD 0),(5,Af 0 0 n n Ab),(22,Ak (Al atC ats) (Aa ats)),(23,iD (↑(Aa ats):Int)),(24,iD 0)]) [Ag (repL n [bD Ac]) 4 1 Ab Ac (kdOf Ac)] (zE3 [(0,1),(5,1),(22,1),(23,1),(24,1)] (iD (↑n:Int)=iD (↑n:Int)/\Af 0 0 n n Ab=Af 0 0 n n Ab/\Ak (Al atC ats) (Aa ats)=Ak (Al atC ats) (Aa ats)/\iD (↑(Aa ats):Int)=iD (↑(Aa ats):Int)/\iD 0=iD (↑(0:Nat):Int)) 1 [] (by kernel_rfl) ⟨rfl,rfl,rfl,rfl,(by kernel_rfl)⟩ (by kernel_rfl) (λ_ _=>rfl) (by simp[updB,repL_bo,zGn]))
 rintro i ⟨h1,h2⟩;rcases AQ i ats.length with h3|h3;case inr=>
  have hco:=zV2 (useP n ats []) n (zPr ..) (by omega);rw[if_neg (by rw[atL_0 λj hj=>h2 j (by omega)];exact λk=>k rfl),Bo h3];have htn:(boD (useP n ats [])).take n=boD (useP n ats []):=Bo (by simp[zPr]);by_cases hc:(useP n ats []).contains Ac=Ab
  ·rw[hc]at hco;rw[if_pos hc];refine vAu<|zA<|vF ((i:Int)<↑(Aa ats))<|vZ2<|zA<|vA<|vrT 1<|vcl [Ak (AB n<|Ai 0<|AM<|boB<|useP n ats []) n,bD Ac] [Ak (boD<|useP n ats []) n,bD Ac] (LeL.of_eq (by simp(disch:=omega) only[Bi,htn])) (by exact hco)<|veT<|vt<|vAe<|zE<|zH<|vret (True)<|.inr rfl
  rw[if_neg hc];rw[Bool.not_eq_true]at hc;rw[hc]at hco;refine vAu<|zA<|vF ((i:Int)<↑(Aa ats))<|vZ2<|zA<|vA<|vrT 1<|vcl [Ak (AB n<|Ai 0<|AM<|boB<|useP n ats []) n,bD Ac] [Ak (boD<|useP n ats []) n,bD Ac] (LeL.of_eq (by simp(disch:=omega) only[Bi,htn])) (by exact hco)<|veT<|vf<|vK<|vAe<|zE<|vret (True)<|.inr rfl
 have hg2:=zC0 zWi ats i h3;have hle:=zFw zWi ats i h3;have hne:=zDe zWi (by decide) ats;have hat:=atL_at h2 h3;have hvl:=hl _ (zCq ats Ae i (h:=h3));have htk:=zEl ats i h3;generalize hA:ats.getD i Ae=a at*;obtain⟨V,ar,R⟩:=a;simp only at hvl;refine vAu<|zA<|vT ((i:Int)<↑(Aa ats))<|vKB<|vA<|vr 2 (ix ↑i ↑(Aa ats) (Al atC ats≠[])/\3<=Aa (Ai (i*3)<|Al atC ats))<|vs 27 (Az<|AB 3<|Ai (i*3)<|Al atC ats) (Az<|atC<|At.mk V ar R)<|ve (am_)<|zA<|vAe<|zJ<|zK (λ(k:Nat)=>fr 75 [(0,iD n),(5,Af 0 0 n n Ab),(7,Ad 1 0),(8,iD (↑k+1)),(22,Ak (Al atC ats)<|Aa ats),(23,iD<|Aa ats),(24,iD i)]) (λ(k:Nat)=>[boB<|useP n (ats.take i) [],atB ⟨V,ar,R⟩]) (λ(k:Nat)=>V.length-k) (λ(k:Nat)=>(k=0\/k+1<=V.length)/\∀j,j<=k->j<V.length->zWq V j=Ab) 0 ?_ ?_ ?_
 ·exact⟨.inl rfl,λj h _=>by
   obtain rfl:j=0:=by omega
   rfl⟩
 ·refine vk 2
 rintro k ⟨k1,k2⟩;rcases AQ (k+1) V.length with k3|k3
 ·have hneV:(V.map λz=>iD z)≠[]:=zAc;have hx:=zMq V (k+1) k3;have hx0:=zMq V k (by omega);have hst:zWq V (k+1)=decide (V.getD k 0<V.getD (k+1) 0):=by simp[zWq]
  have hno:zWq V (k+1)=Ac->atE n ⟨V,ar,R⟩=16:=λh=>by
   grind [ascB,rng_no,atE]
  have e1:((k+1:Nat):Int)-1=(k:Int):=by omega
  have e2:((k:Int)+1)=((k+1:Nat):Int):=by omega
  by_cases hs:V.getD k 0<V.getD (k+1) 0
  ·generalize V.getD (k+1) 0=v at*;generalize V.getD k 0=u at*;refine zA<|vAs<|ve (as_)<|vT ((↑(k+1):Int)<↑(Aa V))<|vKB<|zA<|vd [0,2,3,6,8,1,4,5,7,9,10,11]<|vr 3 (True/\i6 (↑(k+1)-1))<|vs 38 (iD (↑(k+1)-1)) (iD k)<|vr 4 (True/\0<3/\ix ↑k ↑(Aa V) (Ah (λ(z:Int)=>iD z) V≠[]))<|vp 39 k (Ah (λ(z:Int)=>iD z) V)<|vr 1 (0<Aa (Ai k<|Ah (λ(z:Int)=>iD z) V))<|vsh 40 hx0<|vr 2 (0<3/\ix ↑(k+1) ↑(Aa V) (Ah (λ(z:Int)=>iD z) V≠[]))<|vp 44 (k+1) (Ah (λ(z:Int)=>iD z) V)<|vr 1 (0<Aa (Ai (k+1)<|Ah (λ(z:Int)=>iD z) V))<|vsh 45 hx<|veT<|vF (u>=v)<|zT<|zD<|vN<|zB rfl<|vr 3 (i6 (↑(k+1)+1))<|vnil<|zC<|⟨k+1,⟨.inr k3,λj hj hjl=>?_⟩,by omega,?_⟩
   ·grind
   refine vk 2
  have he:atE n ⟨V,ar,R⟩=16:=hno (by rw[hst];exact decide_eq_false hs);rw[he]at hat;rw[if_pos (by rw[hat (by decide)];decide),hat (by decide)];generalize V.getD (k+1) 0=v at*;generalize V.getD k 0=u at*;refine zA<|vAs<|ve (as_)<|vT ((↑(k+1):Int)<↑(Aa V))<|vKB<|zA<|vd [0,2,3,6,8,1,4,5,7,9,10,11]<|vr 3 (True/\i6 (↑(k+1)-1))<|vs 38 (iD (↑(k+1)-1)) (iD k)<|vr 4 (True/\0<3/\ix ↑k ↑(Aa V) (Ah (λ(z:Int)=>iD z) V≠[]))<|vp 39 k (Ah (λ(z:Int)=>iD z) V)<|vr 1 (0<Aa (Ai k<|Ah (λ(z:Int)=>iD z) V))<|vsh 40 hx0<|vr 2 (0<3/\ix ↑(k+1) ↑(Aa V) (Ah (λ(z:Int)=>iD z) V≠[]))<|vp 44 (k+1) (Ah (λ(z:Int)=>iD z) V)<|vr 1 (0<Aa (Ai (k+1)<|Ah (λ(z:Int)=>iD z) V))<|vsh 45 hx<|veT<|vT (u>=v)<|vAe<|zE<|zL<|zH<|zH<|zL<|zH<|zL<|zH<|zH<|zL<|zH<|vret (True)<|.inr rfl
 have hasc:ascB V=true:=rng_yes λj hj=>k2 j (by omega) hj;refine zA<|vAs<|ve (as_)<|vF ((k:Int)+(1:Int)<(Aa V:Int))<|vZ2<|zA<|vA<|ve (as_)<|zJ<|zK (λ(j:Nat)=>fr 75 [(0,iD n),(5,Af 0 0 n n Ab),(7,Ad 1 0),(22,Ak (Al atC ats)<|Aa ats),(23,iD<|Aa ats),(24,iD i),(48,Ak (Ah (λ(z:Int)=>iD z) V)<|Aa V),(49,iD<|Aa V),(50,iD j)]) (λ(j:Nat)=>[boB<|useP n (ats.take i)<|V.take j,atB ⟨V,ar,R⟩]) (λ(j:Nat)=>V.length-j) (λ(j:Nat)=>j<=V.length/\∀t,t<j->t<V.length->inB n (V.getD t 0)=Ab) 0 ?_ ?_ ?_
 ·grind
 ·refine vk 2
 clear k1 k2 k3 k;rintro j ⟨j1,j2⟩;rcases AQ j V.length with j3|j3
 ·have hneV:(V.map λz=>iD z)≠[]:=zAc;have hx:=zMq V j j3;have htv:V.take (j+1)=V.take j++[V.getD j 0]:=zEl V j j3;have hno:inB n (V.getD j 0)=Ac->atE n ⟨V,ar,R⟩=3:=λh=>by
   unfold atE;grind
  by_cases hs:0<=V.getD j 0/\V.getD j 0<n
  ·obtain⟨v,hv⟩:∃v:Nat,V.getD j 0=v:=⟨(V.getD j 0).toNat,by omega⟩;rw[hv]at hx htv hs hno;have hin:inB n (V.getD j 0)=true:=by rw[hv];exact decide_eq_true hs
   have hup:=useP_set n (ats.take i) (V.take j) v (by omega);rw[<-htv]at hup;have hsb:=set_bo (useP n (ats.take i) (V.take j)) v;rw[hup]at hsb;have hul:=zPr n (ats.take i) (V.take j);refine vAu<|zA<|vT ((j:Int)<↑(Aa V))<|vKB<|vA<|vr 1 (ix ↑j ↑(Aa V) (Ah (λ(z:Int)=>iD z) V≠[]))<|vp 52 j (Ah (λ(z:Int)=>iD z) V)<|vr 1 (0<Aa (Ai j<|Ah (λ(z:Int)=>iD z) V))<|vsh 53 hx<|veT<|zA<|vA<|vew [] [(2,Ac)] (decide ((v:Int)<0)=Ac)<|vF ((v:Int)>=(n:Int))<|vK<|zB rfl<|vr 3 ((0:Int)<=(v:Int)/\(v:Int)<↑n)<|vo 63 0 v<|vr 1 (BB (boB<|useP n (AB i ats)<|AB j V)=Ac/\Ab=Ab/\1=1/\v+1<=Aa (AM<|boB<|useP n (AB i ats)<|AB j V)/\¬0∈[])<|vb 0 (Ag (setAt (AM<|boB<|useP n (AB i ats)<|AB j V) v [bD Ab]) (A_<|boB<|useP n (AB i ats)<|AB j V) (Ba<|boB<|useP n (AB i ats)<|AB j V) Ab Ac<|A1<|boB<|useP n (AB i ats)<|AB j V) (Ag (boD<|useP n (AB i ats)<|AB (j+1) V) (4:TypeId) 1 Ab Ac Aq)<|vnil<|zD<|vN<|zB rfl<|vr 2 (i6 (↑j+1))<|vnil<|zC<|⟨j+1,⟨by omega,λt ht htl=>?_⟩,by omega,?_⟩
   ·grind
   refine vk 2
  have he:=hno (decide_eq_false hs);rw[he]at hat;rw[if_pos (by rw[hat (by decide)];decide),hat (by decide)];generalize V.getD j 0=v at*;by_cases hv0:v<0
  ·refine vAu<|zA<|vT ((j:Int)<(Aa V:Int))<|vKB<|vA<|vr 1 (ix (j:Int) (Aa V:Int) (Ah (λ(z:Int)=>iD z) V≠[]))<|vp 52 (j) (Ah (λ(z:Int)=>iD z) V)<|vr 1 (0<Aa (Ai j<|Ah (λ(z:Int)=>iD z) V))<|vsh 53 hx<|veT<|zA<|vA<|vew [] [(2,Ab)] (decide (v<0)=Ab)<|vt<|vAe<|zE<|zH<|zL<|zH<|zH<|zL<|zH<|zL<|zH<|zH<|zL<|zH<|vret (True)<|.inr rfl
  have hvn:(n:Int)<=v:=by omega
  refine vAu<|zA<|vT ((j:Int)<↑(Aa V))<|vKB<|vA<|vr 1 (ix ↑j ↑(Aa V) (Ah (λ(z:Int)=>iD z) V≠[]))<|vp 52 j (Ah (λ(z:Int)=>iD z) V)<|vr 1 (0<Aa (Ai j<|Ah (λ(z:Int)=>iD z) V))<|vsh 53 hx<|veT<|zA<|vA<|vew [] [(2,Ac)] (decide (v<0)=Ac)<|vT (v>=(n:Int))<|vAe<|zE<|zH<|zL<|zH<|zH<|zL<|zH<|zL<|zH<|zH<|zL<|zH<|vret (True)<|.inr rfl
 have hrng:=all_upto (p:=inB n) (d:=0) j3 j2;have hus:useP n (ats.take i) V=useP n (ats.take i++[⟨V,ar,R⟩]) []:=useP_snoc n _ ⟨V,ar,R⟩;rw[Bo j3,hus];have hty:=zP9 ar (R.map rowV) R.length;have htk2:ats.take (i+1)=ats.take i++[⟨V,ar,R⟩]:=htk;rw[<-htk2];by_cases hs:(V.length:Int)=ar
 ·subst hs;have he:atE n ⟨V,V.length,R⟩=0:=by
   grind [atE]
  refine vAu<|zA<|vF ((j:Int)<↑(Aa V))<|vZ2<|zA<|vd [0,3,1,2,4,5,6]<|vr 5 (az_)<|vc hty<|veT<|zEz (t:=(Aa V:Int)!=(Aa V:Int)) (by kernel_rfl) (by simp)<|zT<|zD<|vN<|zB rfl<|vr 2 (i6 (↑i+1))<|vnil<|zC<|⟨i+1,⟨by omega,λt ht=>?_⟩,by omega,?_⟩
  ·grind
  refine vk 1
 have he:atE n ⟨V,ar,R⟩=6:=by
  grind [atE]
 rw[he]at hat;rw[if_pos (by rw[hat (by decide)];decide),hat (by decide)];refine vAu<|zA<|vF ((j:Int)<↑(Aa V))<|vZ2<|zA<|vd [0,3,1,2,4,5,6]<|vr 5 (az_)<|vc hty<|veT<|zFv (t:=(Aa V:Int)!=ar) (by kernel_rfl) (by simpa using by omega)<|vAe<|zE<|zL<|zH<|zH<|zL<|zH<|vret (True)<|.inr rfl
def Tcl(N:Nat)(ch:List Nat)(i:FuncId->Bool):Par:=⟨i,λ_ _=>AL,λk=>decide (k<N)&&!ch.contains k,λ
 | .call {callee:= .value (.tmp _),..}=>Ab
 |_=>Ac,λ_=>Ac⟩
theorem zZm(N:Nat)(ch:List Nat)(i:FuncId->Bool):zA9 AA (Tcl N ch i):=by intro t n f h;cases h
theorem zRd:∀k,k<N->(Tcl N ch i).keep k=Ab\/k∈ch:=λk hk=>by
 by_cases h:k∈ch
 ·exact .inr h
 refine .inl ?_;show(decide (k<N)&&!ch.contains k)=Ab;rw[decide_eq_true hk];simpa using h
theorem Tcl_ch:∀k∈ch,(Tcl N ch i).keep k=false:=λk hk=>by
 show(decide (k<N)&&!ch.contains k)=Ac;simp[hk]
theorem cloneR_a(r:List Va)(n:Nat)(hr:r.length=n)(h0:0<n)(hn:n<=1000000):Acts AA 100 [.osl 0 0 n (n*3) Ab] [roB r] [] (.osl 1 0 n (n*3) Ab) [roB r,roB r]:=by
 have hc:=zAg r;refine zQ (zZm 1 [] λ_=>Ac) mixed Tryz.func100 rfl (λk hk=>by
  have:k=0:=by simpa using hk
  subst this;rfl) ?_
 refine vAu<|zA<|vA<|ve (0<n)<|vf<|vK<|vA<|vr 4 ((True/\0<3/\3=3/\0<=16777216/\0<=9223372036854775807)/\Ab=Ab/\0=0/\0=0/\64=64/\3=3/\Aa (AB (n*3)<|Ai 0<|AM<|roB r)=n*3/\0<3/\0<32/\64=64/\(0+n)*32<=140737488355328/\3=3/\Ac=Ac/\(Ac=Ac\/Ac=Ab))<|vs 2 (Af 1 0 (0+n) ((0+n)*3) Ab) (Af 1 0 n (n*3) Ab)<|veT<|zE<|zN (True) [Af 1 0 n (n*3) Ab] (.inr rfl) ?_;have e:(zG r).take (n*3)=zG r:=Bo (by omega);exact⟨by kernel_rfl,Eq.trans (b:=[roB r,(⟨(zG r).take (n*3),64,3,Ab,Ac, .plain⟩:Bk)]) (by kernel_rfl) (by rw[e])⟩
def GOk(L:Lay)(cr K:Nat):Prop:=∀(S:Js)(B:Bk),S.row.length=L.n->S.ys.length<K->B.nob=Ab->Acts AA 113 [.row (zG S.row) L.n, .own cr 0] (lay L S++[B]) L.ch (bD Ab) (lay L {S with ys:=S.ys++[S.row]}++[B])
abbrev bxB(cr:Nat):Bk:=⟨[.clo (.func 113) [] [.own cr 0]],191,0,Ac,Ac, .plain⟩
theorem zZu{b:Bk}(h:st.length=k):zA0 (st++[b]) [k]=st++[{b with fz:=Ab}]:=by
 subst h;unfold zA0;show(st++[_]).modify st.length _=_;apply BS;grind
def Tkp:Par:=⟨λ_=>Ac,λ_ _=>AL,λ_=>Ab,λ_=>Ac,λ_=>Ac⟩
theorem each1_a(L:Lay)(hL:LOk L)(cr K:Nat)(hc:L.bs L.cb=bxB cr)(hcy:∀ys,L.yb ys L.cb=AL)(hcd:L.cb≠L.jb/\L.cb≠L.rb/\∀i,i<L.na->L.ib i≠L.cb)(h0:0<L.n)(h32:L.n<=32)(hcr:cr<L.N/\cr∉L.ch)(hch:∀k∈L.ch,k<L.N)(hG:GOk L cr K):YOk L K:=λS hsn hsr hsk=>by
 have hlc:(lay L S)[L.cb]?=As (bxB cr):=by
  rw[zD2 hL.cb.1];unfold blk;rw[if_neg hcd.1,if_neg hcd.2.1,zMy hcd.2.2,hcy,<-hc];rfl
 have hlr:=lay_r (S:=S) hL;have hcl:=(cloneR_a S.row L.n hsr h0 (by omega)).at1 (args:=[.osl L.rb 0 L.n (L.n*3) Ab]) L.rb hlr (.inl rfl) (.inl rfl) (zQk []);rw[zAs]at hcl;have hg:Acts AA 113 [.osl L.N 0 L.n (L.n*3) Ab, .own cr 0] (lay L S++[roB S.row]) L.ch (bD Ab) (lay L {S with ys:=S.ys++[S.row]}++[{roB S.row with fz:=Ab}]):=by
  have h:=hG S {roB S.row with fz:=Ab} hsr hsk rfl;have hlast:(lay L S++[roB S.row])[L.N]?=As (roB S.row):=zAt zAs;have hfz:frz Ab (lay L S++[roB S.row]) zAe (.osl L.N 0 L.n (L.n*3) Ab)=As (.row (zG S.row) L.n,[L.N]):=by
   unfold zAe;rw[frz,hlast];have hc:=zAg S.row;simp only[show(roB S.row).nob=Ab from rfl,if_true];rw[Bi,Bo (by show(zG S.row).length<=_;rw[hc,hsr];exact AV _)];rfl
  have hw:=Weak.frzSlot (T:=Tkp) (sl:=[.osl L.N 0 L.n (L.n*3) Ab, .own cr 0]) (st:=lay L S++[roB S.row]) (s:=0) rfl hfz;rw[zZu zAs]at hw;exact h.pre hw λ_ _ _=>rfl
 have key:Acts AA 135 [.osl L.rb 0 L.n (L.n*3) Ab, .own L.cb 0] (lay L S) L.ch (bD Ab) (lay L {S with ys:=S.ys++[S.row]}++[{roB S.row with fz:=Ab}]):=by
  refine zAm (zZm L.N L.ch λf=>f==113||f==100) mixed Tryz.func135 rfl (λk hk=>zRd k (by rwa[zAs]at hk))<|vA<|zAb [] [(3,bD Ac)] ?_;refine zA<|zA6 [1,0] [(2,[(0,100000)],[3,4])] rfl ?_;refine zA3 1 [(5,Af (BF L) 0 (AY L) (AY L*3) Ab)] ?_;refine zAh (Ag [AO (Fn.func 113) [] [Ad cr 0]] 191 0 Ac Ac Aq) (Lay.cb L) (Bb 1 1) (AO (Fn.func 113) [] [Ad cr 0]) hlc (by simp) ?_;refine zAk ?_ (by kernel_rfl);refine zBy rfl rfl ?_ (hf:=zDr (λx hx=>by rw[zAs];simp at hx;subst hx;exact hL.sm));refine zZ [] [] [Af (BF L) 0 (AY L) (AY L*3) Ab] [Af (BF L) 0 (AY L) (AY L*3) Ab] (AX _) (by exact hcl) ?_;refine zAk ?_ (by kernel_rfl);refine zDo (by rw[AU];exact Nat.le_add_right _ _) (zDi 0 100000 (bxB cr) L.cb (0<1) (.clo (.func 113) [] [.own cr 0]) (by kernel_rfl) (by
   rw[List.getElem?_take_of_lt (by have:=hL.cb.1;have:=hL.sm;omega)];exact zA2 hlc) (by decide) (by kernel_rfl)) ?_
  focus
   refine zJp [] [] [Af (Lay.N L) 0 (AY L) (AY L*3) Ab,Ad cr 0] [Af (Lay.N L) 0 (AY L) (AY L*3) Ab,Ad cr 0] (¬BF L∈Lay.ch L/\¬Lay.cb L∈Lay.ch L/\¬cr∈Lay.ch L/\¬BF L∈Lay.ch L/\¬Lay.N L∈Lay.ch L/\True) (by kernel_rfl) trivial (AX _) (by exact hg) (by kernel_rfl) ?_ ?_ ?_;rotate_left;rotate_left;refine zA3 1 [(3,bD Ab)] ?_;refine zAk ?_ (by kernel_rfl);refine zBv<|vN<|zE<|zN (True) [Ap<|CB Ab] (.inr rfl) ?_;rotate_left
  ·exact Tcl_ch
  ·exact⟨hL.cht.2.1,hL.cb.2,hcr.2,hL.cht.2.1,λh=>by have:=hch _ h;omega,trivial⟩
  exact⟨by kernel_rfl,rfl⟩
 exact key.tail zAs (by rw[zAs];exact AV _) (zG8 hL) (λj hj=>by simp only[refs])
theorem each_a(m:Mk)(hm:MOk m)(ha:AOk m)(cr:Nat)(ch:List Nat)(yb:List (List Va)->Nat->Option Bk)(hy:YbOk m ch yb)(hp:m.p=m.cb+1)(hbx:m.base m.cb=bxB cr)(h0:0<m.n)(hcr:cr<m.cb/\cr∉ch)(hch:∀k∈ch,k<m.cb)(hn1:∀k,k<m.cb->namB m.cb (m.base k))(hn2:∀ys k b,yb ys k=As b->k<m.cb/\namB m.cb b)(M K:Nat)(hM:∀a∈m.A,a.2.length+m.n<=M)(hG:GOk (qL m ch yb) cr K)(hK:(jn m).length<=K)(hC:(m.A.length+1)*(cE m.A.length M m.n)+1<=big)(hchk:Pure AA 14 [iD (m.n:Nat),atsD m.A] [] (iD 0))(st:List Bk)(hst:st.length=m.cb)(hb:∀k,k<m.cb->st[k]?=As (m.base k)):∃z:Nat,z<=big/\Acts AA 112 [iD (m.n:Nat), .clo (.func 113) [] [.own cr 0],atsD m.A] st ch (.tup [iD (z:Nat),iD 0]) ((AK m.cb).map λk=>(yb (jn m) k).getD (m.base k)):=by
 have hL:=qL_ok hm ha hy;have hn:=ha.n;have hcy:∀ys,yb ys m.cb=none:=λys=>by
  cases e:yb ys m.cb with
  |none=>rfl
  |some b=>exact absurd (hn2 ys _ b e).1 (Nat.lt_irrefl _)
 have hcN:m.cb<m.p:=hm.cb;have hY:YOk (qL m ch yb) K:=each1_a (qL m ch yb) hL cr K (by
  show qblk m _ _ m.cb=_;unfold qblk;rw[if_pos hcN,hbx]) hcy ⟨by show m.cb≠m.p+2;omega,by show m.cb≠m.p;omega,λi hi=>by show m.p+4+m.n+5*i+4≠m.cb;omega⟩ h0 hn ⟨by show cr<m.p+4+m.n+5*m.A.length;omega,hcr.2⟩ (λk hk=>by have:=hch k hk;show k<m.p+4+m.n+5*m.A.length;omega) hG
 have hst1:(st++[bxB cr]).length=m.p:=by rw[AU,hst,hp];rfl
 obtain⟨z,hz,hrun⟩:=run_a m hm ha ch yb hy M K hM hY hK hC (st++[bxB cr]) hst1 (λk hk=>by
  rcases AQ k m.cb with h|h
  ·exact zA2 (hb k h)
  obtain rfl:k=m.cb:=by omega
  rw[zAt hst,hbx])
 refine⟨z,hz,?_⟩;have hsp:(AK m.p).map (λk=>(yb (jn m) k).getD (m.base k))=(AK m.cb).map (λk=>(yb (jn m) k).getD (m.base k))++[bxB cr]:=by
  grind [BX,jn]
 rw[hsp]at hrun;have key:Acts AA 112 [iD (m.n:Nat), .clo (.func 113) [] [.own cr 0],atsD m.A] st ch (.tup [iD (z:Nat),iD 0]) ((AK m.cb).map (λk=>(yb (jn m) k).getD (m.base k))++[bxB cr]):=by
  refine zAm (zZm m.cb ch λf=>f==134) mixed Tryz.func112 rfl (λk hk=>zRd k (by rwa[hst]at hk))<|vA<|zBa (A7 m) (True) (Ag [AO (Fn.func 113) [] [Ad cr 0]] 191 0 Ac Ac Aq) (Ad 0 0) hst ?_;refine zAb [1] [(6,iD 0),(7,iD 0)] ?_;refine zA<|vA<|zA3 2 [(9,iD ↑(Ar m)),(10,(q9_ m))] ?_;refine zTz [iD ↑(Ar m),(q9_ m)] (by exact hchk) ?_;refine zAb [9,10,11] [(8,iD 0)] ?_;refine vA<|zAb [12] [(13,bD Ac)] ?_;refine vf<|vK<|zA<|vA<|zAh (Ag [AO (Fn.func 113) [] [Ad cr 0]] 191 0 Ac Ac Aq) (A7 m) (Bb 1 1) (AO (Fn.func 113) [] [Ad cr 0]) (zAt hst) (by simp) ?_;focus
   refine zAb [8,13,15] [(16,bD Ac)] ?_;refine vf<|vK<|vA<|zA3 3 [(17,iD ↑(Ar m)),(18,(q9_ m)),(19,AO (Fn.func 135) [] [Ad (A7 m) 0])] ?_;refine zJp [] [] [iD ↑(Ar m),(q9_ m),AO (Fn.func 135) [] [Ad (A7 m) 0]] [iD ↑(Ar m),(q9_ m),AO (Fn.func 135) [] [Ad (A7 m) 0]] (¬A7 m∈ch/\¬A7 m∈ch/\True) (by kernel_rfl) trivial (AX _) (by exact hrun) (by kernel_rfl) ?_ ?_ ?_;rotate_left;rotate_left;refine st_end0 [] [] [0,2,4,16,17,18,19,20,21,22] (0<2/\1<2) [(6,iD z)] (by kernel_rfl) (by omega) ?_;refine zE<|zN (True) [Ap<|Ax Bp (z:Int),q2_] (.inr rfl) ?_;rotate_left
  ·exact Tcl_ch
  ·grind
  exact⟨by kernel_rfl,rfl⟩
 refine key.tail (N:=m.cb) (by simp) (by rw[hst];exact AV _) (λb hb=>?_) (λj hj=>by simp only[refs,zX,A6]);obtain⟨k,hk,rfl⟩:=BH.1 hb;show namB m.cb ((yb (jn m) k).getD (m.base k));cases e:yb (jn m) k with
 |none=>exact hn1 k (Bx.1 hk)
 |some b=>exact(hn2 _ _ b e).2
abbrev rvB(ra n:Nat):Bk:=⟨[.osl ra 0 n n Ab],65,0,Ac,Ac, .plain⟩
abbrev raB(ys:List Rw):Bk:=⟨ys.map rowV,54,1,Ab,Ac, .plain⟩
def ybM(cr ra:Nat)(ys:List Rw)(k:Nat):Option Bk:=if k=cr then As (rvB ra ys.length)else if k=ra then As (raB ys)else AL
structure MkM(m:Mk)(cr ra:Nat):Prop where
 p:m.p=m.cb+1
 lc:cr<m.cb
 la:ra<m.cb
 ne:cr≠ra
 bx:m.base m.cb=bxB cr
 bcr:m.base cr=rvB ra 0
 bra:m.base ra=raB []
 nam:∀k,k<m.cb->namB m.cb (m.base k)
 kill:∀k,k<m.cb->k≠cr->zAn ra (m.base k)=m.base k
section
variable{m:Mk}{cr ra:Nat}
theorem MkM.ok(h:MkM m cr ra):MOk m where
 bs k hk:=by
  have hp:=h.p
  rcases AQ k m.cb with h1|h1
  ·exact(h.nam k h1).imp id λh j hj=>h j (by omega)
  obtain rfl:k=m.cb:=by omega
  rw[h.bx]
  have:=h.lc
  refine .inr λj hj=>?_
  simp only[zX,refs,A6,BT,beq_eq_false_iff_ne]
  omega
 cb:=by have:=h.p;omega
theorem ybM_nam(h:MkM m cr ra)(ys:List Rw)(k:Nat)(b:Bk)(e:ybM cr ra ys k=As b):k<m.cb/\namB m.cb b:=by
 unfold ybM at e;have h1:=h.lc;have h2:=h.la;split at e
 ·cases e;refine⟨by omega, .inr λj hj=>?_⟩;simp only[zX,refs,A6,beq_eq_false_iff_ne];omega
 split at e
 ·cases e;exact⟨by omega, .inl rfl⟩
 cases e
theorem MkM.yb(h:MkM m cr ra):YbOk m [ra] (ybM cr ra) where
 c k hk:=by
  have:=h.la;have:=h.p
  rw[By.1 hk];omega
 cb hk:=by
  have:=h.la
  have e:=By.1 hk
  omega
 b ys k b e:=by
  obtain⟨h1,h2⟩:=ybM_nam h ys k b e
  have hp:=h.p
  exact⟨by omega,h2.imp id λh j hj=>h j (by omega)⟩
 z k b e:=by
  unfold ybM at e
  split at e
  ·rename_i e1;subst e1;cases e;exact h.bcr.symm
  split at e
  ·rename_i e1;subst e1;cases e;exact h.bra.symm
  cases e
theorem MkM.qk(h:MkM m cr ra)(hk:k≠cr):zAn ra (qblk m ix al k)=qblk m ix al k:=by
 have hp:=h.p;have h1:=h.la;unfold qblk;split
 ·rename_i hkp;rcases AQ k m.cb with h3|h3
  ·exact h.kill k h3 hk
  obtain rfl:k=m.cb:=by omega
  rw[h.bx]
  have:=h.ne
  simp_all [zA1,only,zX,refs,A6,BT]
 split
 ·exact zB7 rfl
 split
 ·refine zA1 ?_;have key:∀ls:List Nat,zX ra (ls.map (ltP m ix))=false:=by
   intro ls;induction ls with
   |nil=>simp only[List.map_nil,zX]
   |cons v ls ih=>
    simp only[BR,zX,refs,ih,A6,beq_eq_false_iff_ne];omega
  exact key _
 split
 ·refine zA1 ?_;simp only[zX,refs,A6,BT,BO,beq_eq_false_iff_ne];omega
 split
 ·exact zA1 (zGk m ra (by omega) al)
 split
 ·exact zA1 (zGk m ra (by omega) _)
 unfold qatm;split
 ·simp_all [zA1,only,zX,refs,A6]
 split
 ·exact zB7 rfl
 split
 ·exact zA1 (zMm (zBd _) ra)
 simp_all [zA1,only,zX,refs,A6]
theorem MkM.bk(h:MkM m cr ra){S:Js}(hk:k≠cr):zAn ra (blk (qL m [ra] (ybM cr ra)) S k)=blk (qL m [ra] (ybM cr ra)) S k:=by
 have hp:=h.p;have h1:=h.la;unfold blk;split
 ·refine zA1 ?_;show zX ra [.osl m.p 0 m.n (m.n*3) Ab, .osl (m.p+1) 0 m.n m.n Ab,iD (S.s:Nat), .clo (.func 135) [] [.own m.cb 0]]=Ac;simp only[zX,refs,A6,BT,BO,beq_eq_false_iff_ne];omega
 split
 ·exact zB7 rfl
 split
 ·exact zA1 (zMm (zBd _) ra)
 show zAn ra ((ybM cr ra S.ys k).getD (qblk m _ _ k))=(ybM cr ra S.ys k).getD (qblk m _ _ k);unfold ybM;rw[if_neg hk];split
 ·exact zB7 rfl
 exact h.qk hk
theorem MkM.gcr(h:MkM m cr ra)(S:Js):(lay (qL m [ra] (ybM cr ra)) S)[cr]?=As (rvB ra S.ys.length):=by
 have hp:=h.p;have h1:=h.lc;rw[zD2 (by show cr<m.p+4+m.n+5*m.A.length;omega),zWd S (by omega)];unfold ybM;rw[if_pos rfl];rfl
theorem MkM.gra(h:MkM m cr ra)(S:Js):(lay (qL m [ra] (ybM cr ra)) S)[ra]?=As (raB S.ys):=by
 have hp:=h.p;have h1:=h.la;rw[zD2 (by show ra<m.p+4+m.n+5*m.A.length;omega),zWd S (by omega)];unfold ybM;rw[if_neg (Ne.symm h.ne),if_pos rfl];rfl
theorem MkM.step(h:MkM m cr ra)(S:Js)(y:Rw):(((lay (qL m [ra] (ybM cr ra)) S).map (zAn ra)).set ra (raB (S.ys++[y]))).set cr (rvB ra (S.ys.length+1))=lay (qL m [ra] (ybM cr ra)) {S with ys:=S.ys++[y]}:=by
 apply BS;intro j;have hgc:=h.gcr {S with ys:=S.ys++[y]};have hga:=h.gra {S with ys:=S.ys++[y]};have hlen:(lay (qL m [ra] (ybM cr ra)) S).length=m.p+4+m.n+5*m.A.length:=zAs;have hlen2:(lay (qL m [ra] (ybM cr ra)) {S with ys:=S.ys++[y]}).length=m.p+4+m.n+5*m.A.length:=zAs;rw[Cz,BP,Bh,hlen];split
 ·grind
 rename_i e;rw[Cz,Bh,hlen];split
 ·grind
 rename_i e2;rw[Cc];rcases AQ j (m.p+4+m.n+5*m.A.length)with hj|hj
 ·rw [zD2 hj,zD2 hj,Cr,h.bk (Ne.symm e)];congr 1;have hyb:∀ys,ybM cr ra ys j=none:=λys=>by
   grind [ybM]
  unfold blk;split
  ·rfl
  split
  ·rfl
  split
  ·rfl
  show(ybM cr ra S.ys j).getD _=(ybM cr ra (S.ys++[y]) j).getD _;rw[hyb,hyb]
 grind
theorem MkM.gk(h:MkM m cr ra)(S:Js)(b:Bk):(((lay (qL m [ra] (ybM cr ra)) S).map (zAn ra)).set ra b)[cr]?=As ⟨[.unk],65,0,Ac,Ac, .plain⟩:=by
 rw[List.getElem?_set_ne (Ne.symm h.ne),Cc,h.gcr S,Cr];congr 1;show(⟨[.osl ra 0 S.ys.length S.ys.length Ab].map (zAl ra),65,0,Ac,Ac, .plain⟩:Bk)=_;grind [zQw]
abbrev q13_(x0:Js)(x1:Mk):=Ak (zG (Js.row x0)) (Ar x1)
theorem mat2_a(h:MkM m cr ra)(ha:AOk m):GOk (qL m [ra] (ybM cr ra)) cr 65536:=by
 intro S B hr hy hB;have hcr:=h.gcr S;have hra:=h.gra S;have hne:=h.ne;have hl0:(lay (qL m [ra] (ybM cr ra)) S).length=m.p+4+m.n+5*m.A.length:=zAs;have hl1:(lay (qL m [ra] (ybM cr ra)) S++[B]).length=m.p+4+m.n+5*m.A.length+1:=by rw[AU,hl0];rfl
 have h1:=h.p;have h2:=h.lc;have h3:=h.la;have key:Acts AA 113 [.row (zG S.row) m.n, .own cr 0] (lay (qL m [ra] (ybM cr ra)) S++[B]) [ra] (bD Ab) (lay (qL m [ra] (ybM cr ra)) {S with ys:=S.ys++[S.row]}++[B]++[⟨[.row (zG S.row) m.n],54,1,Ab,Ac, .plain⟩]):=by
  refine zAm (zZm (m.p+4+m.n+5*m.A.length+1) [ra] λ_=>Ac) mixed Tryz.func113 rfl (λk hk=>zRd k (by rwa[hl1]at hk))<|vA<|zAb [] [(3,bD Ac)] ?_;refine vA<|zAh (Ag [Af ra 0 (Aa<|A5 S) (Aa<|A5 S) Ab] 65 0 Ac Ac Aq) (cr) (Bb 1 1) (Af ra 0 (Aa<|A5 S) (Aa<|A5 S) Ab) (zA2 hcr) (by simp) ?_;refine zA3 1 [(5,(q13_ S m))] ?_;refine zBa (Aj m+4+Ar m+5*Aa (AF m)+1) ((1=1/\1<=1/\True)/\0<1/\1=1/\1<=16777216/\1<=9223372036854775807) (Ag [(q13_ S m)] 54 1 Ab Ac Aq) (Af 0 0 1 1 Ab) hl1 ?_ (hp:=⟨⟨(by kernel_rfl),⟨(by omega),trivial⟩⟩,(by omega)⟩);refine zLs (Ag (Ah rowV<|A5 S) 54 1 Ab Ac Aq) (Ag [(q13_ S m)] 54 1 Ab Ac Aq) 4 (ra) (Aj m+4+Ar m+5*Aa (AF m)+1) (Ab=Ab/\Aa (Ah rowV<|A5 S)=Aa (A5 S)*1/\Aa (A5 S)=Aa (A5 S)*1/\54=54/\1=1/\1=1/\0<1/\0<24/\54=54/\(Aa (A5 S)+1)*24<=140737488355328/\1=1/\Bc Aq=Ac/\(zCt AA (Tcl (Aj m+4+Ar m+5*Aa (AF m)+1) [ra] λ(x:FuncId)=>Ac) 65=Ac\/Bf Aq=Ab)) (cr≠ra/\Aj m+4+Ar m+5*Aa (AF m)+1≠ra/\True) (Ag (Ah rowV (A5 S)++[(q13_ S m)]) 54 1 Ab Ac Aq) (Af ra 0 (Aa (A5 S)+1) ((Aa (A5 S)+1)*1) Ab) (by kernel_rfl) (zA2<|zA2 hra) (zAt hl1) ?_ (by kernel_rfl) ⟨(by omega),⟨(by omega),trivial⟩⟩ ?_ ?_
  ·exact⟨rfl,by simp,by omega,rfl,rfl,rfl,by decide,by decide,rfl,by have:S.ys.length<65536:=hy;omega,rfl,rfl, .inl (by kernel_rfl)⟩
  ·grind [Tcl_ch]
  rw[kill1 (k:=ra) (by rw[hl1];omega) (zB7 rfl),kill1 (k:=ra) (by rw[hl0];omega) (zB7 hB)];refine zB6 (Ag [Uk] 65 0 Ac Ac Aq) (cr) (Ac=Ac/\Ab=Ab/\1=1/\1<=1) (Ag [Af ra 0 (Aa (A5 S)+1) ((Aa (A5 S)+1)*1) Ab] 65 0 Ac Ac Aq) (zA2<|zA2<|h.gk S _) ⟨(by kernel_rfl),⟨(by kernel_rfl),(by omega)⟩⟩ ?_;have hcs:S.ys.map rowV++[.row (zG S.row) m.n]=(S.ys++[S.row]).map rowV:=by
   rw[BY];show _=_++[rowV S.row];rw[<-(show S.row.length=m.n from hr)]
  have hcr2:=h.gcr {S with ys:=S.ys++[S.row]};rw[show(S.ys++[S.row]).length=S.ys.length+1 by simp]at hcr2;refine zF1 (lay (qL m [ra]<|ybM cr ra) {S with ys:=S.ys++[S.row]}++[B]++[⟨[.row (zG S.row) m.n],54,1,Ab,Ac,.plain⟩]) ?_ ?_
  ·rw[hcs,zBh (by rw[AU,BP,Bh,hl0];omega),zBh (by rw[BP,Bh,hl0];omega),<-h.step S S.row,Bn]
  refine zAb [0,5,6,7] [] ?_;refine vA<|zAh (Ag [Af ra 0 (Aa (A5 S)+1) (Aa (A5 S)+1) Ab] 65 0 Ac Ac Aq) (cr) (Bb 1 1) (Af ra 0 (Aa (A5 S)+1) (Aa (A5 S)+1) Ab) (zA2<|zA2 hcr2) (by simp) ?_;refine zAb [1,8,9,10] [(3,bD<|decide ((↑(Aa (A5 S)+1):Int)<=(65536:Int)))] ?_;refine zE<|zN (True) [Ap<|CB<|decide ((↑(Aa (A5 S)+1):Int)<=(65536:Int))] (.inr rfl) ?_;have hd:decide (((S.ys.length+1:Nat):Int)<=65536)=true:=decide_eq_true (by omega);exact⟨Eq.trans (b:=bD (decide (((S.ys.length+1:Nat):Int)<=65536))) (by kernel_rfl) (by rw[hd]),rfl⟩
 exact key.tail (N:=m.p+4+m.n+5*m.A.length+1) (by rw[AU,zAs];rfl) (by rw[hl1];exact AV _) (λb hb=>by
  have hL:=qL_ok h.ok ha h.yb;rcases B3.1 hb with hb|hb
  ·exact(zG8 hL b hb).imp id λk j hj=>k j (by have hj:m.p+4+m.n+5*m.A.length+1<=j:=hj;show m.p+4+m.n+5*m.A.length<=j;omega)
  rw[By.1 hb];exact .inl hB) (λj hj=>by simp only[refs])
end
theorem zSx(p:Nat->Bool)(V:List Nat)(i:Nat)(h:i<V.length):(V.take (i+1)).filter p=(V.take i).filter p++if p (V.getD i 0)then[V.getD i 0]else[]:=by
 grind [BI,AS,List.filter,only]
theorem zSy(p:Nat->Bool)(V:List Nat):∀i,i<=V.length->((V.take i).filter p).length=(((AK V.length).take i).filter λj=>p (V.getD j 0)).length
 |0,_=>by simp
 |i+1,h=>by
  rw[zSx p V i h,zJg p V i h,AU,AU,zSy p V i (by omega)];split<;>rfl
theorem zYz(p:Nat->Bool)(V:List Nat):(V.filter p).length=(zBc p V).length:=by
 have h:=zSy p V V.length (AV _);rw[Bq,Bo (by simp)]at h;exact h
theorem zKa(p:Nat->Bool)(V:List Nat):∀c∈zBc p V,c<V.length:=λc hc=>Bx.1 (CJ.1 hc).1
abbrev nl0:D:= .val (.slice AL 0 0)
abbrev aaB(x y z:D):Bk:=⟨[x,y,z],87,0,Ac,Ac, .plain⟩
abbrev q14_(x0:List Nat):=Ak (nsD x0) (Aa x0)
set_option maxHeartbeats 2000000 in
theorem project_c(V:List Nat)(R:List Rw)(m:Nat)(hm:m<4294967296)(hV:V.Pairwise (· <·))(hV2:∀v∈V,v<32)(hl:V.length<=32)(hR:R.length<=65536)(hRl:∀r∈R,r.length=V.length):Pure AA 111 [.agg [.row (nsD V) V.length,iD (V.length:Nat), .row (R.map rowV) R.length],u32D m] [] (.tup [.agg [.row (nsD (V.filter λv=>m.testBit v)) (V.filter λv=>m.testBit v).length,iD ((V.filter λv=>m.testBit v).length:Nat), .row ((relR (R.map λr=>zM r (zBc (λv=>m.testBit v) V))).map rowV) (relR (R.map λr=>zM r (zBc (λv=>m.testBit v) V))).length],iD 0]):=by
 have hra:=zP9 (V.length:Nat) (R.map rowV) R.length;refine zF zAx mixed Tryz.func111 rfl<|vAu<|zA<|vAe<|zJ<|zK (λ(i:Nat)=>fr 96 [(1,u32D m),(2,Ad 0 0),(4,Ad 1 0),(6,iD (i:Int))]) (λ(i:Nat)=>[aaB (.row (nsD V) V.length) (iD (V.length:Nat))<|.row (R.map rowV) R.length,aaB nl0 (iD 0) nl0]) (λ(i:Nat)=>V.length+1-i) (λ(i:Nat)=>1<=i/\i<=V.length+1) 1 ?_ ?_ ?_
 ·omega
 ·refine vk 2
 rintro i ⟨h1,h2⟩;rcases AQ i V.length with h3|h3
 ·have e1:(((i:Nat):Int)-1).toNat=i-1:=by omega
  have h5:V.getD (i-1) 0<V.getD i 0:=by
   grind [CY,AS]
  refine zA<|vAs<|ve (as_)<|vT ((i:Int)<↑(Aa V))<|vKB<|zA<|vd [0,2,3,6,8,1,4,5,7,9,10,11]<|vr 7 (True/\i6 (↑i-1)/\True/\0<3/\ix ((i:Int)-(1:Int)) (Aa V:Int) (nsD V≠[])) ?_ ⟨trivial,(by omega),trivial,(by omega),⟨(by omega),⟨(by omega),(by exact zAc)⟩⟩⟩;refine vs 26 (AG<|Ai (Ay ((i:Int)-(1:Int))*1)<|nsD V) (AG<|Ai (i-1)<|nsD V)<|vr 1 (0<Aa (Ai (i-1)<|nsD V))<|vs 27 (A9 (Ai (i-1)<|nsD V) Uk) (iD (↑(Au V (i-1) 0):Int)) (hd:=by simp(disch:=omega) only[zBr])<|vr 2 (0<3/\ix ↑i ↑(Aa V) (nsD V≠[])) (vp 31 i (nsD V)<|vr 1 (0<Aa (Ai i<|nsD V))<|vs 32 (A9 (Ai i<|nsD V) Uk) (iD ↑(Au V i 0)) (hd:=by simp(disch:=omega) only[zBr])<|veT<|vF ((↑(Au V (i-1) 0):Int)>=(↑(Au V i 0):Int))<|zT<|zD<|vN<|zB rfl ?_) ⟨(by omega),⟨(by omega),⟨(by omega),(by exact zAc)⟩⟩⟩;refine vr 3 (i6 (↑i+1))<|vnil<|zC<|⟨i+1,by omega,by omega,?_⟩;refine vk 2
 refine zA<|vAs<|ve (as_)<|vF ((i:Int)<↑(Aa V))<|vZ2<|zA<|vA<|ve (as_)<|zJ<|zK (λ(i:Nat)=>fr 96 [(1,u32D m),(2,Ad 0 0),(4,Ad 1 0),(36,(q14_ V)),(37,iD<|Aa V),(38,iD i)]) (λ(i:Nat)=>[aaB (.row (nsD V) V.length) (iD (V.length:Nat))<|.row (R.map rowV) R.length,aaB nl0 (iD 0) nl0]) (λ(i:Nat)=>V.length-i) (λ(i:Nat)=>i<=V.length) 0 ?_ ?_ ?_
 ·omega
 ·refine vk 2
 intro i h1;rcases AQ i V.length with h3|h3
 ·have h5:=hV2 _ (zBj V i h3);refine vAu<|zA<|vT ((i:Int)<↑(Aa V))<|vKB<|vA<|vr 1 (ix ↑i ↑(Aa V) (nsD V≠[])) ?_ ⟨(by omega),⟨(by omega),(by exact zAc)⟩⟩;refine vp 40 i (nsD V)<|vr 1 (0<Aa (Ai i<|nsD V))<|vs 41 (A9 (Ai i<|nsD V) Uk) (iD ↑(Au V i 0)) (hd:=by simp(disch:=omega) only[zBr])<|veT<|vA<|vew [] [(2,Ac)] (decide ((↑(Au V i 0):Int)<0)=Ac)<|vF ((↑(Au V i 0):Int)>=(32:Int))<|zT<|zD<|vN<|zB rfl<|vr 2 (i6 (↑i+1))<|vnil<|zC<|⟨i+1,by omega,by omega,?_⟩;refine vk 2
 refine vAu<|zA<|vF ((i:Int)<↑(Aa V))<|vZ2<|zA<|zA<|vd [0,3,1,2,4,5,6]<|vr 5 (az_)<|vc hra<|veT<|zEz (t:=(Aa V:Int)!=(Aa V:Int)) (by kernel_rfl) (by simp)<|vK<|vAe<|vA<|vrT 1<|vnil<|zC<|vnn (fr 96 [(1,u32D m),(2,Ad 0 0),(4,Ad 1 0),(9,Ad 2 0),(10,nl)]) [aaB (Ak (nsD V)<|Aa V) (iD<|Aa V)<|Ak (Ah rowV R)<|Aa R,aaB nl0 (iD 0) nl0,Ag [nl,iD 0,nl] 87 0 Ac Ac Aq]<|zB2 (Weak.nilC (j:=2) (i:=0) (ej:=aaB nl0 (iD 0) nl0) (intB []) rfl rfl rfl rfl) ?_;refine zA<|vAs<|ve (as_)<|zJ<|zC2 (λ(i:Nat)(l1:List Nat)(l2:List Nat)=>fr 96 [(1,u32D m),(2,Ad 0 0),(4,Ad 1 0),(9,Ad 2 0),(10,Af 4 0 (Aa l2) (Aa l2) Ab),(59,(q14_ V)),(60,iD<|Aa V),(61,iD i)]) (λi l1 l2=>[aaB (.row (nsD V) V.length) (iD (V.length:Nat))<|.row (R.map rowV) R.length,aaB nl0 (iD 0) nl0,aaB (.osl 3 0 l1.length l1.length Ab) (iD 0) nl0,intB<|nsD l1,intB<|nsD l2]) (λi l1 l2=>V.length-i) (λ(i:Nat)(l1 l2:List Nat)=>i<=V.length/\l1=(V.take i).filter (λv=>m.testBit v)/\l2=((AK V.length).take i).filter λj=>m.testBit (V.getD j 0)) 0 [] [] ?_ ?_ ?_
 ·grind
 ·refine vk 4
 rintro i l1 l2 ⟨h1,h2,h2'⟩;rcases AQ i V.length with h3|h3
 ·have h4:=zSx (λv=>m.testBit v) V i h3;have h4':=zJg (λv=>m.testBit v) V i h3;rw[<-h2]at h4;rw[<-h2']at h4';have hlen:l1.length<=32:=by rw[h2];exact A0 (BC _ _) (by simp;omega)
  have hlen':l2.length<=32:=by rw[h2'];exact A0 (BC _ _) (by simp;omega)
  have h5:=hV2 _ (zBj V i h3);focus
   refine vAu<|zA<|vT ((i:Int)<↑(Aa V))<|vKB<|vA<|vr 2 (ix ↑i ↑(Aa V) (nsD V≠[])) ?_ ⟨(by omega),⟨(by omega),(by exact zAc)⟩⟩;refine vp 64 i (nsD V)<|vr 1 (0<Aa (Ai i<|nsD V))<|vs 65 (A9 (Ai i<|nsD V) Uk) (iD ↑(Au V i 0)) (hd:=by simp(disch:=omega) only[zBr])<|veT<|vA<|vr 3 ((0:Int)<=(↑(Au V i 0):Int))<|vs 68 (Ap<|Ax BV<|Int.fdiv (m:Int) ((2:Int)^min (Ay (↑(Au V i 0):Int)) 32)) (dig (m>>>Au V i 0)) (hd:=by simp(disch:=omega) only[BA,zDw])<|vrT 1<|vs 69 (Ap<|Ax BV<|BU BV (↑(B9 (Br 32 (↑(m>>>Au V i 0):Int)&&&Br 32 (1:Int))):Int)) (dig<|B9 (Br 32 (↑(m>>>Au V i 0):Int)&&&Br 32 (1:Int))) (hd:=by simp(disch:=omega) only[zAu])<|vrT 1<|vs 70 (bD ((↑(B9 (Br 32 (↑(m>>>Au V i 0):Int)&&&Br 32 (1:Int))):Int)==(1:Int))) (bD<|Bs m<|Au V i 0) (hd:=by simp(disch:=omega) only[zWe])<|veT<|zA5 (t:=Bs m (Au V i 0)) (by kernel_rfl) (λhc=>?_)<|λhc=>?_;refine vA<|vr 7 (True/\0<3/\((1=1/\1<=1/\True)/\0<1/\1=1/\1<=16777216/\1<=9223372036854775807)/\(BJ (intB<|nsD l1)=Ab/\Aa (AM<|intB<|nsD l1)=Aa l1*1/\Aa l1=Aa l1*1/\A_ (intB<|nsD l1)=3/\Ba (intB<|nsD l1)=1/\1=1/\0<1/\0<8/\3=3/\(Aa l1+1)*8<=140737488355328/\1=1/\Bc (A1<|intB<|nsD l1)=Ac/\(Ac=Ac\/Bf (A1<|intB<|nsD l1)=Ab))/\aD_)<|vb 2 (Ag [Af 3 0 (Aa l1+1) ((Aa l1+1)*1) Ab,iD 0,nl] 87 0 Ac Ac Aq) (Ag [Af 3 0 (Aa l1+1) (Aa l1+1) Ab,iD 0,nl] 87 0 Ac Ac Aq)<|veT<|zB rfl<|vr 5 (an_ (Aa (nsD l2)=Aa l2*1/\Aa l2=Aa l2*1/\3=3/\1=1/\1=1/\0<1/\0<8/\3=3/\(Aa l2+1)*8<=140737488355328/\1=1/\Bc Aq=Ac/\(Ac=Ac\/Bf Aq=Ab)))<|vs 10 (Af 4 0 (Aa l2+1) ((Aa l2+1)*1) Ab) (Af 4 0 (Aa l2+1) (Aa l2+1) Ab)<|vnil<|zD<|vN<|zB rfl<|vr 2 (i6 (↑i+1))<|vnil<|zC ?_;rotate_left;refine zT<|zD<|vN<|zB rfl<|vr 2 (i6 (↑i+1))<|vnil<|zC ?_;rotate_left
  ·have hc2:m.testBit (V.getD i 0)=true:=by assumption
   rw[hc2,if_pos rfl]at h4 h4';refine⟨i+1,l1++[V.getD i 0],l2++[i],⟨by omega,h4.symm,h4'.symm⟩,by omega,?_⟩;rw[zJu,zJu,AU,AU];refine vk 5
  have hc2:m.testBit (V.getD i 0)=false:=by assumption
  rw[hc2,if_neg (by decide),BZ]at h4 h4';refine⟨i+1,l1,l2,⟨by omega,h4.symm,h4'.symm⟩,by omega,?_⟩;refine vk 5
 obtain rfl:i=V.length:=by omega
 rw[Bq]at h2;rw[Bo (by simp)]at h2';obtain⟨cs,hcs⟩:∃cs,cs=zBc (λv=>m.testBit v) V:=⟨_,rfl⟩;have hl12:=zYz (λv=>m.testBit v) V;have hlt:=zKa (λv=>m.testBit v) V;have hcl:(zBc (λv=>m.testBit v) V).length<=32:=by rw[<-hl12];exact A0 (BC _ _) hl
 rw[hl12];rw[<-hcs]at hl12 hlt hcl⊢;rw[<-h2]at hl12⊢;have hce:l2=cs:=by rw[h2',hcs];rfl
 subst hce;have hpr:=zR0 V.length R l2 hR hcl hRl (by omega) hlt;have hns:=zMd l2 _ rfl;have hns1:(nsD l1).take l2.length=nsD l1:=zMd l1 _ hl12;rw[hl12];refine vAu<|zA<|vF ((Aa V:Int)<↑(Aa V))<|vZ2<|vA<|vr 3 (True/\2<=2)<|vcl [Az [iD<|Aa V,Ak (Ah rowV R)<|Aa R],Ak (AB (Aa l2)<|Ai 0<|AM<|intB<|nsD l2)<|Aa l2] [Az [iD<|Aa V,Ak (Ah rowV R)<|Aa R],Ak (nsD l2)<|Aa l2] (LeL.of_eq (by simp(disch:=omega) only[Bi,hns])) (by exact hpr)<|ve (aq_)<|zA<|vAe<|vf<|vK<|vA<|ve (2<=2/\True/\BB (aaB (Af 3 0 (Aa l2) (Aa l2) Ab) (iD 0) nl0)=Ac/\Ab=Ab/\2=2/\3<=3)<|vA<|ve (aE_)<|zE<|zBm (3<=3) (D.tup [Az [Ak (AB (Aa l2)<|Ai 0<|AM<|intB<|nsD l1)<|Aa l2,iD<|Aa l2,Ak (Ah rowV<|relR<|Ah (λ(r:List Va)=>zM r l2) R)<|Aa<|relR<|Ah (λ(r:List Va)=>zM r l2) R],iD 0]) (D.tup [Az [Ak (nsD l1)<|Aa l2,Ap<|Ax Bp (Aa l2:Int),Ak (Ah rowV<|relR<|Ah (λ(r:List Va)=>zM r l2) R)<|Aa<|relR<|Ah (λ(r:List Va)=>zM r l2) R],Ap<|Ax Bp 0]) (.inr rfl) (by simp(disch:=omega) only[Bi,hns1]) rfl (hc:=by omega)
theorem rename_c(V num:List Nat)(ar:Nat)(R:List D)(l:Nat)(hl:V.length<=32)(hn:num.length=32)(hV:∀v∈V,v<32):Pure AA 110 [.agg [.row (nsD V) V.length,iD (ar:Nat), .row R l], .ptr [.row (nsD num) 32]] [] (.agg [.row (nsD (V.map λv=>num.getD v 0)) V.length,iD (ar:Nat), .row R l]):=by
 refine zF zAx mixed Tryz.func110 rfl<|vAu<|vA<|vr 5 (True/\2<=2/\((2=2/\3<=3/\True)/\Ab=Ab)/\Ac=Ac/\Ab=Ab/\3=3/\3<=3)<|vnil<|zC<|vnn (fr 28 [(1,AG [Ak (nsD num) 32]),(2,Ad 0 0),(3,Ad 1 0),(4,Ad 2 0),(7,Ad 0 1),(8,Az [iD (ar:Int),Ak R l]),(9,Az [nl,iD (ar:Int),Ak R l])]) [Ag [Ak (nsD V)<|Aa V,iD (ar:Int),Ak R l] 87 0 Ac Ac Aq,Ag [nl,iD 0,nl] 87 0 Ac Ac Aq,Ag [nl,iD (ar:Int),Ak R l] 87 0 Ac Ac Aq]<|zB2 (Weak.nilC (j:=2) (i:=0) (ej:=aaB nl0 (iD (ar:Nat)) (.row R l)) (intB []) rfl rfl rfl rfl) ?_;refine zA<|vAs<|ve (as_)<|zJ<|zK (λ(i:Nat)=>fr 28 [(1,AG [Ak (nsD num) 32]),(3,Ad 1 0),(4,Ad 2 0),(11,(q14_ V)),(12,iD<|Aa V),(13,iD i)]) (λ(i:Nat)=>[aaB (.row (nsD V) V.length) (iD (ar:Nat))<|.row R l,aaB nl0 (iD 0) nl0,aaB (.osl 3 0 i i Ab) (iD (ar:Nat))<|.row R l,intB<|nsD ((V.take i).map λv=>num.getD v 0)]) (λ(i:Nat)=>V.length-i) (λ(i:Nat)=>i<=V.length) 0 ?_ ?_ ?_
 ·omega
 ·refine vk 4
 intro i h1;rcases AQ i V.length with h3|h3
 ·have h5:=hV _ (zBj V i h3);have h6:(V.take (i+1)).map (λv=>num.getD v 0)=(V.take i).map (λv=>num.getD v 0)++[num.getD (V.getD i 0) 0]:=by
   grind [BI,AS]
  have h7:=zBr num (V.getD i 0) (by omega);have h8:((V.take i).map λv=>num.getD v 0).length=i:=by simp;omega
  have h9:0<((nsD num).drop (V.getD i 0)).length:=by rw[List.length_drop,Bh,hn];omega
  generalize (V.take i).map (λv=>num.getD v 0)=cs at*;subst h8;refine vAu<|zA<|vT ((Aa cs:Int)<↑(Aa V))<|vKB<|vA<|vr 1 (ix ↑(Aa cs) ↑(Aa V) (nsD V≠[])) ?_ ⟨(by omega),⟨(by omega),(by exact zAc)⟩⟩;refine vp 15 (Aa cs) (nsD V)<|vr 1 (0<Aa (Ai (Aa cs)<|nsD V))<|vs 16 (A9 (Ai (Aa cs)<|nsD V) Uk) (iD (↑(Au V (Aa cs) 0):Int)) (hd:=by simp(disch:=omega) only[zBr])<|veT<|vd [0,3,1,2,4,5,6,7,8,9]<|vr 5 (True/\0<3/\0<1/\ix (↑(Au V (Aa cs) 0):Int) (↑(32:Nat):Int) (nsD num≠[])) (vp 21 (Au V (Aa cs) 0) (nsD num)<|vr 1 (0<Aa (Ai (Au V (Aa cs) 0)<|nsD num))<|vs 22 (A9 (Ai (Au V (Aa cs) 0)<|nsD num) Uk) (iD (↑(Au num (Au V (Aa cs) 0) 0):Int))<|vr 4 (ap_ ((BJ (intB<|nsD cs)=Ab/\Aa (AM<|intB<|nsD cs)=Aa cs*1/\Aa cs=Aa cs*1/\A_ (intB<|nsD cs)=3/\Ba (intB<|nsD cs)=1/\1=1/\0<1/\0<8/\3=3/\(Aa cs+1)*8<=140737488355328/\1=1/\Bc (A1<|intB<|nsD cs)=Ac/\(Ac=Ac\/Bf (A1<|intB<|nsD cs)=Ab))/\aD_))<|vb 2 (Ag [Af 3 0 (Aa cs+1) ((Aa cs+1)*1) Ab,iD ar,Ak R l] 87 0 Ac Ac Aq) (Ag [Af 3 0 (Aa cs+1) (Aa cs+1) Ab,iD ar,Ak R l] 87 0 Ac Ac Aq) ?_) ⟨trivial,(by omega),(by omega),⟨(by omega),⟨(by omega),(by exact zAc)⟩⟩⟩;refine vnil<|zD<|vN<|zB rfl<|vr 2 (i6 (↑(Aa cs)+1))<|vnil<|zC<|⟨cs.length+1,by omega,by omega,?_⟩;rw[h6,zJu];refine vk 4
 obtain rfl:i=V.length:=by omega
 rw[Bq];have hns:=zMd (V.map λv=>num.getD v 0) V.length (by simp);refine vAu<|zA<|vF ((Aa V:Int)<↑(Aa V))<|vZ2<|vA<|ve (aE_)<|zE<|zBm (3<=3) (Az [Ak (AB (Aa V)<|Ai 0<|AM<|intB<|nsD<|Ah (λ(v:Nat)=>Au num v 0) V)<|Aa V,iD ar,Ak R l]) (Az [Ak (nsD<|Ah (λ(v:Nat)=>Au num v 0) V)<|Aa V,Ap<|Ax Bp (ar:Int),Ak R l]) (.inr rfl) (by simp(disch:=omega) only[Bi,hns]) rfl (hc:=by omega)
def numL(m:Nat):List Nat:=(AK 32).map λu=>if m.testBit u then((AK u).filter λw=>m.testBit w).length else 0
def numU(m i:Nat):List Nat:=(AK 32).map λu=>if u<i/\m.testBit u then((AK u).filter λw=>m.testBit w).length else 0
theorem numU_all(m:Nat):numU m 32=numL m:=Cx λu hu=>by
 have:=Bx.1 hu
 by_cases h:m.testBit u=Ab
 ·rw[if_pos ⟨this,h⟩,if_pos h]
 rw[if_neg (λk=>h k.2),if_neg h]
theorem zXu(m i:Nat):(numU m i).length=32:=by simp[numU]
theorem numU_no(m i:Nat)(h:m.testBit i=Ac):numU m (i+1)=numU m i:=Cx λu hu=>by
 by_cases e:u=i
 ·subst e;simp[h]
 exact ite_congr (propext ⟨λk=>⟨by omega,k.2⟩,λk=>⟨by omega,k.2⟩⟩) (λ_=>rfl) λ_=>rfl
theorem numU_set(m i:Nat)(hi:i<32)(h:m.testBit i=Ab):(numU m i).set i ((AK i).filter λw=>m.testBit w).length=numU m (i+1):=by
 apply BS;grind [zXu,numU,List.getElem?_range,AQ,List.getElem?_eq_none]
theorem num_set(l:List Nat)(i x:Nat):setAt (nsD l) i [iD (x:Nat)]=nsD (l.set i x):=by
 show(nsD l).set i (iD (x:Nat))=_;unfold nsD;rw[Cf]
abbrev atR(a:List Nat×List Rw):List D:=[.row (nsD a.1) a.1.length,iD (a.1.length:Nat), .row (a.2.map rowV) a.2.length]
def zBb(s:Nat)(a:List Nat×List Rw):List Nat×List Rw:=((a.1.filter λv=>s.testBit v).map λv=>(numL s).getD v 0,relR (a.2.map λr=>zM r (zBc (λv=>s.testBit v) a.1)))
def stpA(s:Nat)(A:List (List Nat×List Rw)):Nat:=(A.map λa=>(zBb s a).2.length).sum
theorem zRo(s:Nat)(A:List (List Nat×List Rw))(a:List Nat×List Rw):stpA s (A++[a])=stpA s A+(zBb s a).2.length:=by simp[stpA]
theorem zK6(s:Nat)(a:List Nat×List Rw):(zBb s a).2.length<=a.2.length:=by
 refine A0 (zHv _) ?_;grind
theorem zPy{s B:Nat}:∀{A:List (List Nat×List Rw)},(∀a∈A,a.2.length<=B)->stpA s A<=A.length*B
 |[],_=>BD _
 |a::A,h=>by
  have h1:=zPy (s:=s) (A:=A) λa ha=>h a (by simp[ha]);grind [A0,zK6,zBb,stpA,Cg,Nat.succ_mul]
theorem part_fl(s:Nat)(A:List (List Nat×List Rw))(a:List Nat×List Rw):(A++[a]).flatMap (λa=>atR (zBb s a))=A.flatMap (λa=>atR (zBb s a))++[.row (nsD ((a.1.filter λv=>s.testBit v).map λv=>(numL s).getD v 0)) (a.1.filter λv=>s.testBit v).length,iD ((a.1.filter λv=>s.testBit v).length:Nat), .row ((zBb s a).2.map rowV) (zBb s a).2.length]:=by
 simp_all [Ch,atR,zBb,BZ,D,nsD,iD,rowV,Bh]
def Tbm:Par:=⟨λf=>f==112||f==91,λ_ _=>AL,λ_=>Ac,λ_=>Ac,λ_=>Ac⟩
theorem Tbm_ok:zA9 AA Tbm:=by intro t n f h;cases h
def mkP(s:Nat)(A:List (List Nat×List Rw)):Mk:=⟨5,(zAf s).length,4,A.map (zBb s),λk=>[aaB nl0 (iD 0) nl0,⟨A.flatMap λa=>atR (zBb s a),87,3,Ab,Ab, .plain⟩,rvB 3 0,raB [],bxB 2].getD k Ae⟩
theorem mkP_ok(s:Nat)(A:List (List Nat×List Rw)):MkM (mkP s A) 2 3 where
 p:=rfl
 lc:=by show 2<4;omega
 la:=by show 3<4;omega
 ne:=by decide
 bx:=rfl
 bcr:=rfl
 bra:=rfl
 nam k hk:=by
  have hk:k<4:=hk
  match k,hk with
  |0,_=>exact .inr λj _=>by show zX j [nl0,iD 0,nl0]=Ac;simp only[zX,refs,A6]
  |1,_=>exact .inl rfl
  |2,_=>
   refine .inr λj hj=>?_
   have hj:4<=j:=hj
   show zX j [.osl 3 0 0 0 Ab]=Ac
   simp only[zX,refs,A6,beq_eq_false_iff_ne]
   omega
  |3,_=>exact .inl rfl
 kill k hk hne:=by
  have hk:k<4:=hk
  match k,hk,hne with
  |2,_,h=>exact absurd rfl h
  |0,_,_=>exact zA1 (by show zX 3 [nl0,iD 0,nl0]=Ac;simp only[zX,refs,A6])
  |1,_,_=>exact zB7 rfl
  |3,_,_=>exact zB7 rfl
abbrev q15_(x0:List (List Nat×List Rw)):=Ak (Al atR x0) (Aa x0)
theorem zQr(n s:Nat)(A:List (List Nat×List Rw))(hn:n<32)(hs:s<4294967296)(hsn:s>>>n=0)(hA:A.length<=32)(hr:∀a∈A,a.1.Pairwise (· <·)/\(∀v∈a.1,v<32)/\a.1.length<=32/\a.2.length<=65536/\∀r∈a.2,r.length=a.1.length)(hchk:Pure AA 14 [iD (n:Nat), .row (A.flatMap atR) A.length] [] (iD 0))(hAo:AOk (mkP s A))(h0:0<(zAf s).length)(M:Nat)(hM:∀a∈A.map (zBb s),a.2.length+(zAf s).length<=M)(hC:(A.length+1)*(cE A.length M (zAf s).length)+1<=big)(hchk2:Pure AA 14 [iD ((zAf s).length:Nat), .row (A.flatMap λa=>atR (zBb s a)) A.length] [] (iD 0))(hJ:(jn (mkP s A)).length<=65536)(hJl:∀r∈jn (mkP s A),r.length=(zAf s).length)(hJs:Rsc (jn (mkP s A)))(hacc:accL ((zAf s).length:Nat) (jn (mkP s A))=0):∃z:Nat,z<=big/\Pure AA 72 [iD (n:Nat),u32D s, .row (A.flatMap atR) A.length] [] (.tup [.agg (atR (zAf s,jn (mkP s A))),iD ((stpA s A+z+(jn (mkP s A)).length:Nat):Int),iD 0]):=by
 obtain⟨z,hz,hEach⟩:∃z:Nat,z<=big/\Acts AA 112 [iD ((zAf s).length:Nat), .clo (.func 113) [] [.own 2 0], .row (A.flatMap λa=>atR (zBb s a)) A.length] [aaB nl0 (iD 0) nl0,⟨A.flatMap λa=>atR (zBb s a),87,3,Ab,Ab, .plain⟩,rvB 3 0,raB []] [3] (.tup [iD (z:Nat),iD 0]) [aaB nl0 (iD 0) nl0,⟨A.flatMap λa=>atR (zBb s a),87,3,Ab,Ab, .plain⟩,rvB 3 (jn (mkP s A)).length,raB (jn (mkP s A))]:=by
  have hmm:=mkP_ok s A;have hfl:(mkP s A).A.flatMap atN=A.flatMap λa=>atR (zBb s a):=by
   show(A.map (zBb s)).flatMap atN=_;rw[List.flatMap_map]
  have hln:(mkP s A).A.length=A.length:=Bh _;have he:=each_a (mkP s A) hmm.ok hAo 2 [3] (ybM 2 3) hmm.yb rfl rfl h0 ⟨by show 2<4;omega,by decide⟩ (λk hk=>by rw[By.1 hk];show 3<4;omega) hmm.nam (λys k b e=>ybM_nam hmm ys k b e) M 65536 hM (mat2_a hmm hAo) hJ (by rw[hln];exact hC) (by
   show Pure _ _ [iD ((zAf s).length:Nat), .row ((mkP s A).A.flatMap atN) (mkP s A).A.length] [] _;rw[hfl,hln];exact hchk2) [aaB nl0 (iD 0) nl0,⟨A.flatMap λa=>atR (zBb s a),87,3,Ab,Ab, .plain⟩,rvB 3 0,raB []] rfl (λk hk=>by
   have hk:k<4:=hk;match k,hk with
   |0,_=>rfl
   |1,_=>rfl
   |2,_=>rfl
   |3,_=>rfl)
  obtain⟨z,hz,he⟩:=he;refine⟨z,hz,?_⟩;change Acts _ _ [iD ((zAf s).length:Nat),_, .row ((mkP s A).A.flatMap atN) (mkP s A).A.length] _ _ _ _ at he;rw[hfl,hln]at he;exact he
 refine⟨z,hz,?_⟩;refine zF Tbm_ok mixed Tryz.func72 rfl<|vAu<|zA<|vA<|vrT 2<|vc (hchk)<|veT<|vAe<|vf<|vK<|zA<|vA<|vr 3 ((0:Int)<=(n:Int))<|vs 33 (Ap<|Ax BV<|Int.fdiv (s:Int) ((2:Int)^min (Ay (n:Int)) 32)) (dig (0:Nat)) (hd:=by simp(disch:=omega) only[BA,zDw,hsn])<|veT<|vf<|vK<|vAe<|vA<|ve (((0:Int)<=(32:Int)/\(32:Int)<=(32:Int)/\(↑(8:Nat):Int)*(32:Int)<=(281474976710656:Int)/\(32:Int)<=(281474976710656:Int)/\0<1/\1=1)/\ay_)<|zA<|vAe<|zJ<|zB4 (λ(i:Nat)(l:List Nat)=>fr 116 [(1,u32D s),(2,Ak (Al atR A)<|Aa A),(6,Ad 0 0),(7,iD 0),(8,iD 0),(10,Af 3 0 (Aa l) (Aa l) Ab),(11,Ad 2 0),(37,iD (i:Int))]) (λi l=>[aaB nl0 (iD 0) nl0,intB<|nsD<|numU s i,⟨[.osl 1 0 32 32 Ab],23,0,Ac,Ac,.plain⟩,intB<|nsD l]) (λi l=>32-i) (λ(i:Nat)(l:List Nat)=>i<=32/\l=((AK 32).take i).filter λv=>s.testBit v) 0 [] ?_ ?_ ?_
 ·grind
 ·refine vk 3
 rintro i l ⟨h1,h2⟩;rcases AQ i 32 with h3|h3
 ·have h4:=zN5 s i h3;rw[<-h2]at h4;have hlen:l.length<=32:=by rw[h2];exact A0 (BC _ _) (by simp;omega)
  have hnl:=zXu s i;focus
   refine vAu<|zA<|vT ((i:Int)<(32:Int))<|vKB<|vAe<|vA<|vr 3 ((0:Int)<=(i:Int))<|vs 42 (Ap<|Ax BV<|Int.fdiv (s:Int) ((2:Int)^min (Ay (i:Int)) 32)) (dig (s>>>i)) (hd:=by simp(disch:=omega) only[BA,zDw])<|vrT 1<|vs 43 (Ap<|Ax BV<|BU BV (↑(B9 (Br 32 (↑(s>>>i):Int)&&&Br 32 (1:Int))):Int)) (dig<|B9 (Br 32 (↑(s>>>i):Int)&&&Br 32 (1:Int))) (hd:=by simp(disch:=omega) only[zAu])<|vrT 1<|vs 44 (bD ((↑(B9 (Br 32 (↑(s>>>i):Int)&&&Br 32 (1:Int))):Int)==(1:Int))) (bD<|Bs s i) (hd:=by simp(disch:=omega) only[zWe])<|veT<|zA5 (t:=Bs s i) (by kernel_rfl) (λhc=>?_)<|λhc=>?_;refine vA<|vr 5 (0<1/\(0:Int)<=(i:Int)/\(i:Int)<↑(32:Nat))<|vo 49 1 i<|ve (BB (intB<|nsD<|numU s i)=Ac/\Ab=Ab/\1=1/\i+1<=32/\¬1∈[])<|zB rfl<|vr 5 (ap_ (BJ (intB<|nsD l)=Ab/\Aa (AM<|intB<|nsD l)=Aa l*1/\Aa l=Aa l*1/\A_ (intB<|nsD l)=3/\Ba (intB<|nsD l)=1/\1=1/\0<1/\0<8/\3=3/\(Aa l+1)*8<=140737488355328/\1=1/\Bc (A1<|intB<|nsD l)=Ac/\(Ac=Ac\/Bf (A1<|intB<|nsD l)=Ab)))<|vs 10 (Af 3 0 (Aa l+1) ((Aa l+1)*1) Ab) (Af 3 0 (Aa l+1) (Aa l+1) Ab)<|vnil<|zD<|vN<|zB rfl<|vr 2 (i6 (↑i+1))<|vnil<|zC ?_;rotate_left;refine zT<|zD<|vN<|zB rfl<|vr 2 (i6 (↑i+1))<|vnil<|zC ?_;rotate_left
  ·have hc2:s.testBit i=true:=by assumption
   rw[hc2,if_pos rfl]at h4;have hset:(nsD (numU s i)).set i (iD (l.length:Nat))=nsD (numU s (i+1)):=by
    rw[<-numU_set s i h3 hc2,<-num_set];rw[h2,List.take_range,CN (by omega)];rfl
   refine⟨i+1,l++[i],⟨by omega,h4.symm⟩,by omega,?_⟩;rw[<-hset,zJu,AU];refine vk 4
  have hc2:s.testBit i=false:=by assumption
  rw[hc2,if_neg (by decide),BZ]at h4;refine⟨i+1,l,⟨by omega,h4.symm⟩,by omega,?_⟩;rw[numU_no s i hc2];refine vk 4
 obtain rfl:i=32:=by omega
 rw[Bo (by simp)]at h2;obtain rfl:l=zAf s:=h2;rw[numU_all];have hnl:(numL s).length=32:=by simp[numL]
 have hac:∀a:List Nat×List Rw,(atR a).length=3:=λ_=>rfl;have hf1:frz Ab [aaB nl0 (iD 0) nl0,intB (nsD (numL s)),⟨[.osl 1 0 32 32 Ab],23,0,Ac,Ac, .plain⟩,intB (nsD (zAf s))] zAe (.osl 3 0 (zAf s).length (zAf s).length Ab)=As (.row (nsD (zAf s)) (zAf s).length,[3]):=by
  rw[show zAe=8+1 from rfl,zJ5 (e:=intB (nsD (zAf s))) rfl rfl rfl];simp_all [D,nsD,zAf,Bi,zMd]
 have hf2:frz Ab [aaB nl0 (iD 0) nl0,intB (nsD (numL s)),⟨[.osl 1 0 32 32 Ab],23,0,Ac,Ac, .plain⟩,{intB (nsD (zAf s))with fz:=Ab}] zAe (.clo (.func 110) [] [.own 2 0])=As (.clo (.func 110) [] [.ptr [.row (nsD (numL s)) 32]],[2,1]):=
  (show _=As (AO (.func 110) [] [.ptr [.row (((nsD (numL s)).drop 0).take 32) 32]],[2,1])from rfl).trans (by rw[Bi,zMd _ _ hnl])
 refine vAu<|zA<|vf<|vZ2<|vAe<|vAe<|vA<|vrT 1<|vnil<|zC<|vnn (fr 116 [(1,u32D s),(2,(q15_ A)),(6,Ad 0 0),(7,iD 0),(8,iD 0),(10,Af 3 0 (Aa<|zAf s) (Aa<|zAf s) Ab),(13,AO (Fn.func 110) [] [Ad 2 0]),(14,iD 0),(15,nl)]) [aaB nl0 (iD 0) nl0,intB<|nsD<|numL s,Ag [Af 1 0 32 32 Ab] (23:TypeId) 0 Ac Ac Aq,intB<|nsD<|zAf s]<|zB2 ((((Weak.frzSlot (s:=10) (by kernel_rfl) hf1).trans (Weak.frzSlot (s:=13) (by kernel_rfl) hf2)).trans (Weak.slots (LeL.dead [11] _))).trans<|Weak.cut 1 (by kernel_rfl)<|λ_ _=>rfl) ?_;refine zA<|vAu<|zJ<|zK (λ(i:Nat)=>fr 116 [(1,u32D s),(6,Ad 0 0),(10,Ak (nsD<|zAf s)<|Aa<|zAf s),(13,AO (Fn.func (110:FuncId)) [] [AG [Ak (nsD<|numL s) 32]]),(14,iD (↑(stpA s<|AB i A):Int)),(15,Af 1 0 i (i*3) Ab),(56,(q15_ A)),(57,iD<|Aa A),(58,iD i)]) (λ(i:Nat)=>[aaB nl0 (iD 0) nl0,(⟨(A.take i).flatMap λa=>atR (zBb s a),87,3,Ab,Ac,.plain⟩:Bk)]) (λ(i:Nat)=>A.length-i) (λ(i:Nat)=>i<=A.length) 0 ?_ ?_ ?_
 ·omega
 ·refine vk 1
 intro i h1;rcases AQ i A.length with h3|h3
 ·have hg2:=zC0 hac A i h3;have hle:=zFw hac A i h3;have hne:=zDe hac (by decide) A;have htk:A.take (i+1)=A.take i++[A.getD i Ae]:=by rw[BI h3,A3,AS h3];rfl
  have ham:A.getD i Ae∈A:=by rw[A3,AS h3];exact A8 h3
  obtain⟨r1,r2,r3,r4,r5⟩:=hr _ ham;have hpj:=project_c (A.getD i Ae).1 (A.getD i Ae).2 s hs r1 r2 r3 r4 r5;have hfl:((A.getD i Ae).1.filter λv=>s.testBit v).length<=32:=A0 (BC _ _) r3;have hrn:=rename_c ((A.getD i Ae).1.filter λv=>s.testBit v) (numL s) ((A.getD i Ae).1.filter λv=>s.testBit v).length ((zBb s (A.getD i Ae)).2.map rowV) (zBb s (A.getD i Ae)).2.length hfl hnl (λv hv=>r2 v (CJ.1 hv).1);have hln:=zKj (((A.getD i Ae).1.filter λv=>s.testBit v).length:Nat) ((zBb s (A.getD i Ae)).2.map rowV) (zBb s (A.getD i Ae)).2.length;have hpl:((A.take i).flatMap λa=>atR (zBb s a)).length=i*3:=by rw[zDn (c:=3) (λ_=>rfl),CO,CN h1]
  have hsb:stpA s (A.take i)+(zBb s (A.getD i Ae)).2.length<=32*65536:=by
   rw[<-zRo,<-htk];refine A0 (zPy (B:=65536) λa ha=>(hr a (List.mem_of_mem_take ha)).2.2.2.1) (B7 _ ?_);rw[CO];omega
  refine vAu<|zA<|vT ((i:Int)<↑(Aa A))<|vKB<|vA<|vr 2 (ix ↑i ↑(Aa A) (Al atR A≠[])/\3<=Aa (Ai (i*3)<|Al atR A))<|vs 61 (Az<|AB 3<|Ai (i*3)<|Al atR A) (Az<|atR<|Au A i Ae)<|ve (am_)<|vA<|vr 2 (3<=3)<|vc hpj<|ve (0<2/\1<2/\Ac=Ac/\Ab=Ab/\3=3/\3<=3)<|zA<|vAe<|vf<|vK<|vA<|vr 3 (True/\2<=2)<|vc hln<|ve (i6 ((↑(stpA s<|AB i A):Int)+(↑(Aa<|Aw<|zBb s<|Au A i Ae):Int)))<|zB rfl<|vr 3 (3<=3)<|vc hrn<|vr 3 (((3=3/\3<=3/\True)/\0<3/\3=3/\3<=16777216/\1<=9223372036854775807)/\Ab=Ab/\Aa (Al (λ(a:List Nat×List Rw)=>atR (zBb s a))<|AB i A)=i*3/\i*3=i*3/\87=87/\3=3/\3=3/\0<3/\0<56/\87=87/\(i+1)*56<=140737488355328/\3=3/\Bc Aq=Ac/\(Ac=Ac\/Bf Aq=Ab))<|vnil<|zD<|vN<|zB rfl<|vr 2 (i6 (↑i+1))<|vnil<|zC ?_
  ·refine⟨i+1,h3,by omega,?_⟩;rw[htk,zRo,part_fl];refine vk 2
 obtain rfl:i=A.length:=by omega
 rw[Bq];have hfl:(A.flatMap λa=>atR (zBb s a)).length=A.length*3:=zDn (c:=3) (λ_=>rfl) A;have hf3:frz Ab [aaB nl0 (iD 0) nl0,(⟨A.flatMap λa=>atR (zBb s a),87,3,Ab,Ac, .plain⟩:Bk),⟨[nl0],65,0,Ac,Ac, .plain⟩] zAe (.osl 1 0 A.length (A.length*3) Ab)=As (.row (A.flatMap λa=>atR (zBb s a)) A.length,[1]):=by
  rw[show zAe=8+1 from rfl,zJ5 (e:=(⟨A.flatMap λa=>atR (zBb s a),87,3,Ab,Ac, .plain⟩:Bk)) rfl rfl rfl];grind
 refine vAu<|zA<|vF ((Aa A:Int)<↑(Aa A))<|vZ2<|vA<|vrT 1<|vnil<|zC<|vnn (fr 116 [(1,u32D s),(6,Ad 0 0),(10,Ak (nsD<|zAf s)<|Aa<|zAf s),(13,AO (Fn.func (110:FuncId)) [] [AG [Ak (nsD<|numL s) 32]]),(14,iD ↑(stpA s A)),(15,Af 1 0 (Aa A) (Aa A*3) Ab),(20,Ad 2 0),(56,(q15_ A)),(57,iD<|Aa A),(58,iD<|Aa A),(59,bD<|decide ((Aa A:Int)<(Aa A:Int)))]) [aaB nl0 (iD 0) nl0,Ag (Al (λ(a:List Nat×List Rw)=>atR (zBb s a)) A) (87:TypeId) 3 Ab Ac Aq,Ag [nl] 65 0 Ac Ac Aq]<|zB2 ((Weak.frzSlot (s:=15) (by kernel_rfl) hf3).trans<|Weak.nilC (j:=2) (i:=0) (ej:=(⟨[nl0],65,0,Ac,Ac, .plain⟩:Bk)) (raB []) rfl rfl rfl rfl) ?_;have hv32:(zAf s).length<=32:=A0 (BC _ _) (by simp);have hsb:stpA s A<=32*65536:=A0 (zPy (B:=65536) λa ha=>(hr a ha).2.2.2.1) (B7 _ hA);have hz2:z<=100000000000000000:=hz;generalize jn (mkP s A)=J at*;have hof:=relOf_c ((zAf s).length:Nat) J J.length (by omega) (by omega) rfl hJ (λr hr=>by rw[hJl r hr];omega);rw[if_pos hacc,relR_id hJs]at hof;have hjt:(J.map rowV).take J.length=J.map rowV:=Bo (by simp);have hln:=zKj ((zAf s).length:Nat) (J.map rowV) J.length;refine vAs<|vrT 4<|vnt [aaB nl0 (iD 0) nl0,(λ(e:Bk)=>Ag (AM e) (A_ e) (Ba e) (BJ e) Ab (A1 e))<|Ag (Al (λ(a:List Nat×List Rw)=>atR (zBb s a)) A) (87:TypeId) 3 Ab Ac Aq,Ag (Ci [nl0] 0<|Af (Aa<|zA0 [aaB nl0 (iD 0) nl0,Ag (Al (λ(a:List Nat×List Rw)=>atR (zBb s a)) A) (87:TypeId) 3 Ab Ac Aq,Ag [nl0] (65:TypeId) 0 Ac Ac Aq] [1]) 0 0 0 Ab) (65:TypeId) 0 Ac Ac Aq,raB []]<|zG1 [] [] [iD (Aa (zAf s):Int),AO (Fn.func 113) [] [Ad 2 0],Ak (Al (λ(a:List Nat×List Rw)=>atR (zBb s a)) A)<|Aa A] [iD (Aa (zAf s):Int),AO (Fn.func 113) [] [Ad 2 0],Ak (Al (λ(a:List Nat×List Rw)=>atR (zBb s a)) A)<|Aa A] (AX _) (by exact hEach) ?_;refine v0s<|ve (0<2/\1<2)<|zA<|vAe<|vf<|vK<|vA<|vr 3 (0<1)<|vcl [iD (Aa (zAf s):Int),Ak (AB (Aa J)<|Ai 0<|Ah rowV J)<|Aa J] [iD (Aa (zAf s):Int),Ak (Ah rowV J)<|Aa J] (LeL.of_eq (by simp(disch:=omega) only[Bi,hjt])) (by exact hof) ?_;refine ve (aq_)<|zA<|vAe<|vf<|vK<|zA<|vd [0,3,4,5,1,2,6,7,8,9,10,11]<|vr 7 (i6 ((↑(stpA s A):Int)+(z:Int))/\2<=2/\((1=1/\1<=3/\2=2/\3<=3/\True)/\Ab=Ab)/\2<=2)<|vc hln<|ve (i6 ((↑(stpA s A):Int)+(z:Int)+(Aa J:Int))/\am_)<|zE<|vret (3<=3)<|.inr rfl
abbrev chC(c:Nat×List Nat):List D:=[iD (c.1:Nat), .row (nsD c.2) c.2.length]
abbrev chB(l:List (Nat×List Nat)):Bk:=⟨l.flatMap chC,200,2,Ab,Ac, .plain⟩
def chI(L:List Bg)(V:List Nat)(v i:Nat):List (Nat×List Nat):=((AK i).filter λc=>decide ((L.getD c Ae).p=(v:Int))).map λc=>(c,zBc (λu=>(L.getD c Ae).k.testBit u) V)
theorem chI_succ(L:List Bg)(V:List Nat)(v i:Nat):chI L V v (i+1)=chI L V v i++if(L.getD i Ae).p=(v:Int)then[(i,zBc (λu=>(L.getD i Ae).k.testBit u) V)]else[]:=by
 grind [chI,BX,only]
theorem zWa(L:List Bg)(V:List Nat)(v i:Nat):(chI L V v i).length<=i:=by
 grind [chI,Bh,A0,BC]
theorem killL{k:Nat}:∀{c:List D},zX k c=Ac->c.map (zAl k)=c
 |[],_=>rfl
 |d::c,h=>by
  simp only[zX,BO]at h;rw[BR,killL h.2];congr 1;unfold zAl;rw[h.1];rfl
structure Bd where
 n:Nat
 f:Nat
 desc:List Bool
 P:List Nat
 A:List (List Nat×List Rw)
 L:List Bg
 R:List (List Nat×List Rw)
 E:List Nat
abbrev blI(b:Bd):Bk:=⟨[iD (b.n:Nat),iD (b.f:Nat), .row (b.desc.map bD) b.desc.length, .row (nsD b.P) b.P.length, .row (b.A.flatMap atR) b.A.length],31,0,Ac,Ac, .plain⟩
abbrev blX:Bk:=⟨[nl0,nl0,nl0,nl0,nl0],46,0,Ac,Ac, .plain⟩
abbrev blG(b:Bd):Bk:=⟨[iD (b.n:Nat), .osl 3 0 b.A.length b.A.length Ab],77,0,Ac,Ac, .plain⟩
abbrev blE(b:Bd):Bk:=⟨b.E.map u32D,36,1,Ab,Ab, .plain⟩
abbrev blB(b:Bd):Bk:=⟨[iD (b.n:Nat),iD (b.f:Nat), .row (b.desc.map bD) b.desc.length, .row (nsD b.P) b.P.length, .row (b.A.flatMap atR) b.A.length, .row (b.L.flatMap bgC) b.L.length, .row (b.R.flatMap atR) b.R.length, .osl 5 0 b.n b.n Ab, .osl 6 0 b.n b.n Ab, .osl 7 0 b.f b.f Ab],120,0,Ac,Ac, .plain⟩
abbrev blV(c:List D):Bk:=⟨c,170,1,Ab,Ac, .sh⟩
abbrev blT(c:List D):Bk:=⟨c,177,1,Ab,Ac, .sh⟩
abbrev blU(c:List D):Bk:=⟨c,88,1,Ab,Ac, .plain⟩
abbrev blM(t:TypeId)(ks:List Value)(c:List D):Bk:=⟨c,t,0,Ab,Ac, .map ks⟩
def blw(m:Nat)(c:List D):Prop:=∀j,m<=j->zX j c=Ac
theorem zHf{b:Bd}{c5 c6 c7:List D}(hm:8<=m)(h5:blw m c5)(h6:blw m c6)(hr:∀e∈rest,namB m e):∀e∈blI b::blX::blG b::blE b::blB b::blV c5::blT c6::blU c7::rest,namB m e:=λe he=>by
 simp only[Bz]at he;rcases he with rfl|rfl|rfl|rfl|rfl|rfl|rfl|rfl|he
 ·exact .inr λj hj=>by simp[zX,refs]
 ·exact .inr λj hj=>by simp[zX,refs]
 ·exact .inr λj hj=>by simp[zX,refs];omega
 ·exact .inl rfl
 ·exact .inr λj hj=>by simp[zX,refs];omega
 ·exact .inr h5
 ·exact .inr h6
 ·exact .inl rfl
 exact hr e he
def Tch:Par:=⟨λ_=>Ac,λ_ _=>AL,λk=>decide (k<9),λ_=>Ac,λ_=>Ac⟩
theorem Tch_ok:zA9 AA Tch:=by intro t n f h;cases h
theorem keep9(h:st.length=9):∀k,k<st.length->Tch.keep k=true:=λk hk=>by
 show decide (k<9)=Ab;rw[decide_eq_true_eq];omega
theorem zYh:∀k,9<=k->Tch.keep k=false:=λk hk=>by
 show decide (k<9)=Ac;rw[decide_eq_false_iff_not];omega
abbrev q16_(x0:Bd):=Ak (Al atR (Bd.R x0)) (Aa (Bd.R x0))
abbrev q17_(x0:Bd):=Ak (Al bgC (Bd.L x0)) (Aa (Bd.L x0))
abbrev q18_(x0:Bg)(x1:Nat)(x2:Bd):=AG (iD ↑(Bg.v x0)::u32D (A2 x0)::iD (A4 x0)::Al bgC (Ai (x1+1) (Bd.L x2)))
abbrev q19_(x0:Bd):=Ak (Ah bD (Bd.desc x0)) (Aa (Bd.desc x0))
abbrev q20_(x0:Bd):=Ak (nsD (Bd.P x0)) (Aa (Bd.P x0))
abbrev q21_(x0:Bd):=Ak (Al atR (Bd.A x0)) (Aa (Bd.A x0))
theorem children_c(b:Bd)(v:Nat)(hv:v<b.R.length)(hl:b.L.length<=1000)(hV:(b.R.getD v Ae).1.length<=1000)(hV2:∀u∈(b.R.getD v Ae).1,u<32)(hk:∀c∈b.L,c.k<4294967296)(c5 c6 c7 c8:List D)(t8:TypeId)(ks:List Value)(h5:blw 9 c5)(h6:blw 9 c6):
  Acts AA 94 [.own 4 0,iD (v:Nat)] [blI b,blX,blG b,blE b,blB b,blV c5,blT c6,blU c7,blM t8 ks c8] [] (.osl 9 0 (chI b.L (b.R.getD v Ae).1 v b.L.length).length ((chI b.L (b.R.getD v Ae).1 v b.L.length).length*2) Ab)
   [blI b,blX,blG b,blE b,blB b,blV c5,blT c6,blU c7,blM t8 ks c8,chB (chI b.L (b.R.getD v Ae).1 v b.L.length)]:=by
 have hbc:∀c:Bg,(bgC c).length=3:=λ_=>rfl;have hac:∀a:List Nat×List Rw,(atR a).length=3:=λ_=>rfl;have hav:(b.R.flatMap atR).drop (v*3)= .row (nsD (b.R.getD v Ae).1) (b.R.getD v Ae).1.length::iD ((b.R.getD v Ae).1.length:Nat):: .row ((b.R.getD v Ae).2.map rowV) (b.R.getD v Ae).2.length::(b.R.drop (v+1)).flatMap atR:=zK0 hac b.R v hv;have hne:=zDe hac (by decide) b.R;generalize hVd:(b.R.getD v Ae).1=V at*;have hcl:∀l:List (Nat×List Nat),(l.flatMap chC).length=l.length*2:=λl=>zDn (g:=chC) (λ_=>rfl) l;have hnm:∀l,∀e∈[blI b,blX,blG b,blE b,blB b,blV c5,blT c6,blU c7,blM t8 ks c8,chB l],namB 10 e:=λl=>zHf (by omega) (λj hj=>h5 j (by omega)) (λj hj=>h6 j (by omega)) λe he=>by
  simp only[Bz,B5,or_false]at he;rcases he with rfl|rfl<;>exact .inl rfl
 have k5:=killL (h5 9 (by omega));have k6:=killL (h6 9 (by omega));refine zQ Tch_ok mixed Tryz.func94 rfl (keep9 rfl)<|vAu<|vAe<|zA<|vA<|ve (aA_)<|zJ<|zK (λ(i:Nat)=>fr 49 [(0,Ad 4 0),(1,iD (v:Int)),(4,nl),(5,Af 9 0 (Aa<|chI (Bd.L b) V v i) (Aa (chI (Bd.L b) V v i)*2) Ab),(11,iD (Aa (Bd.L b):Int)),(12,iD (i:Int))]) (λ(i:Nat)=>[blI b,blX,blG b,blE b,blB b,blV c5,blT c6,blU c7,blM t8 ks c8,chB<|chI b.L V v i]) (λ(i:Nat)=>b.L.length-i) (λ(i:Nat)=>i<=b.L.length) 0 ?_ ?_ ?_
 ·omega
 ·refine vk 9 ?_;exact zYh
 intro i h1;have hlen:=zWa b.L V v i;have hc2:=hcl (chI b.L V v i);rcases AQ i b.L.length with h3|h3
 ·have hbat:=zK0 hbc b.L i h3;have hbne:=zDe hbc (by decide) b.L;have hmem:b.L.getD i Ae∈b.L:=by rw[A3,AS h3];exact A8 h3
  have hic:=icols_c V V.length rfl hV hV2 (b.L.getD i Ae).k (hk _ hmem);have hsu:=chI_succ b.L V v i;generalize b.L.getD i Ae=c at*;have happ:∀l:List (Nat×List Nat),chB (l++[(i,zBc (λu=>c.k.testBit u) V)])=⟨l.flatMap chC++[iD (i:Nat), .row (nsD (zBc (λu=>c.k.testBit u) V)) (zBc (λu=>c.k.testBit u) V).length],200,2,Ab,Ac, .plain⟩:=λl=>by
   grind
  focus
   refine vAu<|zA<|vT ((i:Int)<(Aa (Bd.L b):Int))<|vKB<|vAe<|vA<|vr 6 (True/\0<5/\ix ↑i (Aa (Bd.L b):Int) (Al bgC (Bd.L b)≠[]))<|vs 20 (AG<|Ai (Ay (i:Int)*3)<|Al bgC<|Bd.L b) (AG (iD ↑(Bg.v c)::u32D (A2 c)::iD (A4 c)::Al bgC (Ai (i+1)<|Bd.L b)))<|ve (True/\0<Aa (iD (A4 c)::Al bgC (Ai (i+1)<|Bd.L b))/\True)<|zA5 (t:=A4 c==(v:Int)) (by kernel_rfl) (λhc=>?_)<|λhc=>?_;simp only[beq_iff_eq]at hc;refine vd [0,1,2,3,4,6,10,11,12,14,5,7,8,9,13,15,16,17,18,19,20,21,22]<|vr 12 (True/\True/\0<4/\ix ↑v (Aa (Bd.R b):Int) (Al atR (Bd.R b)≠[]))<|vs 32 (AG<|Ai (Ay (v:Int)*3)<|Al atR<|Bd.R b) (AG (Ak (nsD V) (Aa V)::iD (Aa V)::Ak (Ah rowV<|Aw<|Au (Bd.R b) v Ae) (Aa<|Aw<|Au (Bd.R b) v Ae)::Al atR (Ai (v+1)<|Bd.R b)))<|vr 4 (True/\0<Aa ((q14_ V)::iD (Aa V)::Ak (Ah rowV<|Aw<|Au (Bd.R b) v Ae) (Aa<|Aw<|Au (Bd.R b) v Ae)::Al atR (Ai (v+1)<|Bd.R b))/\0<5/\ix ↑i (Aa (Bd.L b):Int) (Al bgC (Bd.L b)≠[]))<|vs 40 (AG<|Ai (Ay (i:Int)*3)<|Al bgC<|Bd.L b) (AG (iD ↑(Bg.v c)::u32D (A2 c)::iD (A4 c)::Al bgC (Ai (i+1)<|Bd.L b)))<|vr 2 (True/\0<Aa (u32D (A2 c)::iD (A4 c)::Al bgC (Ai (i+1)<|Bd.L b)))<|vc hic<|vr 4 (((1=1/\1<=2/\1=1/\2<=2/\True)/\Ab=Ab)/\((2=2/\2<=2/\True)/\0<2/\2=2/\2<=16777216/\1<=9223372036854775807)/\BJ (chB<|chI (Bd.L b) V v i)=Ab/\Aa (AM<|chB<|chI (Bd.L b) V v i)=Aa (chI (Bd.L b) V v i)*2/\Aa (chI (Bd.L b) V v i)*2=Aa (chI (Bd.L b) V v i)*2/\A_ (chB<|chI (Bd.L b) V v i)=200/\Ba (chB<|chI (Bd.L b) V v i)=2/\2=2/\0<2/\0<32/\200=200/\(Aa (chI (Bd.L b) V v i)+1)*32<=140737488355328/\2=2/\Bc (A1<|chB<|chI (Bd.L b) V v i)=Ac/\(Ac=Ac\/Bf (A1<|chB<|chI (Bd.L b) V v i)=Ab))<|vnil<|zD<|vN<|zB rfl<|vr 2 (i6 (↑i+1))<|vnil<|zC ?_;rotate_left;simp only[beq_eq_false_iff_ne]at hc;refine zT<|zD<|vN<|zB rfl<|vr 2 (i6 (↑i+1))<|vnil<|zC ?_;rotate_left
  ·have hcp:c.p=(v:Int):=by assumption
   rw[if_pos hcp]at hsu;have hn2:=hnm (chI b.L V v i++[(i,zBc (λu=>c.k.testBit u) V)]);rw[happ]at hn2;refine⟨i+1,by omega,by omega,?_⟩;rw[hsu,AU,happ];refine wkn (fr 49 [(0,Ad 4 0),(1,iD v),(4,nl),(5,Af 9 0 (Aa (chI (Bd.L b) V v i)+1) ((Aa (chI (Bd.L b) V v i)+1)*2) Ab),(6,iD i),(11,iD (Aa (Bd.L b):Int)),(12,iD ↑(i+1)),(24,bD (A4 c==(v:Int))),(26,iD i),(27,Ad 4 0),(28,Ad 4 0),(29,Ad 4 6),(30,(q16_ b)),(31,iD v),(32,AG ((q14_ V)::iD (Aa V)::Ak (Ah rowV (Aw (Au (Bd.R b) v Ae))) (Aa (Aw (Au (Bd.R b) v Ae)))::Al atR (Ai (v+1) (Bd.R b)))),(33,AG ((q14_ V)::iD (Aa V)::Ak (Ah rowV (Aw (Au (Bd.R b) v Ae))) (Aa (Aw (Au (Bd.R b) v Ae)))::Al atR (Ai (v+1) (Bd.R b)))),(34,(q14_ V)),(35,Ad 4 0),(36,Ad 4 0),(37,Ad 4 5),(38,(q17_ b)),(39,iD i),(40,(q18_ c i b)),(41,AG (u32D (A2 c)::iD (A4 c)::Al bgC (Ai (i+1) (Bd.L b)))),(42,dig (A2 c)),(43,Ak (nsD (zBc (λ(v:Nat)=>Bs (A2 c) v) V)) (Aa (zBc (λ(v:Nat)=>Bs (A2 c) v) V))),(44,Az [iD i,Ak (nsD (zBc (λ(v:Nat)=>Bs (A2 c) v) V)) (Aa (zBc (λ(v:Nat)=>Bs (A2 c) v) V))]),(45,Af 10 0 1 2 Ab),(46,Af 9 0 (Aa (chI (Bd.L b) V v i)+1) ((Aa (chI (Bd.L b) V v i)+1)*2) Ab),(47,iD ↑(i+1))]) [Ag [iD ↑(Bd.n b),iD ↑(Bd.f b),(q19_ b),(q20_ b),(q21_ b)] (31:TypeId) 0 Ac Ac Aq,Ag [nl0,nl0,nl0,nl0,nl0] (46:TypeId) 0 Ac Ac Aq,Ag [iD ↑(Bd.n b),Af 3 0 (Aa (Bd.A b)) (Aa (Bd.A b)) Ab] (77:TypeId) 0 Ac Ac Aq,Ag (Ah u32D (Bd.E b)) (36:TypeId) 1 Ab Ab Aq,Ag [iD ↑(Bd.n b),iD ↑(Bd.f b),(q19_ b),(q20_ b),(q21_ b),(q17_ b),(q16_ b),Af 5 0 (Bd.n b) (Bd.n b) Ab,Af 6 0 (Bd.n b) (Bd.n b) Ab,Af 7 0 (Bd.f b) (Bd.f b) Ab] (120:TypeId) 0 Ac Ac Aq,Ag (Ah (zAl 9) c5) (170:TypeId) 1 Ab Ac AW,Ag (Ah (zAl 9) c6) (177:TypeId) 1 Ab Ac AW,Ag c7 (88:TypeId) 1 Ab Ac Aq,Ag c8 t8 0 Ab Ac (BK ks),Ag (Al chC (chI (Bd.L b) V v i)++[iD i,Ak (nsD (zBc (λ(v:Nat)=>Bs (A2 c) v) V)) (Aa (zBc (λ(v:Nat)=>Bs (A2 c) v) V))]) (200:TypeId) 2 Ab Ac Aq,Ag [iD i,Ak (nsD (zBc (λ(v:Nat)=>Bs (A2 c) v) V)) (Aa (zBc (λ(v:Nat)=>Bs (A2 c) v) V))] 200 2 Ab Ac Aq] ?_;rw[k5,k6];refine zA4 (N:=10) (4<10/\9<10/\True) rfl hn2 (λk hk=>zYh k (by omega)) ?_ ⟨by omega,by omega,trivial⟩;refine vk 11 ?_;grind [zYh]
  have hcp:¬c.p=(v:Int):=by assumption
  rw[if_neg hcp,BZ]at hsu;refine⟨i+1,by omega,by omega,?_⟩;rw[hsu];refine vk 10 ?_;grind [zYh]
 obtain rfl:i=b.L.length:=by omega
 refine vAu<|zA<|vF ((Aa (Bd.L b):Int)<(Aa (Bd.L b):Int))<|vZ2<|vAe<|zE<|zN (True) [Af 9 0 (Aa<|chI (Bd.L b) V v<|Aa<|Bd.L b) (Aa (chI (Bd.L b) V v<|Aa<|Bd.L b)*2) Ab] (.inr rfl) ?_;exact⟨by kernel_rfl,by kernel_rfl⟩
end
variable{sl:List D}
section
open Go.RowKit
section
variable{P:Program}{T:Par}
theorem Acts.res{st':List Bk}{x x':D}(h:Acts P f args st ch x st')(hx:LeD x x'):Acts P f args st ch x' st':=λβ I w vs hr hsr hinj hfz hdom hi hg=>(h β I w vs hr hsr hinj hfz hdom hi hg).mono λe w' ⟨v,β',I',p0,p1,p2,p3,p4,p5,p6,p7,p8⟩=>⟨v,β',I',p0,p1,p2,p3,p4,p5,p6,p7,hx _ _ _ _ p8⟩
theorem Acts.cutN{st0 bs:List Bk}{x:D}(h:Acts P f args st ch x (st0++bs))(hm:st.length<=st0.length)(hn:∀b∈st0,namB st0.length b)(hx:∀j,st0.length<=j->refs j x=Ac):Acts P f args st ch x st0:=by
 have ht:(st0++bs).take st0.length=st0:=List.take_left' rfl
 have:=Acts.cut st0.length h hm ?_
 ·grind
 unfold zEr;simp only[BG,Bx,Cj,Bool.not_eq_true',CP];intro i hi;refine⟨by simp only[zX,hx _ (show st0.length<=st0.length+i by omega),A6],λe he=>?_⟩;rw[ht]at he;rcases hn e he with h|h;all_goals grind
theorem Acts.post{s s':List Bk}{x x':D}(h:Acts P f args st ch x s)(hw:Weak T [x] s [x'] s')(hk:∀k,k<st.length->T.keep k=Ab):Acts P f args st ch x' s':=λβ I w vs hr hsr hinj hfz hdom hi hg=>by
 refine(h β I w vs hr hsr hinj hfz hdom hi hg).mono ?_;rintro e w' ⟨v,β',I',rfl,p1,p2,p3,p4,p5,p6,p7,p8⟩;have hs:Sim β' I' w' [x] s [v]:=⟨by simp only[RelT];exact⟨v,[],rfl,p8,rfl⟩,p4,p5,p6,p7,p1,hg.mono p2.fix⟩;obtain⟨β2,I2,s2,t2,k2⟩:=hw β' I' w' _ hs;have hx:=s2.rel;simp only[RelT]at hx;obtain⟨v2,us,hv,hx,_⟩:=hx;simp only[List.cons.injEq]at hv;obtain⟨rfl,_⟩:=hv;exact⟨v,β2,I2,rfl,s2.imb,p2.trans t2,λk y hc hb=>k2 k y (hk k (hdom k y hb)) (p3 k y hc hb),s2.sr,s2.inj,s2.fz,s2.dom,hx⟩
theorem Weak.phant(b:Bk):Weak T sl st sl (st++[b]):=λβ I w tm h=>by
 have hk:∀k y,β k=As y->(st++[b])[k]?=st[k]?:=λk y hy=>CL (h.dom k y hy);refine⟨β,I,⟨h.rel,λk bb cap hb=>?_,h.inj,λk bb c j e hb he hi=>?_,λk x hb=>?_,h.imb,h.gl⟩,Stp.refl _ _ _,Kp.refl _ _⟩
 ·rw[hk k _ hb];exact h.sr k bb cap hb
 ·rw[hk k _ hb]at he;exact h.fz k bb c j e hb he hi
 have:=h.dom k x hb
 simp;omega
theorem Weak.nilS(s k:Nat)(wh:Bool)(hs:sl[s]?=As (.val (.slice AL 0 0))):Weak T sl st (sl.set s (.osl k 0 0 0 wh)) st:=λβ I w tm h=>by
 refine⟨β,I,⟨RelT.of_get ?_ λi d v hd hv=>?_,h.sr,h.inj,h.fz,h.dom,h.imb,h.gl⟩,Stp.refl _ _ _,Kp.refl _ _⟩
 ·rw[BP];exact h.rel.length
 rw[Cz]at hd;split at hd
 ·rename_i e;subst e;split at hd
  ·cases hd;obtain⟨v2,h1,h2⟩:=h.rel.get s _ hs;rw[hv]at h1;cases h1;simp only[Rel]at h2⊢;exact .inl ⟨trivial,trivial,h2⟩
  cases hd
 obtain⟨v2,h1,h2⟩:=h.rel.get i d hd;rw[hv]at h1;cases h1;exact h2
end
end
variable{us:List Value}
section
open Go.RowKit Go.Shelf Go.Lib
theorem zR8{v:Value}(h:∀I w,Gl I w->Calls P f us.toArray w λe w'=>e= .returned v/\w=w'):Pure P f (us.map .val) [] (.val v):=by
 intro I w vs hr hi hg;rw[zK4 us vs hr];refine(h I w hg).mono ?_;rintro e w' ⟨rfl,rfl⟩;exact⟨v,I,noB,rfl,Ext.refl _,hi,Fix.refl _ _,λ_ _ h=> .inl h,λ_ _ _ h=>(by cases h),λ_ _ _ h=>(by cases h),λ_ _ _ _ _ h=>(by cases h),λ_ _ _ _ _ h=>(by cases h),λ_ _ h=>(by cases h),by simp only[Rel],by simp⟩
section
variable{P:Program}{I:Im}{w:World}{β:Be}{st:List Bk}
theorem zNx:∀(ys xs pre zs:List D),xs.length=ys.length->setAt (pre++xs++zs) pre.length ys=pre++ys++zs
 |[],xs,pre,zs,hl=>by
  obtain rfl:xs=[]:=List.eq_nil_of_length_eq_zero (by simpa using hl);rfl
 |y::ys,[],pre,zs,hl=>by simp at hl
 |y::ys,x::xs,pre,zs,hl=>by
  simp only[setAt];have e1:(pre++x::xs++zs).set pre.length y=(pre++[y])++xs++zs:=by simp
  rw[e1]
  have:=zNx ys xs (pre++[y]) zs (by simpa using hl)
  grind
theorem acts_fill{vs:List Value}{margs:List D}{more:List Value}(hmore:∀I w β vs,RelT I w β margs vs->vs=more)(he:st[k]?=As e)(hkd:e.kd.isMap=Ac)(hf:e.fz=Ac)(hc:e.cells.take n=us.map .val)(hn:n<=e.cells.length)(hu:us.length=n)(hv:vs.length=n)(h1:∀v∈vs,v.oneCell'=Ab)(hpos:0<n)
  (h:∀b c w,(∀j,j<n->w.cell? ⟨b,0+j,AL⟩=As (us.getD j undef))->(∀j,j<n->w.frozen? ⟨b,0+j,AL⟩=Ac)->n<=c->Calls P f (#[.slice (As ⟨b,0,AL⟩) n c]++more.toArray) w λx w'=>x= .returned (.tuple #[])/\∃q,w'=(w.drewN q).setCells b 0 vs):
  Acts P f (.osl k 0 n n wh::margs) st [] (.val (.tuple #[])) (st.set k {e with cells:=vs.map .val++e.cells.drop n}):=by
 intro β I w xs hr hsr hinj hfz hdom hi hg;simp only[RelT]at hr;obtain⟨v,ys,rfl,hr,hys⟩:=hr;obtain rfl:=hmore _ _ _ _ hys;simp only[Rel]at hr;rcases hr with⟨e0,_,rfl⟩|⟨e0,_,_,a,c,rfl,_⟩|⟨b,c,cap,hb,rfl,k1,k2,k3⟩
 ·omega
 ·omega
 have hs0:Sim β I w ([]:List D) st ({tmps:=#[],defers:=[]}:Act).tmps.toList:=⟨by simp only[RelT],hsr,hinj,hfz,hdom,hi,hg⟩;obtain⟨e',he',hown⟩:=hsr k b c hb;rw[he]at he';cases he';obtain⟨cur,c1,c2,c3,c4⟩:=hown.c hkd;have hul:(cur.take n)=us:=by
  have hx:RelL I w (if e.nob then noB else β) (e.cells.take n) (cur.take n):=by
   refine RelL.of_get (by simp;omega) λi d v hd hv=>?_;rw[List.getElem?_take]at hd hv;split at hd
   ·rename_i hi;rw[if_pos hi]at hv;obtain⟨v',k1,k2,k3⟩:=c3.get i d hd;grind
   cases hd
  rw[hc]at hx;exact zR1 hx
 have hpre:=(hs0.put (off:=0) (cs:=e.cells) (vs:=cur.take e.cells.length) (ks:=[]) hb he hf hkd (by simp) (RelL.mono (zAw _) _ _ (BeLe.refl _) _ _ c3) (by simp) AL undef).2.2;have hlc:(cur.take e.cells.length).length=e.cells.length:=c3.length.symm;have e1:(#[Value.slice (As ⟨b,0,AL⟩) n cap]++ys.toArray)=(Value.slice (As ⟨b,0,AL⟩) n cap::ys).toArray:=by apply Array.ext';simp
 rw[<-e1];refine(h b cap w (λj hj=>?_) (λj hj=>(hpre j (by omega)).2) k1).mono ?_
 ·have hlt:j<cur.length:=by omega
  rw[<-hul,A3,List.getElem?_take,if_pos hj,AS hlt];simp[World.cell?,c1,hlt]
 rintro x w' ⟨rfl,q,rfl⟩;obtain⟨s1,s2,s3⟩:=(hs0.drew q).put (off:=0) (cs:=vs.map .val) (vs:=vs) (ks:=[]) hb he hf hkd (by simp) (zKk h1) (by simp;omega) AL undef;have hset2:setAt e.cells 0 (vs.map .val)=vs.map .val++e.cells.drop n:=by
  have:=zNx (vs.map .val) (e.cells.take n) [] (e.cells.drop n) (by simp;omega)
  grind [CQ]
 rw[hset2]at s1;exact⟨_,β,_,rfl,s1.imb,(Stp.drew β I w q).trans s2,λ_ _ _ h=>h,s1.sr,s1.inj,s1.fz,s1.dom,by simp only[Rel]⟩
end
theorem small_c(n:Nat)(h:n<100):Pure AA 157 [.val (.int .i64 n)] [] (.val (.string ⟨(AN n).toArray⟩)):=
 zFd (us:=[.int .i64 n]) λw=>(Tryz.internal_strconv_small n h w).mono λe w' h=>⟨h.1,h.2.symm⟩
theorem zVe(u:Nat)(h1:1<=u)(h2:u<18446744073709551616):Pure AA 158 [.val (.int .u64 u)] [] (.val (.int .i64 (AT u))):=by
 refine zR8 (us:=[.int .u64 u]) λI w hG=>?_;obtain⟨hnd,h19⟩:=Lib.numDigits_eq u h1 h2;have hL:B_ u<=64:=Lib.bitLen_le u 64 (AV _) h2;have hcell:w.cell? ⟨1,Lib.l10 (B_ u),AL⟩=As (.int .u64 ((10^Lib.l10 (B_ u):Nat):Int)):=by
  refine(hG (1,Lib.pow10Tab.map λz=>Ax .u64 z) (by simp[globT]) (Lib.l10 (B_ u)) _ ?_).2;rw[Cc,<-Lib.pow10Tab_at _ (by omega)];rw[A3,AS (by rw[Lib.pow10Tab_length];omega)];rfl
 have hto:((u:Int)).toNat=u:=by omega
 generalize hq:Lib.l10 (B_ u)=q at hnd h19 hcell;generalize hT:10^q=T at hnd hcell;have Hnd:=Lib.hid hnd;clear hnd;clear hG;go_enter Tryz.func158,Tryz.ntmps158;go_wp2_with fail;refine(Tryz.bits_Len64 (u:Int) w (by omega) (by omega)).mono ?_;rintro e w' ⟨rfl,rfl⟩;rw[hto];go_wp2_with fail;refine(Tryz.internal_strconv_log10Pow2 _ hL _).mono ?_;rintro e w' ⟨rfl,rfl⟩;rw[hq];go_wp2_with fail;all_goals (
  refine(Tryz.internal_strconv_bool2_int _ _).mono ?_;rintro e w' ⟨rfl,rfl⟩)
 all_goals go_wp2_with fail
 all_goals go_ret
 all_goals (
  refine⟨?_,rfl⟩;have hnd:=Hnd.out;congr 2;split at hnd<;>simp_all<;>omega)
open Go.Sort in
theorem zVu{u:Nat}(hn:n=AT u)(he:st[k]?=As e)(hkd:e.kd.isMap=Ac)(hf:e.fz=Ac)(hc:e.cells.take n=AP n (.val (.int .u8 0)))(hl:n<=e.cells.length)(hu:u<18446744073709551616):
  Acts AA 159 [.osl k 0 n n wh, .val (.int .u64 u)] st [] (.val (.tuple #[])) (st.set k {e with cells:=(Ck (AN u)).map .val++e.cells.drop n}):=by
 have hpos:0<n:=by rw[hn];unfold AT;split<;>omega
 have hdl:(AN u).length=n:=by rw[CR,hn]
 refine acts_fill (us:=AP n (.int .u8 0)) (more:=[.int .u64 u]) (λI w β vs h=>?_) he hkd hf (by rw[hc,List.map_replicate]) hl (by simp) (by rw[Lib.byteCells_length,hdl]) (λv hv=>?_) hpos (λb c w h1 h2 h3=>?_)
 ·exact zK4 [.int .u64 u] vs h
 ·obtain⟨x,_,rfl⟩:=BH.1 hv;rfl
 have hH:Holds (λ(b:UInt8)=>Ax .u8 (b.toNat:Int)) w b 0 (CS n (0:UInt8)):=λj hj=>by
  simp_all
 have main:=Tryz.internal_strconv_formatBase10 b 0 c u (CS n (0:UInt8)) w hH (by
  rw[CT,hn];exact Lib.lt_pow_nDigits u) hu (by
  rw[CT,hn]
  have:=CU u hu;omega)
 rw[CT]at main;refine main.mono ?_;rintro x w' ⟨rfl,q,v',dk,rfl,hfm⟩;refine⟨rfl,q,?_⟩;have hsz:=hfm.size;have hdk:dk.toList=AN u:=by
  apply CA
  ·grind
  intro j a b';subst hn;rw[Lib.row_is_numeral hfm j b',Array.getElem_toList,getElem!_pos dk j (by simpa using a)]
 have:=Lib.putRow_eq_setCells (λ(b:UInt8)=>Ax .u8 (b.toNat:Int)) w b 0 (CS n (0:UInt8)) dk.toList q hH (by simp[hsz])
 rw[hdk]at this;rw[show(AN u).toArray=dk by rw[<-hdk]]at this;exact this
end
variable{B:Nat}
section
open Go.RowKit
attribute [local irreducible] seqW awp zAd zAi zY Weak updS zAr retL Pure Acts rP setP setQ cP nP fr
set_option maxRecDepth 4096
abbrev byB(l:List UInt8):Bk:=⟨zAj l,5,1,Ab,Ac, .plain⟩
def Ta:Par:=⟨λf=>f==102||f==126||f==140||f==159,λ_ _=>AL,λk=>k==1,λ_=>Ac,λ_=>Ac⟩
theorem Ta_ok:zA9 AA Ta:=by intro t n f h;cases h
theorem zC9(a b:List UInt8):zAj a++zAj b=zAj (a++b):=by simp[zAj]
theorem zBg(a:List UInt8):(zAj a).length=a.length:=by simp[zAj]
theorem zHe(l:List UInt8):(Ck l).map Ap=zAj l:=by simp[Ck,zAj]
theorem zM7(l:List UInt8):(zAj l).map zKu=zAj l:=by simp[zAj,zKu]
theorem zZr(l:List UInt8)(r:List D)(n:Nat)(h:l.length=n):(zAj l++r).take n=zAj l:=by
 grind [zBg,Bo]
theorem bs_dl(l:List UInt8):(bs l).data.toList=l:=rfl
theorem dd_len(u:Nat)(h:u<18446744073709551616):(AN u).length<=20:=by
 rw[CR];exact CU u h
set_option maxHeartbeats 2000000 in
theorem zTk(l:List UInt8)(u:Nat)(n:Nat)(hn:l.length=n)(hl:n<=1000000000)(hu:u<18446744073709551616):Acts AA 140 [.osl 0 0 n n Ab, .val (.int .u64 u), .val (.int .i64 10)] [byB l] [0] (.osl 0 0 (n+(AN u).length) (n+(AN u).length) Ab) [byB (l++AN u)]:=by
 subst hn;have hd:=dd_len u hu;by_cases h1:u<100
 ·refine zAm Ta_ok mixed Tryz.func140 rfl (by intro k hk;match k,hk with|0,_=>exact .inr (by simp)|1,_=>exact .inl rfl)<|vAu<|zA<|vAe<|vt<|zA<|vAe<|vT ((u:Int)<(100:Int))<|vA<|vr 3 (i6 (u:Int))<|vc (small_c u h1)<|vr 1 (BJ (byB l)=Ab/\Aa (AM<|byB l)=Aa l*1/\Aa l=Aa l*1/\A_ (byB l)=5/\Ba (byB l)=1/\Aa (zAj<|Bt<|Bv<|AZ<|BL<|AN u)=Aa (Bt<|Bv<|AZ<|BL<|AN u)*1/\0<1/\0<1/\5=5/\(Aa l+Aa (Bt<|Bv<|AZ<|BL<|AN u))*1<=140737488355328/\1=1/\Bc (A1<|byB l)=Ac/\(Ac=Ac\/Bf (A1<|byB l)=Ab)) (vb 0 (Ag (AM (byB l)++zAj (Bt<|Bv<|AZ<|BL<|AN u)) (A_<|byB l) (Ba<|byB l) Ab Ac<|A1<|byB l) (Ag (zAj (l++AN u)) (5:TypeId) 1 Ab Ac Aq) (hd:=by simp(disch:=omega) only[zC9])<|vrT 1<|vs 6 (Af 0 0 (Aa l+Aa (Bt<|Bv<|AZ<|BL<|AN u)) ((Aa l+Aa (Bt<|Bv<|AZ<|BL<|AN u))*1) Ab) (Af 0 0 (Aa l+Aa (AN u)) (Aa l+Aa (AN u)) Ab)<|veT<|zE<|zH<|zH ?_) ⟨(by kernel_rfl),⟨(by simp[zBg]),⟨(by omega),⟨(by kernel_rfl),⟨(by kernel_rfl),⟨(by simp[zBg]),⟨(by omega),⟨(by omega),⟨(by kernel_rfl),⟨(by(simp;omega)),⟨(by kernel_rfl),⟨(by kernel_rfl),(by simp)⟩⟩⟩⟩⟩⟩⟩⟩⟩⟩⟩⟩;refine zN (True) [Af 0 0 (Aa l+Aa (AN u)) (Aa l+Aa (AN u)) Ab] (.inr rfl) ?_;exact⟨by kernel_rfl,by kernel_rfl⟩
 have h2:AT u<=20:=CU u hu;have hz:∀n,n<=20->(AP 24 (Ap (.int .u8 0))).take n=AP n (.val (.int .u8 0)):=λn h=>by rw[List.take_replicate,CN (by omega)]
 have hx:=CR u;have hk:∀r,(zAj (AN u)++r).take (AT u)=zAj (AN u):=λr=>zZr _ r _ hx;have main:Acts AA 140 [.osl 0 0 l.length l.length Ab, .val (.int .u64 u), .val (.int .i64 10)] [byB l] [0] (.osl 0 0 (l.length+(AN u).length) (l.length+(AN u).length) Ab) [byB (l++AN u),⟨Ah (zAl 0) (zAj (AN u)++Ai (AT u) (AP 24 (.val (.int .u8 0)))),237,0,Ac,Ac, .plain⟩]:=by
  refine zAm Ta_ok mixed Tryz.func140 rfl (by intro k hk;match k,hk with|0,_=>exact .inr (by simp)|1,_=>exact .inl rfl)<|vAu<|zA<|vAe<|vt<|zA<|vAe<|vF ((u:Int)<(100:Int))<|vK<|vAe<|vA<|vrT 1<|vc (zVe u (by omega) hu)<|veT<|vA<|vr 2 (True/\(0:Int)<=(↑(AT u):Int)/\0<1/\Ay (↑(AT u):Int)<=24/\24<=maxLen)<|vs 21 (Af 1 0 (Ay (↑(AT u):Int)) (Ay (↑(AT u):Int)*1) Ac) (Af 1 0 (AT u) (AT u) Ac)<|vrT 1<|vnt [byB l,Ag [Ap<|Ax AD (0:Int),Ap<|Ax AD (0:Int),Ap<|Ax AD (0:Int),Ap<|Ax AD (0:Int),Ap<|Ax AD (0:Int),Ap<|Ax AD (0:Int),Ap<|Ax AD (0:Int),Ap<|Ax AD (0:Int),Ap<|Ax AD (0:Int),Ap<|Ax AD (0:Int),Ap<|Ax AD (0:Int),Ap<|Ax AD (0:Int),Ap<|Ax AD (0:Int),Ap<|Ax AD (0:Int),Ap<|Ax AD (0:Int),Ap<|Ax AD (0:Int),Ap<|Ax AD (0:Int),Ap<|Ax AD (0:Int),Ap<|Ax AD (0:Int),Ap<|Ax AD (0:Int),Ap<|Ax AD (0:Int),Ap<|Ax AD (0:Int),Ap<|Ax AD (0:Int),Ap<|Ax AD (0:Int)] 237 0 Ac Ac Aq]<|zZ [] [] [Af 1 0 (AT u) (AT u) Ac,Ap<|Ax Bw (u:Int)] [Af 1 0 (AT u) (AT u) Ac,Ap<|Ax Bw (u:Int)] (AX _) (by exact zVu (k:=1) rfl rfl rfl rfl (hz _ h2) (by simp;omega) hu) ?_;refine v0s<|veT<|vA<|vr 3 (True/\(0:Int)<=(↑(AT u):Int)/\0<1/\Ay (↑(AT u):Int)<=24/\24<=maxLen)<|vs 26 (Af 1 0 (Ay (↑(AT u):Int)) (Ay (↑(AT u):Int)*1) Ac) (Af 1 0 (AT u) (AT u) Ac)<|vr 1 (Ab=Ab/\Aa (zAj l)=Aa l*1/\Aa l=Aa l*1/\5=5/\1=1/\Aa (Ah zKu<|AB (AT u)<|Ai 0 (Ah Ap (Ck<|AN u)++Ai (AT u) [Ap<|Ax AD 0,Ap<|Ax AD 0,Ap<|Ax AD 0,Ap<|Ax AD 0,Ap<|Ax AD 0,Ap<|Ax AD 0,Ap<|Ax AD 0,Ap<|Ax AD 0,Ap<|Ax AD 0,Ap<|Ax AD 0,Ap<|Ax AD 0,Ap<|Ax AD 0,Ap<|Ax AD 0,Ap<|Ax AD 0,Ap<|Ax AD 0,Ap<|Ax AD 0,Ap<|Ax AD 0,Ap<|Ax AD 0,Ap<|Ax AD 0,Ap<|Ax AD 0,Ap<|Ax AD 0,Ap<|Ax AD 0,Ap<|Ax AD 0,Ap<|Ax AD 0]))=AT u*1/\0<1/\0<1/\5=5/\(Aa l+AT u)*1<=140737488355328/\1=1/\Bc Aq=Ac/\(Ac=Ac\/Bf Aq=Ab)) ?_ ⟨(by kernel_rfl),⟨(by simp[zBg]),⟨(by omega),⟨(by kernel_rfl),⟨(by kernel_rfl),⟨(by simp[zBg,hk,zM7,zHe,hx]),⟨(by omega),⟨(by omega),⟨(by kernel_rfl),⟨(by omega),⟨(by kernel_rfl),⟨(by kernel_rfl),(by simp)⟩⟩⟩⟩⟩⟩⟩⟩⟩⟩⟩⟩;refine vb 0 (Ag (zAj l++Ah zKu (AB (AT u)<|Ai 0 (Ah Ap (Ck<|AN u)++Ai (AT u) [Ap<|Ax AD 0,Ap<|Ax AD 0,Ap<|Ax AD 0,Ap<|Ax AD 0,Ap<|Ax AD 0,Ap<|Ax AD 0,Ap<|Ax AD 0,Ap<|Ax AD 0,Ap<|Ax AD 0,Ap<|Ax AD 0,Ap<|Ax AD 0,Ap<|Ax AD 0,Ap<|Ax AD 0,Ap<|Ax AD 0,Ap<|Ax AD 0,Ap<|Ax AD 0,Ap<|Ax AD 0,Ap<|Ax AD 0,Ap<|Ax AD 0,Ap<|Ax AD 0,Ap<|Ax AD 0,Ap<|Ax AD 0,Ap<|Ax AD 0,Ap<|Ax AD 0]))) 5 1 Ab Ac Aq) (Ag (zAj (l++AN u)) 5 1 Ab Ac Aq) (hd:=by simp(disch:=omega) only[zHe,Bi,zM7,zC9,hk])<|vrT 1<|vs 6 (Af 0 0 (Aa l+AT u) ((Aa l+AT u)*1) Ab) (Af 0 0 (Aa l+AT u) (Aa l+AT u) Ab)<|veT<|zE<|zH<|zN (True) [Af 0 0 (Aa l+AT u) (Aa l+AT u) Ab] (.inr rfl) ?_;exact⟨by rw[hx];rfl,by rw[<-zHe (AN u)];kernel_rfl⟩
 exact main.cut 1 (by simp) rfl
set_option maxHeartbeats 2000000 in
theorem appIntI_c(l:List UInt8)(z:Int)(n:Nat)(hn:l.length=n)(hl:n<=900000000)(h0:-9223372036854775808<=z)(h1:z<=9223372036854775807):Acts AA 126 [.osl 0 0 n n Ab,iD z,iD 10] [byB l] [0] (.osl 0 0 (n+(Ao z).length) (n+(Ao z).length) Ab) [byB (l++Ao z)]:=by
 subst hn;by_cases hz:z<0
 ·have e:Ao z=45::AN z.natAbs:=by unfold Ao;rw[if_pos hz]
  have e1:(Bw.wrap (0-Bw.wrap z))=((z.natAbs:Nat):Int):=by
   simp only[BU,IntKind.bits,IntKind.signed,Bool.false_and,Bool.false_eq_true,if_false];omega
  have j1:=(zTk (l++[45]) z.natAbs (l.length+1) (by simp) (by omega) (by omega)).atC 0 (st:=[byB (l++[45]),byB [45]]) rfl (.inl rfl) (.inl rfl) (zQk [.int .u64 z.natAbs, .int .i64 10]) (λj e0 hj he=>by match j,hj,he with|0,hj,_=>exact absurd rfl hj|1,_,he=>cases he;exact .inl rfl);have main:Acts AA 126 [.osl 0 0 l.length l.length Ab,iD z,iD 10] [byB l] [0] (.osl 0 0 (l.length+1+(AN z.natAbs).length) (l.length+1+(AN z.natAbs).length) Ab) [byB (l++[45]++AN z.natAbs),byB [45]]:=by
   refine zAm Ta_ok mixed Tryz.func126 rfl (by intro k hk;match k,hk with|0,_=>exact .inr (by simp)|1,_=>exact .inl rfl)<|vAu<|vA<|vew [9] [] (True)<|zA<|vAe<|vT (z<0)<|vA<|vr 3 (ap_ (BJ (byB l)=Ab/\Aa (AM<|byB l)=Aa l*1/\Aa l=Aa l*1/\A_ (byB l)=5/\Ba (byB l)=1/\1=1/\0<1/\0<1/\5=5/\(Aa l+1)*1<=140737488355328/\1=1/\Bc (A1<|byB l)=Ac/\(Ac=Ac\/Bf (A1<|byB l)=Ab))) (vb 0 (Ag (AM (byB l)++[Ap<|Ax AD (45:Int)]) (A_<|byB l) (Ba<|byB l) Ab Ac<|A1<|byB l) (Ag (zAj (l++[(45:UInt8)])) (5:TypeId) 1 Ab Ac Aq) (hd:=by simp(disch:=omega) only[zC9,show([Ap (Ax AD 45)]:List D)=zAj [45]from rfl])<|vrT 1<|vs 0 (Af 0 0 (Aa l+1) ((Aa l+1)*1) Ab) (Af 0 0 (Aa l+1) (Aa l+1) Ab)<|veT<|zB rfl<|vw 2 [16] [] (True)<|vs 16 (Ap<|Ax Bw<|BU Bw ((0:Int)-BU Bw z)) (Ap<|Ax Bw (↑(Cl z):Int))<|veT<|vA<|vrT 3<|vnt [Ag (zAj (l++[(45:UInt8)])) (5:TypeId) 1 Ab Ac Aq,Ag (zAj [(45:UInt8)]) 5 1 Ab Ac Aq] ?_) ⟨⟨⟨(by kernel_rfl),⟨(by omega),trivial⟩⟩,(by omega)⟩,⟨(by kernel_rfl),⟨(by simp[zBg]),⟨(by omega),⟨(by kernel_rfl),⟨(by kernel_rfl),⟨(by kernel_rfl),⟨(by omega),⟨(by omega),⟨(by kernel_rfl),⟨(by omega),⟨(by kernel_rfl),⟨(by kernel_rfl),(by simp)⟩⟩⟩⟩⟩⟩⟩⟩⟩⟩⟩⟩⟩;refine zG1 [] [] [Af 0 0 (Aa l+1) (Aa l+1) Ab,Ap<|Ax Bw (↑(Cl z):Int),iD 10] [Af 0 0 (Aa l+1) (Aa l+1) Ab,Ap<|Ax Bw (↑(Cl z):Int),iD 10] (AX _) (by exact j1) ?_;refine v0s<|veT<|zE<|zN (True) [Af 0 0 (Aa l+1+Aa (AN<|Cl z)) (Aa l+1+Aa (AN<|Cl z)) Ab] (.inr rfl) ?_;exact⟨by kernel_rfl,by kernel_rfl⟩
  have h2:=main.cut 1 (by simp) rfl;grind
 obtain⟨u,rfl⟩:∃u:Nat,z=u:=⟨z.toNat,by omega⟩;have e:Ao u=AN u:=Lib.itoa_nonneg u;have j1:=zTk l u l.length rfl (by omega) (by omega);rw[e];refine zAm Ta_ok mixed Tryz.func126 rfl (by intro k hk;match k,hk with|0,_=>exact .inr (by simp)|1,_=>exact .inl rfl)<|vAu<|vA<|ve (u6 (u:Int))<|zA<|vAe<|vF ((u:Int)<0)<|vK<|vA<|vrT 3<|vnt [byB l]<|zG1 [] [] [Af 0 0 (Aa l) (Aa l) Ab,Ap<|Ax Bw (u:Int),iD 10] [Af 0 0 (Aa l) (Aa l) Ab,Ap<|Ax Bw (u:Int),iD 10] (AX _) (by exact j1) ?_;refine v0s<|veT<|zE<|zN (True) [Af 0 0 (Aa l+Aa (AN u)) (Aa l+Aa (AN u)) Ab] (.inr rfl) ?_;exact⟨by kernel_rfl,by kernel_rfl⟩
theorem appInt_c(l:List UInt8)(z:Int)(n:Nat)(hn:l.length=n)(hl:n<=900000000)(h0:-9223372036854775808<=z)(h1:z<=9223372036854775807):Acts AA 102 [.osl 0 0 n n Ab,iD z,iD 10] [byB l] [0] (.osl 0 0 (n+(Ao z).length) (n+(Ao z).length) Ab) [byB (l++Ao z)]:=by
 refine zAm Ta_ok mixed Tryz.func102 rfl (by intro k hk;match k,hk with|0,_=>exact .inr (by simp)|1,_=>exact .inl rfl)<|vAu<|vA<|vrT 3<|vnt [byB l]<|zG1 [] [] [Af 0 0 n n Ab,iD z,iD 10] [Af 0 0 n n Ab,iD z,iD 10] (AX _) (by exact appIntI_c l z n hn hl h0 h1) ?_;refine v0s<|veT<|zE<|zN (True) [Af 0 0 (n+Aa (Ao z)) (n+Aa (Ao z)) Ab] (.inr rfl) ?_;exact⟨by kernel_rfl,by kernel_rfl⟩
theorem zNe(k:Nat)(l:List UInt8)(z:Int)(n:Nat)(hn:l.length=n)(hl:n<=900000000)(h0:-9223372036854775808<=z)(h1:z<=9223372036854775807)(he:st[k]?=As (byB l))(hno:∀j e0,j≠k->st[j]?=As e0->e0.nob=Ab\/zX k e0.cells=Ac):Acts AA 102 [.osl k 0 n n Ab,iD z,iD 10] st [k] (.osl k 0 (n+(Ao z).length) (n+(Ao z).length) Ab) (st.set k (byB (l++Ao z))):=
 (appInt_c l z n hn hl h0 h1).atC k he (.inl rfl) (.inl rfl) (zQk [.int .i64 z, .int .i64 10]) hno
inductive WT where
  |nil
  |node(v:Va)(w:Nat)(l r:WT)
namespace WT
def ht:WT->Nat
  |nil=>0
  |node _ _ l r=>max l.ht r.ht+1
def sz:WT->Nat
  |nil=>0
  |node _ _ l r=>l.sz+1+r.sz
def tot:WT->Nat
  |nil=>0
  |node _ w l r=>l.tot+w+r.tot
def lst:WT->List (Va×Nat)
  |nil=>[]
  |node v w l r=>l.lst++(v,w)::r.lst
def d:WT->D
  |nil=> .val (.pointer AL)
  |node v w l r=> .ptr (vaC v++[natD w, .fx l.d, .fx r.d,iD (max l.ht r.ht+1:Nat),iD (l.sz+1+r.sz:Nat),natD (l.tot+w+r.tot)])
def bal(l:WT)(v:Va)(w:Nat)(r:WT):WT:=
  if r.ht+1<l.ht then match l with
    | node lv lw ll lr=>if lr.ht<=ll.ht then node lv lw ll (node v w lr r)else match lr with
      |node mv mw ml mr=>node mv mw (node lv lw ll ml) (node v w mr r)
      |nil=>nil
    |nil=>nil
  else if l.ht+1<r.ht then match r with
    | node rv rw rl rr=>if rl.ht<=rr.ht then node rv rw (node v w l rl) rr else match rl with
      |node mv mw ml mr=>node mv mw (node v w l ml) (node rv rw mr rr)
      |nil=>nil
    |nil=>nil
  else node v w l r
def cmp(desc:Bool)(a b:Va):Int:=if desc then vcmp b a else vcmp a b
def put(desc:Bool)(v:Va)(w:Nat):WT->WT
  |nil=>node v w nil nil
  |node u x l r=>if cmp desc v u<0 then bal (put desc v w l) u x r else if cmp desc v u>0 then bal l u x (put desc v w r)else node v w l r
theorem zJz:∀t:WT,t.lst.length=t.sz
  |nil=>rfl
  |node v w l r=>by simp only[lst,sz,AU,Cg,zJz l,zJz r];omega
theorem ht_le_sz:∀t:WT,t.ht<=t.sz
  |nil=>AV _
  |node v w l r=>by have:=ht_le_sz l;have:=ht_le_sz r;simp only[ht,sz];omega
theorem ht_pos{t:WT}(h:0<t.ht):∃v w l r,t=node v w l r:=by
  cases t<;>grind [ht]
theorem bal_lst(l:WT)(v:Va)(w:Nat)(r:WT):(bal l v w r).lst=l.lst++(v,w)::r.lst:=by
  unfold bal;split
  · rename_i h
    obtain⟨lv,lw,ll,lr,rfl⟩:=ht_pos (t:=l) (by omega);simp only;grind [lst,ht_pos]
  · split
    · rename_i h
      obtain⟨rv,rw',rl,rr,rfl⟩:=ht_pos (t:=r) (by omega);simp only;grind [lst,ht_pos]
    rfl
theorem tot_lst:∀t:WT,(t.lst.map Aw).sum=t.tot
  |nil=>rfl
  |node v w l r=>by simp only[lst,tot,BY,BR,List.sum_append,CC,tot_lst l,tot_lst r];omega
theorem bal_sz(l:WT)(v:Va)(w:Nat)(r:WT):(bal l v w r).sz=l.sz+1+r.sz:=by
  grind [zJz,bal_lst,AU,Cg]
theorem bal_tot(l:WT)(v:Va)(w:Nat)(r:WT):(bal l v w r).tot=l.tot+w+r.tot:=by
  rw[<-tot_lst,bal_lst,BY,BR,List.sum_append,CC,tot_lst,tot_lst];simp only;omega
theorem put_le(desc:Bool)(v:Va)(w:Nat):∀t:WT,(put desc v w t).sz<=t.sz+1/\(put desc v w t).tot<=t.tot+w
  |nil=>by simp[put,sz,tot]
  | node u x l r=>by
    have h1:=put_le desc v w l;have h2:=put_le desc v w r;simp only[put];split
    ·rw[bal_sz,bal_tot];simp only[sz,tot];omega
    · split
      ·rw[bal_sz,bal_tot];simp only[sz,tot];omega
      simp only[sz,tot];omega
def Ok(t:WT):Prop:=t.sz<=1000000000/\Sm t.tot
theorem Ok.node{v:Va}{w:Nat}{l r:WT}(h:(node v w l r).Ok):l.Ok/\r.Ok/\Sm w:=by
  obtain⟨h1,h2⟩:=h;simp only[sz,tot]at h1 h2;exact⟨⟨by omega,h2.le (by omega)⟩,⟨by omega,h2.le (by omega)⟩,h2.le (by omega)⟩
end WT
abbrev zNm(v:Va)(w:Nat)(l r:WT):D:= .ptr (vaC v++[natD w, .fx l.d, .fx r.d,iD (max l.ht r.ht+1:Nat),iD (l.sz+1+r.sz:Nat),natD (l.tot+w+r.tot)])
theorem LeL.relC{I:Im}{w:World}:∀{cs cs':List D}{b o:Nat},LeL cs cs'->RelC I w cs b o->RelC I w cs' b o
  |_,_,_,_, .nil,h=>h
  | _,_,b,o, .cons h1 h2,h=>by
    simp only[RelC]at h⊢;obtain⟨⟨k1,v,k2,k3,k4⟩,k5⟩:=h;exact⟨⟨k1,v,k2,k3,h1 _ _ _ _ k4⟩,h2.relC k5⟩
theorem LeD.ptr{cs cs':List D}(h:LeL cs cs'):LeD (.ptr cs) (.ptr cs'):=λI w β v hr=>by
  simp only[Rel]at hr⊢;obtain⟨b,o,h1,h2⟩:=hr;exact⟨b,o,h1,h.relC h2⟩
theorem LeD.row{cs cs':List D}{n:Nat}(h:LeL cs cs'):LeD (.row cs n) (.row cs' n):=λI w β v hr=>by
  cases h with
  |nil=>exact hr
  | cons h1 h2=>
    simp only[Rel]at hr⊢;obtain⟨a,cap,h3,h4,h5,h6,h7⟩:=hr;refine⟨a,cap,h3,h4,h5,h6,?_⟩;rcases h7 with h7|⟨b,o,h7,h8⟩
    ·cases h7
    exact .inr ⟨b,o,h7,(LeL.cons h1 h2).relC h8⟩
theorem WT.d_node(v:Va)(w:Nat)(l r:WT):(WT.node v w l r).d=zNm v w l r:=rfl
theorem WT.one(t:WT)(I:Im)(w:World)(v:Value)(h:Rel I w noB t.d v):v.oneCell'=true:=by
  cases t with
  |nil=>simp only[WT.d,Rel]at h;subst h;rfl
  |node a b l r=>simp only[WT.d,Rel]at h;obtain⟨b,o,rfl,_⟩:=h;rfl
abbrev WT.x(t:WT):D:= .fx t.d
theorem whtd_c (t : WT):Pure AA 116 [t.d] [] (iD (t.ht:Nat)):=by
  refine zF zBe mixed Tryz.func116 rfl ?_;cases t with
  | nil => refine vAu (zA (vAe (vt (vAe (zE (zH ?_))))))
           refine vret (True)<|.inr rfl
  | node v w l r => refine vAu (zA (vAe (vf (vK (vA ?_)))))
                    refine ve (as_)<|zE<|vret (True)<|.inr rfl
theorem zHn(t:WT):Pure AA 116 [t.x] [] (iD (t.ht:Nat)):=(whtd_c t).le (.cons (BM _) .nil)
theorem wszd_c (t : WT):Pure AA 68 [t.d] [] (iD (t.sz:Nat)):=by
  refine zF zBe mixed Tryz.func68 rfl ?_;cases t with
  | nil => refine vAu (zA (vAe (vt (vAe (zE (zH ?_))))))
           refine vret (True)<|.inr rfl
  | node v w l r => refine vAu (zA (vAe (vf (vK (vA ?_)))))
                    refine ve (aF_)<|zE<|vret (True)<|.inr rfl
theorem wsz_c(t:WT):Pure AA 68 [t.x] [] (iD (t.sz:Nat)):=(wszd_c t).le (.cons (BM _) .nil)
theorem wtotd_c(t:WT):Pure AA 121 [t.d] [] (natD t.tot):=by
  refine zF zBe mixed Tryz.func121 rfl ?_;cases t with
  | nil=>
    refine vAu<|zA<|vAe<|vt<|vAe<|zE<|zH<|vret (True)<|.inr rfl
  | node v w l r => refine vAu (zA (vAe (vf (vK (vA ?_)))))
                    refine ve (ar_)<|zE<|vret (True)<|.inr rfl
theorem wtot_c(t:WT):Pure AA 121 [t.x] [] (natD t.tot):=(wtotd_c t).le (.cons (BM _) .nil)
theorem zWs(v:Va)(w:Nat)(l r:WT):Pure AA 116 [zNm v w l r] [] (iD ((WT.node v w l r).ht:Nat)):=whtd_c (.node v w l r)
abbrev entD(v:Va)(w:Nat):D:= .agg (vaC v++[natD w])
theorem zC5(l r:WT)(v:Va)(w:Nat)(h:(WT.node v w l r).Ok):Pure AA 115 [l.x,entD v w,r.x] [] (WT.node v w l r).x:=by
  refine Pure.fx ?_ (WT.one _);refine zF zBe mixed Tryz.func115 rfl ?_;have h1:=l.ht_le_sz;have h2:=r.ht_le_sz;have h3:=h.1;have h4:=h.2;simp only[WT.sz,WT.tot]at h3 h4;have h5:Sm [l.tot,w,r.tot].sum:=by simp only[CC,List.sum_nil];exact h4.le (by omega)
  refine vAu<|zA<|vd [1,2,3,5,9,12,15,17,19,0,4,6,7,8,10,11,13,14,16,18,20,21,22,23,24,25]<|vr 10 (True/\4<=4)<|vca [AE<|WT.d l] (by exact zHn _)<|vca [AE<|WT.d r] (by exact zHn _)<|vr 2 (i6 ((if(↑(WT.ht r):Int)>(↑(WT.ht l):Int)then(↑(WT.ht r):Int)else(↑(WT.ht l):Int))+(1:Int)))<|vca [AE<|WT.d l] (by exact wsz_c _)<|vr 1 (i6 (↑(WT.sz l)+1))<|vca [AE<|WT.d r] (by exact wsz_c _)<|vr 1 (i6 ((↑(WT.sz l):Int)+(1:Int)+(↑(WT.sz r):Int)))<|vca [AE<|WT.d l] (by exact wtot_c _)<|vr 1 (0<1)<|vca [AE<|WT.d r] (by exact wtot_c _)<|vr 1 ((1=1/\1<=3/\1=1/\2<=3/\1=1/\3<=3/\True)/\0<1/\1=1/\3<=16777216/\3<=9223372036854775807)<|vc (nsum_c [l.tot,w,r.tot] 3 rfl (by omega) h5)<|ve ((4=4/\4<=9/\1=1/\5<=9/\1=1/\6<=9/\1=1/\7<=9/\1=1/\8<=9/\1=1/\9<=9/\True)/\Ab=Ab)<|zE<|vre (True) (AG [Ap<|Ax Bp<|AC v,Ap<|Ax Bp<|AH v,Ap<|AJ<|bs<|AI v,natD w,AE<|WT.d l,AE<|WT.d r,Ap<|Ax Bp ((if(↑(WT.ht r):Int)>(↑(WT.ht l):Int)then(↑(WT.ht r):Int)else(↑(WT.ht l):Int))+(1:Int)),Ap<|Ax Bp ((↑(WT.sz l):Int)+(1:Int)+(↑(WT.sz r):Int)),natD<|List.sum [WT.tot l,w,WT.tot r]]) (.inr rfl) ?_;have e1:((if(r.ht:Int)>(l.ht:Int)then(r.ht:Int)else(l.ht:Int))+1)=((max l.ht r.ht+1:Nat):Int):=by
    omega
  have e2:(l.sz:Int)+1+(r.sz:Int)=((l.sz+1+r.sz:Nat):Int):=by omega
  have e3:[l.tot,w,r.tot].sum=l.tot+w+r.tot:=by simp only[CC,List.sum_nil];omega
  rw[e1,e2,e3];rfl
theorem wnil_x(v:Va)(w:Nat):LeL [.val (.pointer AL),entD v w, .val (.pointer AL)] [WT.nil.x,entD v w,WT.nil.x]:=by
  have h:LeD (.val (.pointer AL)) WT.nil.x:=λI w β v h=>by
    simp only[Rel]at h;subst h;simp only[Rel,WT.d];exact⟨rfl,trivial⟩
  exact .cons h (.cons (BW _) (.cons h .nil))
theorem zNq(desc:Bool)(t:WT)(a b:Va):Pure AA 62 [.agg [bD desc,t.x],vaD a,vaD b] [] (iD (WT.cmp desc a b)):=by
  refine zF zBe mixed Tryz.func62 rfl ?_;cases desc
  ·refine vAu<|zA<|vA<|ve (aF_)<|vf<|vK<|vA<|vr 2 (3<=3/\3<=3)<|vca [Az [iD<|AC a,iD<|AH a,Ap<|AJ<|bs<|AI a],Az [iD<|AC b,iD<|AH b,Ap<|AJ<|bs<|AI b]] (by exact zDt _ _)<|veT<|zE<|vret (True)<|.inr rfl
  refine vAu<|zA<|vA<|ve (aF_)<|vt<|vA<|vr 2 (3<=3/\3<=3)<|vca [Az [iD<|AC b,iD<|AH b,Ap<|AJ<|bs<|AI b],Az [iD<|AC a,iD<|AH a,Ap<|AJ<|bs<|AI a]] (by exact zDt _ _)<|veT<|zE<|zH<|vret (True)<|.inr rfl
set_option maxHeartbeats 2000000 in
theorem wbal_c(l r:WT)(v:Va)(w:Nat)(h:(WT.node v w l r).Ok):Pure AA 118 [l.x,entD v w,r.x] [] (WT.bal l v w r).x:=by
  have k1:=l.ht_le_sz;have k2:=r.ht_le_sz;have k3:=h.1;have k4:=h.2;simp only[WT.sz,WT.tot]at k3 k4;by_cases c1:r.ht+1<l.ht
  · obtain⟨lv,lw,ll,lr,rfl⟩:=WT.ht_pos (t:=l) (by omega)
    simp only[WT.sz,WT.tot]at k3 k4;have e1:(WT.node lv lw ll lr).ht=max ll.ht lr.ht+1:=rfl;have g1:=ll.ht_le_sz;have g2:=lr.ht_le_sz;rw[WT.bal.eq_def,if_pos c1];simp only;refine Pure.le (args':=[zNm lv lw ll lr,entD v w,r.x]) ?_ (.cons (BM _) (.refl _));by_cases c2:lr.ht<=ll.ht
    · rw[if_pos c2]
      have j1:=zC5 lr r v w ⟨by simp only[WT.sz];omega,k4.le (by simp only[WT.tot];omega)⟩;have j2:=zC5 ll (.node v w lr r) lv lw ⟨by simp only[WT.sz];omega,k4.le (by simp only[WT.tot];omega)⟩;refine zF zBe mixed Cm rfl<|vAu<|zA<|vA<|vrT 1<|vc (zWs lv lw ll lr)<|vrT 1<|vca [AE<|WT.d r] (by exact zHn _)<|veT<|zJ<|zA<|vd [0,1,2,3,4,5,6,7,10,11,12,8,9,13,14,15,16,17]<|vw 12 [] [(4,Ab)] (i6 ((↑(WT.ht r):Int)+(1:Int))/\decide ((↑(WT.ht<|WT.node lv lw ll lr):Int)>(↑(WT.ht r):Int)+(1:Int))=Ab/\True/\True/\0<5)<|vca [AE<|WT.d ll] (by exact zHn _)<|vr 1 (0<4)<|vca [AE<|WT.d lr] (by exact zHn _)<|veT<|vT ((↑(WT.ht ll):Int)>=(↑(WT.ht lr):Int))<|zA<|vd [0,1,2,4,5,6,8,9,10,13,3,7,11,12,14,15,16]<|vr 14 (True/\True/\True/\0<5/\4<=9/\0<4/\4<=4)<|vc (j1)<|vc (j2)<|veT<|zE<|zL<|zH<|vret (True)<|.inr rfl
    · rw[if_neg c2]
      obtain⟨mv,mw,ml,mr,rfl⟩:=WT.ht_pos (t:=lr) (by omega);simp only[WT.sz,WT.tot]at k3 k4;have e2:(WT.node mv mw ml mr).ht=max ml.ht mr.ht+1:=rfl;have j1:=zC5 ll ml lv lw ⟨by simp only[WT.sz];omega,k4.le (by simp only[WT.tot];omega)⟩;have j2:=zC5 mr r v w ⟨by simp only[WT.sz];omega,k4.le (by simp only[WT.tot];omega)⟩;have j3:=zC5 (.node lv lw ll ml) (.node v w mr r) mv mw ⟨by simp only[WT.sz];omega,k4.le (by simp only[WT.tot];omega)⟩;simp only[WT.sz]at k1;refine Pure.le (args':=[.ptr (vaC lv++[natD lw, .fx ll.d,zNm mv mw ml mr,iD (max ll.ht (WT.node mv mw ml mr).ht+1:Nat),iD (ll.sz+1+(WT.node mv mw ml mr).sz:Nat),natD (ll.tot+lw+(WT.node mv mw ml mr).tot)]),entD v w,r.x]) ?_ (.cons (LeD.ptr (.cons (.refl _) (.cons (.refl _) (.cons (.refl _) (.cons (.refl _) (.cons (.refl _) (.cons (BM _) (.refl _)))))))) (.refl _));have o2:Pure AA 116 [.ptr (vaC lv++[natD lw, .fx ll.d,zNm mv mw ml mr,iD (max ll.ht (WT.node mv mw ml mr).ht+1:Nat),iD (ll.sz+1+(WT.node mv mw ml mr).sz:Nat),natD (ll.tot+lw+(WT.node mv mw ml mr).tot)])] [] (iD ((WT.node lv lw ll (.node mv mw ml mr)).ht:Nat)):=by
        refine zF zBe mixed Tryz.func116 rfl<|vAu<|zA<|vAe<|vf<|vK<|vA<|ve (as_)<|zE<|vret (True)<|.inr rfl
      refine zF zBe mixed Cm rfl<|vAu<|zA<|vA<|vrT 1<|vc (o2)<|vrT 1<|vca [AE<|WT.d r] (by exact zHn _)<|veT<|zJ<|zA<|vd [0,1,2,3,4,5,6,7,10,11,12,8,9,13,14,15,16,17]<|vw 12 [] [(4,Ab)] (i6 ((↑(WT.ht r):Int)+(1:Int))/\decide ((↑(WT.ht<|WT.node lv lw ll<|WT.node mv mw ml mr):Int)>(↑(WT.ht r):Int)+(1:Int))=Ab/\True/\True/\0<5)<|vca [AE<|WT.d ll] (by exact zHn _)<|vr 1 (0<4)<|vc (zWs mv mw ml mr)<|veT<|vF ((↑(WT.ht ll):Int)>=(↑(WT.ht<|WT.node mv mw ml mr):Int))<|vA<|ve (i6 ((↑(WT.ht r):Int)+(1:Int)))<|vT ((↑(WT.ht<|WT.node lv lw ll<|WT.node mv mw ml mr):Int)>(↑(WT.ht r):Int)+(1:Int))<|vA<|ve (True/\0<4)<|zA<|vd [0,1,2,4,5,6,8,9,10,13,14,15,17,18,19,22,3,7,11,12,16,20,21,23,24,25]<|vr 19 (True/\True/\True/\True/\True/\0<5/\4<=9/\0<5)<|vc (j1)<|vr 3 (4<=9/\0<4/\4<=4)<|vc (j2)<|vc (j3)<|veT<|zE<|zL<|zH<|vret (True)<|.inr rfl
  · by_cases c3:l.ht+1<r.ht
    · obtain⟨rv,rw',rl,rr,rfl⟩:=WT.ht_pos (t:=r) (by omega)
      simp only[WT.sz,WT.tot]at k3 k4;have e1:(WT.node rv rw' rl rr).ht=max rl.ht rr.ht+1:=rfl;have g1:=rl.ht_le_sz;have g2:=rr.ht_le_sz;rw[WT.bal.eq_def,if_neg c1,if_pos c3];simp only;refine Pure.le (args':=[l.x,entD v w,zNm rv rw' rl rr]) ?_ (.cons (BW _) (.cons (BW _) (.cons (BM _) .nil)));by_cases c2:rl.ht<=rr.ht
      · rw[if_pos c2]
        have j1:=zC5 l rl v w ⟨by simp only[WT.sz];omega,k4.le (by simp only[WT.tot];omega)⟩;have j2:=zC5 (.node v w l rl) rr rv rw' ⟨by simp only[WT.sz];omega,k4.le (by simp only[WT.tot];omega)⟩;refine zF zBe mixed Cm rfl<|vAu<|zA<|vA<|vrT 1<|vca [AE<|WT.d l] (by exact zHn _)<|vrT 1<|vc (zWs rv rw' rl rr)<|veT<|zJ<|zA<|vd [0,1,2,3,4,5,6,7,10,11,12,8,9,13,14,15,16,17]<|vew [] [(4,Ac)] (i6 ((↑(WT.ht<|WT.node rv rw' rl rr):Int)+(1:Int))/\decide ((↑(WT.ht l):Int)>(↑(WT.ht<|WT.node rv rw' rl rr):Int)+(1:Int))=Ac)<|vf<|vA<|ve (i6 ((↑(WT.ht<|WT.node rv rw' rl rr):Int)+(1:Int)))<|vF ((↑(WT.ht l):Int)>(↑(WT.ht<|WT.node rv rw' rl rr):Int)+(1:Int))<|zA<|vd [0,1,2,3,4,5,6,7,10,11,12,8,9,13,14,15,16,17]<|vw 12 [] [(4,Ab)] (i6 ((↑(WT.ht l):Int)+(1:Int))/\decide ((↑(WT.ht<|WT.node rv rw' rl rr):Int)>(↑(WT.ht l):Int)+(1:Int))=Ab/\True/\True/\0<4)<|vca [AE<|WT.d rr] (by exact zHn _)<|vr 1 (0<5)<|vca [AE<|WT.d rl] (by exact zHn _)<|veT<|vT ((↑(WT.ht rr):Int)>=(↑(WT.ht rl):Int))<|zA<|vd [0,2,3,4,7,8,9,11,12,13,1,5,6,10,14,15,16]<|vr 12 (True/\True/\True/\4<=4/\0<5)<|vc (j1)<|vr 2 (4<=9/\0<4)<|vc (j2)<|veT<|zE<|zL<|zH<|vret (True)<|.inr rfl
      · rw[if_neg c2]
        obtain⟨mv,mw,ml,mr,rfl⟩:=WT.ht_pos (t:=rl) (by omega);simp only[WT.sz,WT.tot]at k3 k4;have e2:(WT.node mv mw ml mr).ht=max ml.ht mr.ht+1:=rfl;have j1:=zC5 l ml v w ⟨by simp only[WT.sz];omega,k4.le (by simp only[WT.tot];omega)⟩;have j2:=zC5 mr rr rv rw' ⟨by simp only[WT.sz];omega,k4.le (by simp only[WT.tot];omega)⟩;have j3:=zC5 (.node v w l ml) (.node rv rw' mr rr) mv mw ⟨by simp only[WT.sz];omega,k4.le (by simp only[WT.tot];omega)⟩;simp only[WT.sz]at k2;refine Pure.le (args':=[l.x,entD v w, .ptr (vaC rv++[natD rw',zNm mv mw ml mr, .fx rr.d,iD (max (WT.node mv mw ml mr).ht rr.ht+1:Nat),iD ((WT.node mv mw ml mr).sz+1+rr.sz:Nat),natD ((WT.node mv mw ml mr).tot+rw'+rr.tot)])]) ?_ (.cons (.refl _) (.cons (.refl _) (.cons (LeD.ptr (.cons (.refl _) (.cons (.refl _) (.cons (.refl _) (.cons (.refl _) (.cons (BM _) (.refl _))))))) .nil)));have o2:Pure AA 116 [.ptr (vaC rv++[natD rw',zNm mv mw ml mr, .fx rr.d,iD (max (WT.node mv mw ml mr).ht rr.ht+1:Nat),iD ((WT.node mv mw ml mr).sz+1+rr.sz:Nat),natD ((WT.node mv mw ml mr).tot+rw'+rr.tot)])] [] (iD ((WT.node rv rw' (.node mv mw ml mr) rr).ht:Nat)):=by
          refine zF zBe mixed Tryz.func116 rfl<|vAu<|zA<|vAe<|vf<|vK<|vA<|ve (as_)<|zE<|vret (True)<|.inr rfl
        refine zF zBe mixed Cm rfl<|vAu<|zA<|vA<|vrT 1<|vca [AE<|WT.d l] (by exact zHn _)<|vrT 1<|vc (o2)<|veT<|zJ<|zA<|vd [0,1,2,3,4,5,6,7,10,11,12,8,9,13,14,15,16,17]<|vew [] [(4,Ac)] (i6 ((↑(WT.ht<|WT.node rv rw' (WT.node mv mw ml mr) rr):Int)+(1:Int))/\decide ((↑(WT.ht l):Int)>(↑(WT.ht<|WT.node rv rw' (WT.node mv mw ml mr) rr):Int)+(1:Int))=Ac)<|vf<|vA<|ve (i6 ((↑(WT.ht<|WT.node rv rw' (WT.node mv mw ml mr) rr):Int)+(1:Int)))<|vF ((↑(WT.ht l):Int)>(↑(WT.ht<|WT.node rv rw' (WT.node mv mw ml mr) rr):Int)+(1:Int))<|zA<|vd [0,1,2,3,4,5,6,7,10,11,12,8,9,13,14,15,16,17]<|vw 12 [] [(4,Ab)] (i6 ((↑(WT.ht l):Int)+(1:Int))/\decide ((↑(WT.ht<|WT.node rv rw' (WT.node mv mw ml mr) rr):Int)>(↑(WT.ht l):Int)+(1:Int))=Ab/\True/\True/\0<4)<|vca [AE<|WT.d rr] (by exact zHn _)<|vr 1 (0<5)<|vc (zWs mv mw ml mr)<|veT<|vF ((↑(WT.ht rr):Int)>=(↑(WT.ht<|WT.node mv mw ml mr):Int))<|vA<|ve (i6 ((↑(WT.ht l):Int)+(1:Int)))<|vT ((↑(WT.ht<|WT.node rv rw' (WT.node mv mw ml mr) rr):Int)>(↑(WT.ht l):Int)+(1:Int))<|vA<|ve (aA_)<|zA<|vd [0,2,3,4,7,8,9,11,12,13,15,16,17,19,20,21,1,5,6,10,14,18,22,23,24,25]<|vr 18 (True/\True/\True/\True/\True/\4<=4/\0<5)<|vc (j1)<|vr 4 (4<=9/\0<4/\4<=9/\0<4)<|vc (j2)<|vc (j3)<|veT<|zE<|zL<|zH<|vret (True)<|.inr rfl
    · rw[WT.bal.eq_def,if_neg c1,if_neg c3]
      have j1:=zC5 l r v w h;refine zF zBe mixed Cm rfl<|vAu<|zA<|vA<|vrT 1<|vca [AE<|WT.d l] (by exact zHn _)<|vrT 1<|vca [AE<|WT.d r] (by exact zHn _)<|veT<|zJ<|zA<|vd [0,1,2,3,4,5,6,7,10,11,12,8,9,13,14,15,16,17]<|vew [] [(4,Ac)] (i6 ((↑(WT.ht r):Int)+(1:Int))/\decide ((↑(WT.ht l):Int)>(↑(WT.ht r):Int)+(1:Int))=Ac)<|vf<|vA<|ve (i6 ((↑(WT.ht r):Int)+(1:Int)))<|vF ((↑(WT.ht l):Int)>(↑(WT.ht r):Int)+(1:Int))<|zA<|vd [0,1,2,3,4,5,6,7,10,11,12,8,9,13,14,15,16,17]<|vew [] [(4,Ac)] (i6 ((↑(WT.ht l):Int)+(1:Int))/\decide ((↑(WT.ht r):Int)>(↑(WT.ht l):Int)+(1:Int))=Ac)<|vf<|vA<|ve (i6 ((↑(WT.ht l):Int)+(1:Int)))<|vF ((↑(WT.ht r):Int)>(↑(WT.ht l):Int)+(1:Int))<|zT<|zD<|vN<|vA<|vr 3 (4<=4)<|vc (j1)<|veT<|zE<|vret (True)<|.inr rfl
theorem wput_c(desc:Bool)(root:WT)(v:Va)(w:Nat):∀(t:WT),t.sz+1<=1000000000->Sm (t.tot+w)->Pure AA 84 [.agg [bD desc,root.x],t.x,entD v w] [] (t.put desc v w).x
  | .nil,h1,h2=>by
    have j1:=(zC5 .nil .nil v w ⟨by simp[WT.sz],h2.le (by simp[WT.tot])⟩).le (wnil_x v w);refine Pure.le (args':=[.agg [bD desc,root.x], .val (.pointer AL),entD v w]) ?_ (.cons (BW _) (.cons (BM _) (.refl _)));rw[WT.put];refine zF zBe mixed CD rfl<|vAu<|zA<|vAe<|vt<|vA<|vr 1 (4<=4)<|vc (j1)<|veT<|zE<|zH<|vret (True)<|.inr rfl;all_goals skip
  | .node u x l r,h1,h2=>by
    simp only[WT.sz,WT.tot]at h1 h2;have i1:=wput_c desc root v w l (by omega) (h2.le (by omega));have i2:=wput_c desc root v w r (by omega) (h2.le (by omega));have c:=zNq desc root v u;have p1:=WT.put_le desc v w l;have p2:=WT.put_le desc v w r;have b1:=wbal_c (l.put desc v w) r u x ⟨by simp only[WT.sz];omega,h2.le (by simp only[WT.tot];omega)⟩;have b2:=wbal_c l (r.put desc v w) u x ⟨by simp only[WT.sz];omega,h2.le (by simp only[WT.tot];omega)⟩;have b3:=zC5 l r v w ⟨by simp only[WT.sz];omega,h2.le (by simp only[WT.tot];omega)⟩;refine Pure.le (args':=[.agg [bD desc,root.x],zNm u x l r,entD v w]) ?_ (.cons (BW _) (.cons (BM _) (.refl _)));rw[WT.put];by_cases c1:WT.cmp desc v u<0
    · rw[if_pos c1]
      refine zF zBe mixed CD rfl<|vAu<|zA<|vAe<|vf<|vK<|zA<|zA<|vd [1,3,4,5,6,0,2,7,8,9]<|vr 8 (aw_)<|vc (c)<|veT<|zJ<|vAe<|vT (WT.cmp desc v u<0)<|zA<|vd [1,2,3,7,8,9,11,12,13,0,4,5,6,10,14,15,16]<|vr 12 (True/\True/\True/\2<=2/\0<5/\4<=4)<|vc (i1)<|vr 2 (4<=9/\0<4)<|vc (b1)<|veT<|zE<|zL<|zH<|vret (True)<|.inr rfl
    · rw[if_neg c1]
      by_cases c2:WT.cmp desc v u>0
      · rw[if_pos c2]
        refine zF zBe mixed CD rfl<|vAu<|zA<|vAe<|vf<|vK<|zA<|zA<|vd [1,3,4,5,6,0,2,7,8,9]<|vr 8 (aw_)<|vc (c)<|veT<|zJ<|vAe<|vF (WT.cmp desc v u<0)<|vAe<|vT (WT.cmp desc v u>(0:Int))<|zA<|vd [0,1,2,4,5,6,9,10,11,3,7,8,12,13,14,15,16]<|vr 14 (True/\True/\True/\0<5/\4<=9/\2<=2/\0<4/\4<=4)<|vc (i2)<|vc (b2)<|veT<|zE<|zL<|zH<|vret (True)<|.inr rfl
      · rw[if_neg c2]
        refine zF zBe mixed CD rfl<|vAu<|zA<|vAe<|vf<|vK<|zA<|zA<|vd [1,3,4,5,6,0,2,7,8,9]<|vr 8 (aw_)<|vc (c)<|veT<|zJ<|vAe<|vF (WT.cmp desc v u<0)<|vAe<|vF (WT.cmp desc v u>(0:Int))<|zT<|zD<|vN<|zA<|vd [0,1,2,5,6,7,3,4,8,9,10]<|vr 9 (True/\True/\0<5/\4<=4/\0<4)<|vc (b3)<|veT<|zE<|vret (True)<|.inr rfl
def idV(v:Va):List UInt8:=Ao v.kind++[44]++Ao v.int++[44]++Ao (v.str.length:Nat)++[44]++v.str
def idR(r:List Va):List UInt8:=r.flatMap idV
def Vs(v:Va):Prop:=(-9223372036854775808<=v.kind/\v.kind<=9223372036854775807)/\(-9223372036854775808<=v.int/\v.int<=9223372036854775807)/\v.str.length<=10000
def Vb(B:Nat)(v:Va):Prop:=(-9223372036854775808<=v.kind/\v.kind<=9223372036854775807)/\(-9223372036854775808<=v.int/\v.int<=9223372036854775807)/\v.str.length<=B
theorem idV_len(v:Va)(h:Vb B v)(hB:B<=1000000000):(idV v).length<=B+100:=by
 have h1:=Ca v.kind h.1.1 h.1.2;have h2:=Ca v.int h.2.1.1 h.2.1.2;have h3:=Ca (v.str.length:Nat) (by omega) (by have:=h.2.2;omega);have h4:=h.2.2;simp only[idV,AU,Cg,CE];omega
theorem zYm(r:List Va)(i:Nat)(h:i<r.length):idR (r.take (i+1))=idR (r.take i)++idV (r.getD i Ae):=by
 rw[BI h,idR,Ch,A3,AS h];simp[idR]
theorem idR_len(r:List Va)(hB:B<=1000000000)(h:∀v∈r,Vb B v)(i:Nat)(hi:i<=r.length):(idR (r.take i)).length<=(B+100)*i:=by
 induction i with
 |zero=>simp[idR]
 |succ i ih=>
  rw[zYm r i (by omega),AU,Nat.mul_succ]
  have:=ih (by omega)
  have:=idV_len (r.getD i Ae) (by rw[A3,AS (by omega)];exact h _ (A8 _)) hB
  omega
def isConv:Op->Bool
 | .convert s d _=>s==180&&d==9
 |_=>Ac
def Tid:Par:=⟨λf=>f==102,λ_ _=>AL,λ_=>Ac,isConv,λ_=>Ac⟩
theorem Tid_ok:zA9 AA Tid:=by intro t n f h;cases h
theorem zTd(l:List UInt8):zFp (zAj l)=As l:=by
 induction l with
 |nil=>rfl
 |cons b l ih=>
  show(zFp (zAj l)).map (UInt8.ofNat ((b.toNat:Int)).toNat::·)=_;rw[ih];simp
theorem zQ6(l:List UInt8):zPk (zAj l)=l:=by
 induction l with
 |nil=>rfl
 |cons b l ih=>
  show byteG (.val (.int .u8 b.toNat))::zPk (zAj l)=_;rw[ih];simp[byteG]
theorem zG0(l:List UInt8)(n:Nat)(h:l.length=n):(zAj l).take n=zAj l:=Bo (by rw[zBg];omega)
def zN0(k:Nat)(st:List Bk):Bool:=st.zipIdx.all λp=>p.2==k||p.1.nob||!zX k p.1.cells
theorem zFe(h:zN0 k st=Ab):∀j e0,j≠k->st[j]?=As e0->e0.nob=Ab\/zX k e0.cells=false:=λj e0 hj he=>by
 unfold zN0 at h;rw[BG]at h
 have:=h (e0,j) (List.mem_zipIdx_iff_getElem?.2 he)
 simp only[CP,beq_iff_eq,Bool.not_eq_true']at this;rcases this with(h1|h1)|h1
 ·exact absurd h1 hj
 ·exact .inl h1
 exact .inr h1
set_option maxHeartbeats 4000000 in
theorem zMp(B:Nat)(r:List Va)(n:Nat)(hn:r.length=n)(hl:(B+100)*n<=800000000)(hB:B<=700000000)(hv:∀v∈r,Vb B v):Pure AA 59 [.row (zG r) n] [] (strD (idR r)):=by
 subst hn;refine zF Tid_ok mixed Tryz.func59 rfl<|vAu<|vAe<|zA<|vAe<|zJ<|zK (λ(i:Nat)=>fr 38 [(2,Ap<|AJ (AZ #[])),(3,Af 0 0 (Aa<|idR<|AB i r) (Aa<|idR<|AB i r) Ab),(6,Ak (zG r)<|Aa r),(7,iD (Aa r:Int)),(8,iD (i:Int))]) (λi=>[byB<|idR<|r.take i]) (λi=>r.length-i) (λi=>i<=r.length) 0 ?_ ?_ ?_
 ·omega
 ·rw[show idR (r.take 0)=[]from rfl];refine vk 0
 rintro i h1;have hb:=A0 (idR_len r (by omega) hv i (by omega)) (Nat.mul_le_mul_left _ h1);have hb2:i<r.length->(idR (r.take i)).length+B+100<=(B+100)*r.length:=λhi=>by
  have h2:=idR_len r (by omega) hv i (by omega);have h3:=Nat.mul_le_mul_left (B+100) (show i+1<=r.length by omega);rw[Nat.mul_succ]at h3;omega
 have hn2:100*r.length<=(B+100)*r.length:=B7 _ (by omega);generalize (B+100)*r.length=T at*;generalize ex:idR (r.take i)=x at*;rcases AQ i r.length with hi|hi
 ·have hb3:=hb2 hi;have hvi:Vb B (r.getD i Ae):=by rw[A3,AS hi];exact hv _ (A8 _)
  have e2:=zYm r i hi;rw[ex]at e2;obtain⟨v,ev⟩:∃v,v=r.getD i default:=⟨_,rfl⟩;rw[<-ev]at e2 hvi;have l1:=Ca v.kind hvi.1.1 hvi.1.2;have l2:=Ca v.int hvi.2.1.1 hvi.2.1.2;have l3:=hvi.2.2;have l4:=Ca (v.str.length:Nat) (by omega) (by omega);have e3:x++idV v=x++Ao v.kind++[44]++Ao v.int++[44]++Ao (v.str.length:Nat)++[44]++v.str:=by simp[idV]
  focus
   refine vAu<|zA<|vT ((i:Int)<↑(Aa r))<|vKB<|vA<|vr 2 (ix ↑i ↑(Aa r) (zG r≠[])/\3<=Aa (Ai (i*3)<|zG r)) ?_ ⟨⟨(by omega),⟨(by omega),(by exact zE4 _)⟩⟩,(by exact zC3 _ _)⟩;refine vs 11 (Az<|AB 3<|Ai (i*3)<|zG r) (Az<|vaC v) (hd:=by simp(disch:=omega) only[zB5,<-ev])<|ve (am_)<|vA<|vr 3 (as_)<|vnt [byB x,Ag [iD<|AC v,iD<|AH v,Ap<|AJ<|bs<|AI v] 64 0 Ac Ac Aq]<|zG1 [] [] [Af 0 0 (Aa x) (Aa x) Ab,iD<|AC v,iD 10] [Af 0 0 (Aa x) (Aa x) Ab,iD<|AC v,iD 10] (AX _) (by exact zNe 0 _ v.kind _ (by simp) (by omega) hvi.1.1 hvi.1.2 rfl (zFe rfl)) ?_;refine v0s<|vr 2 (an_ (Aa (zAj (x++Ao (AC v)))=(Aa x+Aa (Ao<|AC v))*1/\Aa x+Aa (Ao<|AC v)=(Aa x+Aa (Ao<|AC v))*1/\5=5/\1=1/\1=1/\0<1/\0<1/\5=5/\(Aa x+Aa (Ao<|AC v)+1)*1<=140737488355328/\1=1/\Bc Aq=Ac/\(Ac=Ac\/Bf Aq=Ab))) (vb 0 (Ag (zAj (x++Ao (AC v))++[Ap<|Ax AD 44]) 5 1 Ab Ac Aq) (Ag (zAj (x++Ao (AC v)++[(44:UInt8)])) 5 1 Ab Ac Aq) (hd:=by simp(disch:=omega) only[zC9,show([Ap (Ax AD 44)]:List D)=zAj [44]from rfl])<|vrT 1<|vs 3 (Af 0 0 (Aa x+Aa (Ao<|AC v)+1) ((Aa x+Aa (Ao<|AC v)+1)*1) Ab) (Af 0 0 (Aa x+Aa (Ao<|AC v)+1) (Aa x+Aa (Ao<|AC v)+1) Ab)<|veT<|zA ?_) ⟨⟨⟨(by kernel_rfl),⟨(by omega),trivial⟩⟩,(by omega)⟩,⟨(by kernel_rfl),⟨(by simp[zBg]),⟨(by omega),⟨(by kernel_rfl),⟨(by kernel_rfl),⟨(by kernel_rfl),⟨(by omega),⟨(by omega),⟨(by kernel_rfl),⟨(by omega),⟨(by kernel_rfl),⟨(by kernel_rfl),(by simp)⟩⟩⟩⟩⟩⟩⟩⟩⟩⟩⟩⟩⟩;refine zB rfl<|vr 3 (aF_)<|vnt [Ag (zAj (x++Ao (AC v)++[(44:UInt8)])) 5 1 Ab Ac Aq,Ag [iD<|AC v,iD<|AH v,Ap<|AJ<|bs<|AI v] 64 0 Ac Ac Aq,Ag (zAj [(44:UInt8)]) 5 1 Ab Ac Aq]<|zG1 [] [] [Af 0 0 (Aa x+Aa (Ao<|AC v)+1) (Aa x+Aa (Ao<|AC v)+1) Ab,iD<|AH v,iD 10] [Af 0 0 (Aa x+Aa (Ao<|AC v)+1) (Aa x+Aa (Ao<|AC v)+1) Ab,iD<|AH v,iD 10] (AX _) (by exact zNe 0 _ v.int _ (by simp;omega) (by omega) hvi.2.1.1 hvi.2.1.2 rfl (zFe rfl)) ?_;refine v0s<|vr 2 (an_ (Aa (zAj (x++Ao (AC v)++[(44:UInt8)]++Ao (AH v)))=(Aa x+Aa (Ao<|AC v)+1+Aa (Ao<|AH v))*1/\Aa x+Aa (Ao<|AC v)+1+Aa (Ao<|AH v)=(Aa x+Aa (Ao<|AC v)+1+Aa (Ao<|AH v))*1/\5=5/\1=1/\1=1/\0<1/\0<1/\5=5/\(Aa x+Aa (Ao<|AC v)+1+Aa (Ao<|AH v)+1)*1<=140737488355328/\1=1/\Bc Aq=Ac/\(Ac=Ac\/Bf Aq=Ab))) (vb 0 (Ag (zAj (x++Ao (AC v)++[(44:UInt8)]++Ao (AH v))++[Ap<|Ax AD 44]) 5 1 Ab Ac Aq) (Ag (zAj (x++Ao (AC v)++[(44:UInt8)]++Ao (AH v)++[(44:UInt8)])) 5 1 Ab Ac Aq) (hd:=by simp(disch:=omega) only[zC9,show([Ap (Ax AD 44)]:List D)=zAj [44]from rfl]) ?_) ⟨⟨⟨(by kernel_rfl),⟨(by omega),trivial⟩⟩,(by omega)⟩,⟨(by kernel_rfl),⟨(by(simp[zBg];omega)),⟨(by omega),⟨(by kernel_rfl),⟨(by kernel_rfl),⟨(by kernel_rfl),⟨(by omega),⟨(by omega),⟨(by kernel_rfl),⟨(by omega),⟨(by kernel_rfl),⟨(by kernel_rfl),(by simp)⟩⟩⟩⟩⟩⟩⟩⟩⟩⟩⟩⟩⟩;refine vrT 1<|vs 3 (Af 0 0 (Aa x+Aa (Ao<|AC v)+1+Aa (Ao<|AH v)+1) ((Aa x+Aa (Ao<|AC v)+1+Aa (Ao<|AH v)+1)*1) Ab) (Af 0 0 (Aa x+Aa (Ao<|AC v)+1+Aa (Ao<|AH v)+1) (Aa x+Aa (Ao<|AC v)+1+Aa (Ao<|AH v)+1) Ab)<|veT<|vA<|vr 4 (ar_)<|vnt [Ag (zAj (x++Ao (AC v)++[(44:UInt8)]++Ao (AH v)++[(44:UInt8)])) 5 1 Ab Ac Aq,Ag [iD<|AC v,iD<|AH v,Ap<|AJ<|bs<|AI v] 64 0 Ac Ac Aq,Ag [Ap<|Ax AD (↑(44:Nat):Int)] 5 1 Ab Ac Aq,Ag (zAj [(44:UInt8)]) 5 1 Ab Ac Aq]<|zG1 [] [] [Af 0 0 (Aa x+Aa (Ao<|AC v)+1+Aa (Ao<|AH v)+1) (Aa x+Aa (Ao<|AC v)+1+Aa (Ao<|AH v)+1) Ab,iD (Aa (AI v):Int),iD 10] [Af 0 0 (Aa x+Aa (Ao<|AC v)+1+Aa (Ao<|AH v)+1) (Aa x+Aa (Ao<|AC v)+1+Aa (Ao<|AH v)+1) Ab,iD (Aa (AI v):Int),iD 10] (AX _) (by exact zNe 0 _ (v.str.length:Nat) _ (by simp;omega) (by omega) (by omega) (by omega) rfl (zFe rfl)) ?_;refine v0s<|vr 2 (an_ (Aa (zAj (x++Ao (AC v)++[(44:UInt8)]++Ao (AH v)++[(44:UInt8)]++Ao (Aa (AI v):Int)))=(Aa x+Aa (Ao<|AC v)+1+Aa (Ao<|AH v)+1+Aa (Ao (Aa (AI v):Int)))*1/\Aa x+Aa (Ao<|AC v)+1+Aa (Ao<|AH v)+1+Aa (Ao (Aa (AI v):Int))=(Aa x+Aa (Ao<|AC v)+1+Aa (Ao<|AH v)+1+Aa (Ao (Aa (AI v):Int)))*1/\5=5/\1=1/\1=1/\0<1/\0<1/\5=5/\(Aa x+Aa (Ao<|AC v)+1+Aa (Ao<|AH v)+1+Aa (Ao (Aa (AI v):Int))+1)*1<=140737488355328/\1=1/\Bc Aq=Ac/\(Ac=Ac\/Bf Aq=Ab))) ?_ ⟨⟨⟨(by kernel_rfl),⟨(by omega),trivial⟩⟩,(by omega)⟩,⟨(by kernel_rfl),⟨(by(simp[zBg];omega)),⟨(by omega),⟨(by kernel_rfl),⟨(by kernel_rfl),⟨(by kernel_rfl),⟨(by omega),⟨(by omega),⟨(by kernel_rfl),⟨(by omega),⟨(by kernel_rfl),⟨(by kernel_rfl),(by simp)⟩⟩⟩⟩⟩⟩⟩⟩⟩⟩⟩⟩⟩;refine vb 0 (Ag (zAj (x++Ao (AC v)++[(44:UInt8)]++Ao (AH v)++[(44:UInt8)]++Ao (Aa (AI v):Int))++[Ap<|Ax AD 44]) 5 1 Ab Ac Aq) (Ag (zAj (x++Ao (AC v)++[(44:UInt8)]++Ao (AH v)++[(44:UInt8)]++Ao (Aa (AI v):Int)++[(44:UInt8)])) 5 1 Ab Ac Aq) (hd:=by simp(disch:=omega) only[zC9,show([Ap (Ax AD 44)]:List D)=zAj [44]from rfl])<|vrT 1<|vs 3 (Af 0 0 (Aa x+Aa (Ao<|AC v)+1+Aa (Ao<|AH v)+1+Aa (Ao (Aa (AI v):Int))+1) ((Aa x+Aa (Ao<|AC v)+1+Aa (Ao<|AH v)+1+Aa (Ao (Aa (AI v):Int))+1)*1) Ab) (Af 0 0 (Aa x+Aa (Ao<|AC v)+1+Aa (Ao<|AH v)+1+Aa (Ao (Aa (AI v):Int))+1) (Aa x+Aa (Ao<|AC v)+1+Aa (Ao<|AH v)+1+Aa (Ao (Aa (AI v):Int))+1) Ab)<|veT<|zB rfl<|vwh 4 [] [] (True/\0<1/\Ab=Ab/\Aa (zAj (x++Ao (AC v)++[(44:UInt8)]++Ao (AH v)++[(44:UInt8)]++Ao (Aa (AI v):Int)++[(44:UInt8)]))=(Aa x+Aa (Ao<|AC v)+1+Aa (Ao<|AH v)+1+Aa (Ao (Aa (AI v):Int))+1)*1/\Aa x+Aa (Ao<|AC v)+1+Aa (Ao<|AH v)+1+Aa (Ao (Aa (AI v):Int))+1=(Aa x+Aa (Ao<|AC v)+1+Aa (Ao<|AH v)+1+Aa (Ao (Aa (AI v):Int))+1)*1/\5=5/\1=1/\Aa (zAj<|Bt<|Bv<|bs<|AI v)=Aa (Bt<|Bv<|bs<|AI v)*1/\0<1/\0<1/\5=5/\(Aa x+Aa (Ao<|AC v)+1+Aa (Ao<|AH v)+1+Aa (Ao (Aa (AI v):Int))+1+Aa (Bt<|Bv<|bs<|AI v))*1<=140737488355328/\1=1/\Bc Aq=Ac/\(Ac=Ac\/Bf Aq=Ab)) ⟨trivial,(by omega),?_⟩ ?_;rotate_left;refine vb 0 (Ag (zAj (x++Ao (AC v)++[(44:UInt8)]++Ao (AH v)++[(44:UInt8)]++Ao (Aa (AI v):Int)++[(44:UInt8)])++zAj (Bt<|Bv<|bs<|AI v)) 5 1 Ab Ac Aq) (Ag (zAj (x++Ao (AC v)++[(44:UInt8)]++Ao (AH v)++[(44:UInt8)]++Ao (Aa (AI v):Int)++[(44:UInt8)]++AI v)) 5 1 Ab Ac Aq) (hd:=by simp(disch:=omega) only[bs_dl,zC9])<|vrT 1<|vs 3 (Af 0 0 (Aa x+Aa (Ao<|AC v)+1+Aa (Ao<|AH v)+1+Aa (Ao (Aa (AI v):Int))+1+Aa (Bt<|Bv<|bs<|AI v)) ((Aa x+Aa (Ao<|AC v)+1+Aa (Ao<|AH v)+1+Aa (Ao (Aa (AI v):Int))+1+Aa (Bt<|Bv<|bs<|AI v))*1) Ab) (Af 0 0 (Aa x+Aa (Ao<|AC v)+1+Aa (Ao<|AH v)+1+Aa (Ao (Aa (AI v):Int))+1+Aa (AI v)) (Aa x+Aa (Ao<|AC v)+1+Aa (Ao<|AH v)+1+Aa (Ao (Aa (AI v):Int))+1+Aa (AI v)) Ab) (hd:=by simp(disch:=omega) only[bs_dl,Bn])<|vnil<|zD<|vN<|zB rfl<|vr 2 (i6 (↑i+1))<|vnil<|zC ?_;rotate_left
  all_goals first|(refine⟨rfl,?_,?_,rfl,rfl,?_,by decide,by decide,rfl,?_,rfl,rfl, .inl rfl⟩<;>(try simp only[zBg,AU,Cg,CE,bs_dl])<;>omega)|skip
  refine⟨i+1,by omega,by omega,?_⟩;rw[e2,e3];refine wk 3 (Af 0 0 (Aa x+Aa (Ao (AC v))+1+Aa (Ao (AH v))+1+Aa (Ao (↑(Aa (AI v)):Int))+1+Aa (AI v)) (Aa x+Aa (Ao (AC v))+1+Aa (Ao (AH v))+1+Aa (Ao (↑(Aa (AI v)):Int))+1+Aa (AI v)) Ab) (Af 0 0 (Aa (x++Ao (AC v)++[(44:UInt8)]++Ao (AH v)++[(44:UInt8)]++Ao (↑(Aa (AI v)):Int)++[(44:UInt8)]++AI v)) (Aa (x++Ao (AC v)++[(44:UInt8)]++Ao (AH v)++[(44:UInt8)]++Ao (↑(Aa (AI v)):Int)++[(44:UInt8)]++AI v)) Ab) (by(simp;omega)) (vk 1)
 have e:i=r.length:=by omega
 subst e;rw[Bq]at ex;refine vAu<|zA<|vF ((Aa r:Int)<↑(Aa r))<|vZ2<|vA<|vr 2 (zFp (AB (Aa x)<|Ai 0<|AM<|byB x)=As (zPk<|AB (Aa x)<|Ai 0<|AM<|byB x)/\Aa (AB (Aa x)<|Ai 0<|AM<|byB x)=Aa x/\Program.underlying AA 5=As (TypeDesc.int AD)) (vs 37 (Ap<|AJ<|AZ<|BL<|zPk<|AB (Aa x)<|Ai 0<|AM<|byB x) (Ap<|AJ<|AZ<|BL x) (hd:=by simp(disch:=omega) only[Bi,zG0,zQ6])<|veT<|zE ?_) ⟨(by simp[zTd,zQ6,zG0,zBg]),⟨(by simp[zTd,zQ6,zG0,zBg]),(by kernel_rfl)⟩⟩;refine vre (True) (Ap<|AJ<|AZ<|BL x) (.inr rfl) ?_;rw[ex];rfl
theorem zCs(r:List Va)(n:Nat)(hn:r.length=n)(hv:∀v∈r,Vs v)(hl:n<=10000:=by omega):Pure AA 59 [.row (zG r) n] [] (strD (idR r)):=zMp 10000 r n hn (by omega) (by omega) hv
end
variable{v:Va}
section
open Go.RowKit
def dvl(l:List UInt8):Nat:=l.foldl (λa b=>a*10+(b.toNat-48)) 0
theorem zYx(u:Nat):dvl (AN u)=u/\∀b∈AN u,48<=b.toNat/\b.toNat<=57:=by
 induction u using Nat.strongRecOn with
 | _ u ih=>
  rw[AN];split
  ·rename_i h;have e:(UInt8.ofNat (48+u)).toNat=48+u:=by rw[UInt8.toNat_ofNat'];omega
   grind [only,dvl,By]
  rename_i h;obtain⟨h1,h2⟩:=ih (u/10) (by omega);have e:(UInt8.ofNat (48+u%10)).toNat=48+u%10:=by rw[UInt8.toNat_ofNat'];omega
  grind [dvl,only,By]
theorem zQz{a b:Int}(h:Ao a=Ao b):a=b:=by
 have key:∀z:Int,z<0->∀u:Nat,Ao z≠AN u:=λz hz u e=>by
  unfold Ao at e;rw[if_pos hz]at e
  have:=(zYx u).2 45 (by rw[<-e];simp)
  grind
 by_cases ha:a<0<;>by_cases hb:b<0
 ·unfold Ao at h;grind [dvl,List.cons.inj,zYx]
 ·have e:Ao b=AN b.toNat:=by unfold Ao;rw[if_neg hb]
  grind
 ·have e:Ao a=AN a.toNat:=by unfold Ao;rw[if_neg ha]
  grind
 unfold Ao at h;grind [dvl,zYx]
theorem zJ1(z:Int):∀b∈Ao z,b≠44:=by
 intro b hb e;subst e;unfold Ao at hb;grind [zYx]
theorem zYy:∀{a b s t:List UInt8},(∀x∈a,x≠44)->(∀x∈b,x≠44)->a++44::s=b++44::t->a=b/\s=t
 |[],[],s,t,_,_,h=>by simpa using h
 |[],y::b,s,t,_,hb,h=>by
  grind
 |x::a,[],s,t,ha,_,h=>by
  grind
 |x::a,y::b,s,t,ha,hb,h=>by
  simp only[List.cons_append,List.cons.injEq]at h;obtain⟨h1,h2⟩:=zYy (λz hz=>ha z (CF _ hz)) (λz hz=>hb z (CF _ hz)) h.2;exact⟨by rw[h.1,h1],h2⟩
theorem idV_inj{w:Va}{s t:List UInt8}(h:idV v++s=idV w++t):v=w/\s=t:=by
 simp only[idV,B6,List.singleton_append,List.cons_append,List.nil_append]at h;obtain⟨h1,h⟩:=zYy (zJ1 _) (zJ1 _) h;obtain⟨h2,h⟩:=zYy (zJ1 _) (zJ1 _) h;obtain⟨h3,h⟩:=zYy (zJ1 _) (zJ1 _) h;have g1:=zQz h1;have g2:=zQz h2;clear h1 h2;have h3:v.str.length=w.str.length:=by have:=zQz h3;omega
 obtain⟨h4,h5⟩:=List.append_inj h h3;obtain⟨vk,vi,vs⟩:=v;simp_all
theorem idV_ne(v:Va)(s:List UInt8):idV v++s≠[]:=by
 simp_all [Aa,idV]
theorem idR_inj:∀{r s:List Va},idR r=idR s->r=s
 |[],[],_=>rfl
 |[],w::s,h=>absurd h.symm (idV_ne w (idR s))
 |v::r,[],h=>absurd h (idV_ne v (idR r))
 |v::r,w::s,h=>by
  have h:idV v++idR r=idV w++idR s:=h;obtain⟨h1,h2⟩:=idV_inj h;rw[h1,idR_inj h2]
abbrev kyv(r:List Va):Value:= .string (bs (idR r))
theorem zWx(r s:List Va):vEq (kyv r) (kyv s)=decide (r=s):=by
 simp only[vEq,kyv,bs];rw[Bool.eq_iff_iff];grind [only,idR_inj]
theorem zX6(K:List (List Va))(r:List Va):zEs (K.map kyv) (kyv r)=K.findIdx? λs=>decide (r=s):=by
 unfold zEs;rw[List.findIdx?_map];congr 1;funext s;exact zWx r s
theorem zVw(K:List (List Va)):(K.map kyv).all (zW .string)=true:=by simp[zW]
def addK(K:List (List Va))(r:List Va):List (List Va):=if r∈K then K else K++[r]
def allK(L:List (List Va)):List (List Va):=L.foldl addK []
theorem zZg(L:List (List Va))(r:List Va):r∈allK L↔r∈L:=by
 have key:∀(L K:List (List Va)),r∈L.foldl addK K↔r∈K\/r∈L:=by
  intro L;induction L<;>grind [addK,CF]
 rw[allK,key];simp
abbrev zHq(K:List (List Va)):D:= .mfz (K.map kyv) (K.map λ_=>bD Ab)
abbrev zGv(K:List (List Va×Nat)):D:= .mfz (K.map λp=>kyv p.1) (K.map λp=>natD p.2)
def tlk(K:List (List Va×Nat))(r:List Va):Option Nat:=(K.find? λp=>decide (r=p.1)).map (·.2)
theorem look_v(K:List (List Va))(r:List Va):zSk Ac (bD Ac) (K.map kyv) (K.map λ_=>bD Ab) (kyv r)=bD (decide (r∈K)):=by
 grind [zSk,zX6,List.findIdx?_eq_none_iff,ctD,CG,A8]
theorem look_t(z:D)(K:List (List Va×Nat))(r:List Va):zSk Ac z (K.map λp=>kyv p.1) (K.map λp=>natD p.2) (kyv r)=match tlk K r with
  |some w=>natD w
  |none=>z:=by
 induction K with
 |nil=>rfl
 |cons p K ih=>
  unfold zSk zEs tlk at*;rw[BR,BR,List.findIdx?_cons,zWx,List.find?_cons];by_cases h:r=p.1
  ·rw[decide_eq_true h];rfl
  grind
theorem zGc(K:List (List Va×Nat)):(K.map λp=>kyv p.1).all (zW .string)=true:=by simp[zW]
end
variable{f w:Nat}{TT:Nat->List (Rw×Nat)}{VT:Nat->List Rw}
section
open Go.RowKit
attribute [local irreducible] seqW awp zAd zAi zY Weak updS zAr retL Pure Acts rP setP setQ cP nP fr
set_option maxRecDepth 4096
theorem zQg(x:List Va)(cols:List Nat)(h:∀v∈x,Vs v):∀v∈zM x cols,Vs v:=by
 intro v hv;obtain⟨c,_,rfl⟩:=BH.1 hv;rw[A3];cases e:x[c]? with
 |none=>exact⟨by decide,by decide,by decide⟩
 |some u=>exact h u (List.mem_of_getElem? e)
theorem zMe:LeD (.val (.slice AL 0 0)) (natD 0):=by
 have e:natD 0= .row [] 0:=by simp[natD,dg]
 rw[e];exact LeD.nil_row
def wbad(f:Nat)(VT:Nat->List Rw)(x:Rw)(c:Nat×List Nat):Bool:=decide (f<=c.1)&&decide (zM x c.2∉VT c.1)
def wone(f:Nat)(VT:Nat->List Rw)(TT:Nat->List (Rw×Nat))(x:Rw)(c:Nat×List Nat):Nat:=if c.1<f then(tlk (TT c.1) (zM x c.2)).getD 0 else if zM x c.2∈VT c.1 then 1 else 0
def wtL(f:Nat)(VT:Nat->List Rw)(TT:Nat->List (Rw×Nat))(x:Rw)(ch:List (Nat×List Nat)):Nat:=(ch.map (wone f VT TT x)).foldl (· *·) 1
theorem wtL_succ(f:Nat)(VT:Nat->List Rw)(TT:Nat->List (Rw×Nat))(x:Rw)(ch:List (Nat×List Nat))(i:Nat)(h:i<ch.length):wtL f VT TT x (ch.take (i+1))=wtL f VT TT x (ch.take i)*wone f VT TT x (ch.getD i Ae):=by
 grind [wtL,BI,AS]
theorem mul0:∀(l:List Nat),l.foldl (· *·) 0=0
 |[]=>rfl
 |a::l=>by rw[List.foldl_cons,Nat.zero_mul];exact mul0 l
theorem wtL_bad{x:Rw}{ch:List (Nat×List Nat)}{p:Nat}(h:p<ch.length)(hb:wbad f VT x (ch.getD p Ae)=Ab):wtL f VT TT x ch=0:=by
 have h0:wone f VT TT x (ch.getD p Ae)=0:=by
  unfold wbad at hb;simp only[Cj,decide_eq_true_eq]at hb;grind [wone]
 have e:ch=ch.take p++ch.getD p Ae::ch.drop (p+1):=by
  simp_all
 rw[e];unfold wtL;rw[BY,List.foldl_append,BR,List.foldl_cons,h0,Nat.mul_zero,mul0]
theorem zDf{p:Nat->Bool}(h:∃i,i<n/\p i=Ab):∃i,i<n/\p i=Ab/\∀j,j<i->p j=false:=by
 induction n with
 |zero=>obtain⟨i,h1,_⟩:=h;omega
 |succ n ih=>
  by_cases h2:∃i,i<n/\p i=Ab;all_goals grind
def Twe:Par:=⟨λ_=>Ac,λ_ _=>AL,λk=>decide (k<11),λ_=>Ac,λ_=>Ac⟩
theorem Twe_ok:zA9 AA Twe:=by intro t n f h;cases h
theorem keep11(h:st.length=11):∀k,k<st.length->Twe.keep k=true:=λk hk=>by
 show decide (k<11)=Ab;rw[decide_eq_true_eq];omega
theorem zHa:∀k,11<=k->Twe.keep k=false:=λk hk=>by
 show decide (k<11)=Ac;rw[decide_eq_false_iff_not];omega
abbrev chfB(l:List D):Bk:=⟨l,200,2,Ab,Ab, .plain⟩
abbrev chK(c:Nat×List Nat):Bk:=⟨chC c,200,0,Ac,Ac, .plain⟩
section
variable(b:Bd)(x:Rw)(ch:List (Nat×List Nat))(gv gt:Nat->D)(VT:Nat->List Rw)(TT:Nat->List (Rw×Nat))
 (hx : x.length ≤ 1000) (hxs : ∀ v ∈ x, Vs v) (hch : ch.length ≤ 1000) (hc : ∀ c ∈ ch, c.1 < b.n ∧ c.2.length ≤ 1000 ∧ ∀ j ∈ c.2, j < x.length)
 (hv : ∀ c ∈ ch, b.f ≤ c.1 → gv c.1 = zHq (VT c.1)) (ht : ∀ c ∈ ch, c.1 < b.f → gt c.1 = zGv (TT c.1))
 (hS : ∀ i, i ≤ ch.length → Sm (wtL b.f VT TT x (ch.take i))) (hS1 : ∀ c ∈ ch, ∀ p ∈ TT c.1, Sm p.2)
 (c7 c8 c9 c10 : List D) (t8 t10 : TypeId) (s10 : Nat) (ks : List Value) (h5 : blw 11 (fA b.n gv)) (h6 : blw 11 (fA b.n gt))
include hx hxs hch hc hv ht hS hS1 h5 h6
abbrev q22_(x0:List (Nat×List Nat)):=Ak (Al chC x0) (Aa x0)
theorem zWt:Acts AA 97 [.own 4 0, .row (ch.flatMap chC) ch.length,rowV x] [blI b,blX,blG b,blE b,blB b,blV (fA b.n gv),blT (fA b.n gt),blU c7,blM t8 ks c8,chfB c9,⟨c10,t10,s10,Ab,Ac, .plain⟩] [] (natD (wtL b.f VT TT x ch))
  [blI b,blX,blG b,blE b,blB b,blV (fA b.n gv),blT (fA b.n gt),blU c7,blM t8 ks c8,chfB c9,⟨c10,t10,s10,Ab,Ac, .plain⟩]:=by
 have hnm:∀e∈[blI b,blX,blG b,blE b,blB b,blV (fA b.n gv),blT (fA b.n gt),blU c7,blM t8 ks c8,chfB c9,(⟨c10,t10,s10,Ab,Ac, .plain⟩:Bk)],namB 11 e:=zHf (by omega) h5 h6 λe he=>by
  simp only[Bz,B5,or_false]at he;rcases he with rfl|rfl|rfl<;>exact .inl rfl
 have hcc:∀c:Nat×List Nat,(chC c).length=2:=λ_=>rfl;have step:∀i,i<ch.length->ch.getD i Ae∈ch:=λi h=>by rw[A3,AS h];exact A8 h
 obtain⟨m,res,bs,hres,hm,hgood,hend⟩:∃(m:Nat)(res:D)(bs:List Bk),LeD res (natD (wtL b.f VT TT x ch))/\m<=ch.length/\(∀j,j<m->wbad b.f VT x (ch.getD j Ae)=Ac)/\((m=ch.length/\res=natD (wtL b.f VT TT x ch)/\bs=[])\/(m<ch.length/\wbad b.f VT x (ch.getD m Ae)=Ab/\res= .val (.slice AL 0 0)/\bs=[chK (ch.getD m Ae)])):=by
  by_cases hbad:∃p,p<ch.length/\wbad b.f VT x (ch.getD p Ae)=Ab
  ·obtain⟨p,hp,hpb,hmin⟩:=zDf (p:=λi=>wbad b.f VT x (ch.getD i Ae)) hbad;exact⟨p,_,_,by rw[wtL_bad (TT:=TT) hp hpb];exact zMe,by omega,hmin, .inr ⟨hp,hpb,rfl,rfl⟩⟩
  exact⟨ch.length,_,_,BW _,AV _,λi hi=>by
   cases e:wbad b.f VT x (ch.getD i Ae)with
   |false=>rfl
   |true=>exact absurd ⟨i,hi,e⟩ hbad, .inl ⟨rfl,rfl,rfl⟩⟩
 refine Acts.res (x:=res) ?_ hres;refine Acts.cutN (bs:=bs) ?_ (AV _) hnm (λj hj=>by rcases hend with⟨_,rfl,_⟩|⟨_,_,rfl,_⟩<;>rfl);obtain⟨one,e1⟩:∃o:Nat,o=1:=⟨1,rfl⟩;have hof:Pure AA 36 [.val (.int .u64 1)] [] (natD one):=by subst e1;exact of_c 1 (by decide)
 have hw0:wtL b.f VT TT x (ch.take 0)=one:=e1.symm;refine zQ Twe_ok mixed Tryz.func97 rfl (keep11 rfl)<|vAu<|vA<|vc (hof)<|veT<|zA<|vAe<|zJ<|zK (λ(i:Nat)=>fr 56 [(0,Ad 4 0),(2,rowV x),(7,natD<|wtL (Bd.f b) VT TT x<|AB i ch),(12,Ak (Al chC ch)<|Aa ch),(13,iD (Aa ch:Int)),(14,iD (i:Int))]) (λ(i:Nat)=>[blI b,blX,blG b,blE b,blB b,blV<|fA b.n gv,blT<|fA b.n gt,blU c7,blM t8 ks c8,chfB c9,⟨c10,t10,s10,Ab,Ac,.plain⟩]) (λ(i:Nat)=>m-i) (λ(i:Nat)=>i<=m) 0 ?_ ?_ ?_
 ·omega
 ·rw[hw0];refine vk 11 ?_;all_goals exact zHa
 intro i h1;rcases AQ i m with h3'|h3'
 ·have h3:i<ch.length:=by omega
  have hg2:=zC0 hcc ch i h3;have hle:=zFw hcc ch i h3;have hne:=zDe hcc (by decide) ch;have hmem:=step i h3;have hgd:=hgood i h3';have hsu:=wtL_succ b.f VT TT x ch i h3;obtain⟨n1,n2,n3⟩:=hc _ hmem;have hv1:=hv _ hmem;have ht1:=ht _ hmem;have hs1:=hS1 _ hmem;have hsi:=hS i (by omega);generalize ch.getD i Ae=c at*;have hpk:=pick_c x c.2 _ _ rfl rfl (by omega) (by omega) n3;have hpl:(zM x c.2).length=c.2.length:=by simp[zM]
  have hid:=zCs (zM x c.2) c.2.length hpl (zQg x c.2 hxs);by_cases hf:c.1<b.f
  ·have hgt:((fA b.n gt).drop c.1).headD .unk=zGv (TT c.1):=by rw[zD7 n1];exact ht1 hf
   have hps:=zCd (g:=gt) n1;unfold wone at hsu;rw[if_pos hf]at hsu;have hlk:=look_t (.val (.slice AL 0 0)) (TT c.1) (zM x c.2);cases e:tlk (TT c.1) (zM x c.2)with
   |none=>
    rw[e]at hlk hsu;dsimp only[Option.getD_none]at hlk hsu;have hmu:Pure AA 86 [natD (wtL b.f VT TT x (ch.take i)), .val (.slice AL 0 0)] [] (natD (wtL b.f VT TT x (ch.take i)*0)):=(zXv _ 0 hsi Sm.zero).le (.cons (.refl _) (.cons zMe .nil));refine vAu (zA (vT ((i:Int)<↑(Aa ch)) (vKB (vA (vr 2 (ix ↑i ↑(Aa ch) (Al chC ch≠[])/\2<=Aa (Ai (i*2) (Al chC ch))) (vs 17 (Az (AB 2 (Ai (i*2) (Al chC ch)))) (Az (chC c)) (ve (ax_) (vA (vr 3 (ar_) (vc hpk (vc hid (veT (zA (vd [0,2,3,4,5,1,6,7] (ve (av_) (vT ((↑(Am c):Int)<↑(Bd.f b)) (vd [0,1,2,3,5,9,4,6,7,8,10,11,12] (vr 9 (True/\True/\0<2/\0<2/\(0:Int)<=(↑(Am c):Int)/\(↑(Am c):Int)<(↑(Bd.n b):Int)) (vo 38 6 (Am c) (vr 1 (0<Aa (Ai (Am c) (AM (blT (fA (Bd.n b) gt))))) (vsh 39 hgt (vr 1 (zW (Bj (Bl Bm "string" 1 16 Ab 8 8 (As (AJ (AZ #[]))) Ab #[])) (AJ (YtjcofbkhoeockaaGreatDoor.bs (idR (zM x (Aw c)))))=Ab/\BN (Ah (λ(p:List Va×Nat)=>kyv (Am p)) (TT (Am c))) (zW (Bj (Bl Bm "string" 1 16 Ab 8 8 (As (AJ (AZ #[]))) Ab #[])))=Ab) (vsh 41 hlk (vc hmu (vrT 1 (vnil (zD (vN (zB rfl (vr 2 (i6 (↑i+1)) (vnil ?_))))))))) ⟨(by kernel_rfl),(by exact zGc _)⟩))))))))))))))))))))));refine zC (⟨i+1,by omega,by omega,?_⟩);rw[hsu];refine wkn (fr 56 [(0,Ad 4 0),(2,rowV x),(7,Ak [] (Aa (dg (wtL (Bd.f b) VT TT x (AB i ch)*0)))),(9,Ad 11 0),(10,Ap (AJ (YtjcofbkhoeockaaGreatDoor.bs (idR (zM x (Aw c)))))),(12,(q22_ ch)),(13,iD (Aa ch)),(14,iD ↑(i+1)),(30,bD (decide ((↑(Am c):Int)<(↑(Bd.f b):Int)))),(31,natD (wtL (Bd.f b) VT TT x (AB i ch))),(32,Ad 4 0),(33,Ad 4 0),(34,Ad 4 8),(35,Af 6 0 (Bd.n b) (Bd.n b) Ab),(36,Ad 11 0),(37,iD ↑(Am c)),(38,Ad 6 (Am c)),(39,zGv (TT (Am c))),(40,Ap (AJ (YtjcofbkhoeockaaGreatDoor.bs (idR (zM x (Aw c)))))),(41,nl),(42,Ak [] (Aa (dg (wtL (Bd.f b) VT TT x (AB i ch)*0)))),(54,iD ↑(i+1))]) [blI b,blX,blG b,blE b,blB b,blV (fA (Bd.n b) gv),blT (fA (Bd.n b) gt),blU c7,blM t8 ks c8,chfB c9,Ag c10 t10 s10 Ab Ac Aq,Ag [iD ↑(Am c),Ak (nsD (Aw c)) (Aa (Aw c))] 200 0 Ac Ac Aq] ?_;refine zA4 (N:=11) (4<11/\True) rfl hnm (λk hk=>zHa k (by omega)) ?_ ⟨by omega,trivial⟩;refine vk 12 ?_;grind [zHa]
   | some w=>
    rw[e]at hlk hsu;dsimp only[CH]at hlk hsu;have hw:Sm w:=by
     unfold tlk at e;obtain⟨q,q1,q2⟩:=CZ.1 e;grind
    have hmu:=zXv (wtL b.f VT TT x (ch.take i)) w hsi hw;refine vAu (zA (vT ((i:Int)<↑(Aa ch)) (vKB (vA (vr 2 (ix ↑i ↑(Aa ch) (Al chC ch≠[])/\2<=Aa (Ai (i*2) (Al chC ch))) (vs 17 (Az (AB 2 (Ai (i*2) (Al chC ch)))) (Az (chC c)) (ve (ax_) (vA (vr 3 (ar_) (vc hpk (vc hid (veT (zA (vd [0,2,3,4,5,1,6,7] (ve (av_) (vT ((↑(Am c):Int)<↑(Bd.f b)) (vd [0,1,2,3,5,9,4,6,7,8,10,11,12] (vr 9 (True/\True/\0<2/\0<2/\(0:Int)<=(↑(Am c):Int)/\(↑(Am c):Int)<(↑(Bd.n b):Int)) (vo 38 6 (Am c) (vr 1 (0<Aa (Ai (Am c) (AM (blT (fA (Bd.n b) gt))))) (vsh 39 hgt (vr 1 (zW (Bj (Bl Bm "string" 1 16 Ab 8 8 (As (AJ (AZ #[]))) Ab #[])) (AJ (YtjcofbkhoeockaaGreatDoor.bs (idR (zM x (Aw c)))))=Ab/\BN (Ah (λ(p:List Va×Nat)=>kyv (Am p)) (TT (Am c))) (zW (Bj (Bl Bm "string" 1 16 Ab 8 8 (As (AJ (AZ #[]))) Ab #[])))=Ab) (vsh 41 hlk (vc hmu (vrT 1 (vnil (zD (vN (zB rfl (vr 2 (i6 (↑i+1)) (vnil ?_))))))))) ⟨(by kernel_rfl),(by exact zGc _)⟩))))))))))))))))))))));refine zC (⟨i+1,by omega,by omega,?_⟩);rw[hsu];refine wkn (fr 56 [(0,Ad 4 0),(2,rowV x),(7,natD (wtL (Bd.f b) VT TT x (AB i ch)*w)),(9,Ad 11 0),(10,Ap (AJ (YtjcofbkhoeockaaGreatDoor.bs (idR (zM x (Aw c)))))),(12,(q22_ ch)),(13,iD (Aa ch)),(14,iD ↑(i+1)),(30,bD (decide ((↑(Am c):Int)<(↑(Bd.f b):Int)))),(31,natD (wtL (Bd.f b) VT TT x (AB i ch))),(32,Ad 4 0),(33,Ad 4 0),(34,Ad 4 8),(35,Af 6 0 (Bd.n b) (Bd.n b) Ab),(36,Ad 11 0),(37,iD ↑(Am c)),(38,Ad 6 (Am c)),(39,zGv (TT (Am c))),(40,Ap (AJ (YtjcofbkhoeockaaGreatDoor.bs (idR (zM x (Aw c)))))),(41,natD w),(42,natD (wtL (Bd.f b) VT TT x (AB i ch)*w)),(54,iD ↑(i+1))]) [blI b,blX,blG b,blE b,blB b,blV (fA (Bd.n b) gv),blT (fA (Bd.n b) gt),blU c7,blM t8 ks c8,chfB c9,Ag c10 t10 s10 Ab Ac Aq,Ag [iD ↑(Am c),Ak (nsD (Aw c)) (Aa (Aw c))] 200 0 Ac Ac Aq] ?_;refine zA4 (N:=11) (4<11/\True) rfl hnm (λk hk=>zHa k (by omega)) ?_ ⟨by omega,trivial⟩;refine vk 12 ?_;grind [zHa]
  have hgt:((fA b.n gv).drop c.1).headD .unk=zHq (VT c.1):=by rw[zD7 n1];exact hv1 (by omega)
  have hps:=zCd (g:=gv) n1;have hin:zM x c.2∈VT c.1:=by
   simp_all [wbad,Bool.true_and]
  unfold wone at hsu;rw[if_neg hf,if_pos hin,Bn]at hsu;have hlk:=look_v (VT c.1) (zM x c.2);rw[decide_eq_true hin]at hlk;refine vAu (zA (vT ((i:Int)<↑(Aa ch)) (vKB (vA (vr 2 (ix ↑i ↑(Aa ch) (Al chC ch≠[])/\2<=Aa (Ai (i*2) (Al chC ch))) (vs 17 (Az (AB 2 (Ai (i*2) (Al chC ch)))) (Az (chC c)) (ve (ax_) (vA (vr 3 (ar_) (vc hpk (vc hid (veT (zA (vd [0,2,3,4,5,1,6,7] (ve (av_) (vF ((↑(Am c):Int)<↑(Bd.f b)) (zA (vd [0,1,2,4,8,3,5,6,7,9,10] (vr 8 (True/\True/\0<3/\0<2/\(0:Int)<=(↑(Am c):Int)/\(↑(Am c):Int)<(↑(Bd.n b):Int)) (vo 49 5 (Am c) (vr 1 (0<Aa (Ai (Am c) (AM (blV (fA (Bd.n b) gv))))) (vsh 50 hgt (vr 1 (zW (Bj (Bl Bm "string" 1 16 Ab 8 8 (As (AJ (AZ #[]))) Ab #[])) (AJ (YtjcofbkhoeockaaGreatDoor.bs (idR (zM x (Aw c)))))=Ab/\BN (Ah kyv (VT (Am c))) (zW (Bj (Bl Bm "string" 1 16 Ab 8 8 (As (AJ (AZ #[]))) Ab #[])))=Ab) (vsh 52 hlk (veT (vf (zT (zD (vN (zB rfl (vr 2 (i6 (↑i+1)) ?_)))))))) ⟨(by kernel_rfl),(by exact zVw _)⟩)))))))))))))))))))))));refine vnil (zC (⟨i+1,by omega,by omega,?_⟩));rw[hsu];refine wkn (fr 56 [(0,Ad 4 0),(2,rowV x),(7,natD (wtL (Bd.f b) VT TT x (AB i ch))),(12,(q22_ ch)),(13,iD (Aa ch)),(14,iD ↑(i+1)),(53,bD Ac),(54,iD ↑(i+1))]) [blI b,blX,blG b,blE b,blB b,blV (fA (Bd.n b) gv),blT (fA (Bd.n b) gt),blU c7,blM t8 ks c8,chfB c9,Ag c10 t10 s10 Ab Ac Aq,Ag [iD ↑(Am c),Ak (nsD (Aw c)) (Aa (Aw c))] 200 0 Ac Ac Aq] ?_;refine zA4 (N:=11) (4<11/\True) rfl hnm (λk hk=>zHa k (by omega)) ?_ ⟨by omega,trivial⟩;refine vk 12 ?_;grind [zHa]
 obtain rfl:i=m:=by omega
 rcases hend with⟨rfl,rfl,rfl⟩|⟨h3,hgd,rfl,rfl⟩
 ·rw[Bq];refine vAu<|zA<|vF ((Aa ch:Int)<↑(Aa ch))<|vZ2<|vAe<|zE<|zN (True) [natD<|wtL (Bd.f b) VT TT x ch] (.inr rfl) ?_;exact⟨by kernel_rfl,by kernel_rfl⟩
 have hg2:=zC0 hcc ch i h3;have hle:=zFw hcc ch i h3;have hne:=zDe hcc (by decide) ch;have hmem:=step i h3;obtain⟨n1,n2,n3⟩:=hc _ hmem;have hv1:=hv _ hmem;generalize ch.getD i Ae=c at*;unfold wbad at hgd;simp only[Cj,decide_eq_true_eq]at hgd;have hpk:=pick_c x c.2 _ _ rfl rfl (by omega) (by omega) n3;have hpl:(zM x c.2).length=c.2.length:=by simp[zM]
 have hid:=zCs (zM x c.2) c.2.length hpl (zQg x c.2 hxs);have hgt:((fA b.n gv).drop c.1).headD .unk=zHq (VT c.1):=by rw[zD7 n1];exact hv1 hgd.1
 have hps:=zCd (g:=gv) n1;have hlk:=look_v (VT c.1) (zM x c.2);rw[decide_eq_false hgd.2]at hlk;refine vAu (zA (vT ((i:Int)<↑(Aa ch)) (vKB (vA (vr 2 (ix ↑i ↑(Aa ch) (Al chC ch≠[])/\2<=Aa (Ai (i*2) (Al chC ch))) (vs 17 (Az (AB 2 (Ai (i*2) (Al chC ch)))) (Az (chC c)) (ve (ax_) (vA (vr 3 (ar_) (vc hpk (vc hid (veT (zA (vd [0,2,3,4,5,1,6,7] (ve (av_) (vF ((↑(Am c):Int)<↑(Bd.f b)) (zA (vd [0,1,2,4,8,3,5,6,7,9,10] (vr 8 (True/\True/\0<3/\0<2/\(0:Int)<=(↑(Am c):Int)/\(↑(Am c):Int)<(↑(Bd.n b):Int)) (vo 49 5 (Am c) (vr 1 (0<Aa (Ai (Am c) (AM (blV (fA (Bd.n b) gv))))) (vsh 50 hgt (vr 1 (zW (Bj (Bl Bm "string" 1 16 Ab 8 8 (As (AJ (AZ #[]))) Ab #[])) (AJ (bs (idR (zM x (Aw c)))))=Ab/\BN (Ah kyv (VT (Am c))) (zW (Bj (Bl Bm "string" 1 16 Ab 8 8 (As (AJ (AZ #[]))) Ab #[])))=Ab) (vsh 52 hlk (veT (vt (vAe (zE (zL (zH ?_))))))) ⟨(by kernel_rfl),(by exact zVw _)⟩)))))))))))))))))))))));refine zH (zL (zH (zN (True) [nl] (.inr rfl) ?_)));exact⟨by kernel_rfl,by kernel_rfl⟩
end
abbrev zGz(desc:Bool)(t:WT):D:= .agg [bD desc,t.x]
theorem nilx_le:LeD (.val (.pointer AL)) WT.nil.x:=λI w β v h=>by
 simp only[Rel]at h;subst h;simp only[Rel,WT.d];exact⟨rfl,trivial⟩
theorem agg2_le{a b b':D}(h:LeD b b'):LeD (.agg [a,b]) (.agg [a,b']):=λI w β v hr=>by
 simp only[Rel,RelL]at hr⊢;obtain⟨vs,rfl,v1,us,rfl,h1,h2,v2,us',rfl,h3,h4,h5⟩:=hr;exact⟨_,rfl,v1,_,rfl,h1,h2,v2,us',rfl,h3,h _ _ _ _ h4,h5⟩
theorem wnew_c(desc:Bool):Pure AA 41 [bD desc] [] (zGz desc .nil):=by
 refine Pure.res (x:= .agg [bD desc, .val (.pointer AL)]) ?_ (agg2_le nilx_le);refine zF zBe mixed Tryz.func41 rfl<|vAu<|vA<|ve (((1=1/\1<=2/\True)/\Ab=Ab)/\Ac=Ac/\Ab=Ab/\2=2/\2<=2)<|zE<|vret (2<=2)<|.inr rfl
theorem wlen_c(desc:Bool)(t:WT):Pure AA 28 [zGz desc t] [] (iD (t.sz:Nat)):=by
 refine zF zBe mixed Tryz.func28 rfl<|vAu<|vA<|vr 2 (ar_)<|vca [AE<|WT.d t] (by exact wsz_c _)<|veT<|zE<|vret (True)<|.inr rfl
theorem wtotal_c(desc:Bool)(t:WT)(h:Sm t.tot):Pure AA 87 [zGz desc t] [] (natD t.tot):=by
 refine zF zBe mixed Tryz.func87 rfl<|vAu<|vA<|vr 2 (ar_)<|vca [AE<|WT.d t] (by exact wtot_c _)<|vc (zQn _ h)<|veT<|zE<|vret (True)<|.inr rfl
theorem zYw(h:0<w):0<(dg w).length:=by
 grind [dg]
theorem wPut_c(desc:Bool)(t:WT)(v:Va)(w:Nat)(hv:vok v=Ab)(hw:0<w)(h1:t.sz+1<=1000000000)(h2:Sm (t.tot+w)):Pure AA 42 [zGz desc t,vaD v,natD w] [] (.tup [zGz desc (t.put desc v w),iD 0]):=by
 have h3:=zYw hw;have h4:=(h2.le (Nat.le_add_left w t.tot)).len;refine zF zBe mixed Tryz.func42 rfl<|vAu<|zA<|vA<|vr 1 (3<=3)<|vca [Az [iD<|AC v,iD<|AH v,Ap<|AJ<|bs<|AI v]] (by exact zWv _)<|vrT 1<|vs 10 (bD !vok v) (bD Ac)<|veT<|vf<|vK<|vA<|vrT 1<|vca [natD w] (by exact zQn _ (h2.le (by omega)))<|veT<|zA<|vAe<|vEf ((Aa (dg w):Int)) ((0:Int))<|vK<|zA<|vd [0,3,6,1,2,4,5,7,8,9,10,11]<|vr 8 (True/\True/\0<2/\2<=2/\0<1/\3<=3/\(3=3/\3<=4/\1=1/\4<=4/\True)/\Ab=Ab)<|vc (wput_c desc t v w t h1 h2)<|ve (((1=1/\1<=2/\1=1/\2<=2/\True)/\Ab=Ab)/\Ac=Ac/\Ab=Ab/\2=2/\2<=2)<|zE<|vret (2<=2)<|.inr rfl
abbrev vB1(v:Va):Bk:=⟨vaC v,64,0,Ac,Ac, .plain⟩
abbrev nB1(d:D):Bk:=⟨[d],44,0,Ac,Ac, .plain⟩
abbrev tB1(desc:Bool)(t:WT)(fz:Bool):Bk:=⟨[bD desc,t.x],57,0,Ac,fz, .plain⟩
def WT.look(desc:Bool)(u:Va):WT->Option Nat
 | .nil=>AL
 | .node v w l r=>if WT.cmp desc u v<0 then l.look desc u else if WT.cmp desc u v>0 then r.look desc u else As w
def WT.seen(desc:Bool)(u:Va):WT->Nat
 | .nil=>0
 | .node v w l r=>if WT.cmp desc u v<0 then l.seen desc u+1 else if WT.cmp desc u v>0 then r.seen desc u+1 else 1
theorem WT.seen_le(desc:Bool)(u:Va):∀(t:WT),t.seen desc u<=t.ht
 | .nil=>AV _
 | .node v w l r=>by
  have h1:=WT.seen_le desc u l;have h2:=WT.seen_le desc u r;simp only[WT.seen,WT.ht];grind
abbrev bB1(b:Bool):Bk:=⟨[bD b],4,0,Ac,Ac, .plain⟩
abbrev optD(o:Option Nat):D:=match o with
 |some w=>natD w
 |none=>nl
theorem WT.cmp_vals(desc:Bool)(a b:Va):WT.cmp desc a b=-1\/WT.cmp desc a b=0\/WT.cmp desc a b=1:=by
 unfold WT.cmp;split<;>exact(zAy _ _).1
def Tg:Par:=⟨λf=>f==60||f==61,λ_ _=>AL,λk=>decide (k<5),λ_=>Ac,λ_=>Ac⟩
theorem Tg_ok:zA9 AA Tg:=by intro t n f h;cases h
theorem keep5(h:st.length<=5):∀k,k<st.length->Tg.keep k=true:=λk hk=>by
 show decide (k<5)=Ab;rw[decide_eq_true_eq];omega
theorem keep5F:∀k,5<=k->Tg.keep k=false:=λk hk=>by
 show decide (k<5)=Ac;rw[decide_eq_false_iff_not];omega
theorem wget1_c(desc:Bool)(t:WT)(u v:Va)(w:Nat)(l r:WT)(hw:Sm w)(b4:Bk):
  Acts AA 61 [zNm v w l r, .own 0 0, .own 1 0, .own 2 0, .own 3 0] [tB1 desc t Ac,vB1 u,nB1 nl,bB1 Ac,b4] []
   (iD (WT.cmp desc u v)) [tB1 desc t Ac,vB1 u,if WT.cmp desc u v=0 then nB1 (natD w)else nB1 nl,bB1 (decide (WT.cmp desc u v=0)),b4]:=by
 refine zQ Tg_ok mixed Tryz.func61 rfl (keep5 (by simp)) ?_;focus
  refine vAu<|zA<|vd [2,3,4,5,0,1,6,7,8]<|vr 7 (True/\True/\2<=2/\3<=3/\3<=9)<|vc (zNq desc t u v)<|veT<|zA<|vAe<|zA5 (t:=WT.cmp desc u v !=(0:Int)) (by kernel_rfl) (λhc=>?_)<|λhc=>?_;simp only[bne_iff_ne]at hc;refine vAe<|zE<|zH<|zN (True) [Ap<|Ax Bp<|WT.cmp desc u v] (.inr rfl) ?_;rotate_left;simp only[bne_eq_false_iff_eq]at hc;refine vK<|vA<|vr 5 (True/\True/\0<6)<|vc (zQn _ hw)<|ve ((Ac=Ac/\Ab=Ab/\1=1/\1<=1)/\Ac=Ac/\Ab=Ab/\1=1/\1<=1)<|vAe<|zE<|zN (True) [q2_] (.inr rfl) ?_;rotate_left
 ·have h0:¬WT.cmp desc u v=0:=by assumption
  rw[if_neg h0,decide_eq_false h0];exact⟨by kernel_rfl,by kernel_rfl⟩
 have h0:WT.cmp desc u v=0:=by assumption
 rw[if_pos h0,decide_eq_true h0,h0];exact⟨by kernel_rfl,by kernel_rfl⟩
abbrev q23_(x0:Bool)(x1:WT):=Ag [bD x0,AE (WT.d x1)] 57 0 Ac Ac Aq
set_option maxHeartbeats 1000000 in
theorem zZn(desc:Bool)(t:WT)(u:Va)(h:t.Ok):
  Acts AA 60 [zGz desc t, .clo (.func 61) [] [.own 0 0, .own 1 0, .own 2 0, .own 3 0]] [tB1 desc t Ac,vB1 u,nB1 nl,bB1 Ac] []
   (iD (t.seen desc u)) [tB1 desc t Ac,vB1 u,nB1 (optD (t.look desc u)),bB1 (t.look desc u).isSome,tB1 desc t Ac]:=by
 have hg:=WT.seen_le desc u t;have hz:=WT.ht_le_sz t;have hs:=h.1;refine zQ Tg_ok mixed Tryz.func60 rfl (keep5 (by simp))<|vAu<|vAe<|zA<|vA<|ve (ar_)<|zJ<|zB4 (λ(cur:WT)(n:Nat)=>fr 33 [(1,AO (Fn.func (61:FuncId)) [] [Ad 0 0,Ad 1 0,Ad 2 0,Ad 3 0]),(5,iD (n:Int)),(6,WT.d cur)]) (λcur (n:Nat)=>[tB1 desc t Ac,vB1 u,nB1 nl,bB1 Ac,tB1 desc t Ac]) (λcur n=>cur.sz) (λ(cur:WT)(n:Nat)=>n+cur.seen desc u=t.seen desc u/\cur.look desc u=t.look desc u/\cur.Ok) t 0 ?_ ?_ ?_
 ·grind
 ·refine wkn (fr 33 [(1,AO (Fn.func (61:FuncId)) [] [Ad 0 0,Ad 1 0,Ad 2 0,Ad 3 0]),(4,iD 0),(5,iD 0),(6,AE (WT.d t))]) [tB1 desc t Ac,vB1 u,nB1 nl,bB1 Ac,Ag [bD desc,AE (WT.d t)] 57 0 Ac Ac Aq] (zE3 [(1,1),(5,1),(6,4)] (AO (Fn.func (61:FuncId)) [] [Ad 0 0,Ad 1 0,Ad 2 0,Ad 3 0]=AO (Fn.func (61:FuncId)) [] [Ad 0 0,Ad 1 0,Ad 2 0,Ad 3 0]/\iD 0=iD (↑(0:Nat):Int)/\WT.d t=WT.d t) 5 [] (by kernel_rfl) ⟨rfl,(by kernel_rfl),rfl⟩ (by kernel_rfl) ?_ (by kernel_rfl));exact keep5F
 rintro cur n ⟨k1,k2,k4⟩;cases cur with
 |nil=>
  simp only[WT.seen,WT.look]at k1 k2;rw[<-k2,<-k1];refine zA<|vAu<|vf<|vZ2<|vAe<|zE<|zN (True) [Ap<|Ax Bp (n:Int)] (.inr rfl) ?_;exact⟨by kernel_rfl,by kernel_rfl⟩
 | node v w l r=>
  obtain⟨o1,o2,o3⟩:=k4.node;have st:=wget1_c desc t u v w l r o3 (tB1 desc t Ac);have hc:=WT.cmp_vals desc u v;simp only[WT.seen,WT.look]at k1 k2;rw[WT.d_node];by_cases c1:WT.cmp desc u v<0
  ·rw[if_neg (by omega),decide_eq_false (by omega)]at st;rw[if_pos c1]at k1 k2;refine zA<|vAu<|vt<|vK<|zJ<|vA<|ve (i6 (↑n+1))<|vA<|vrT 2<|vnt [tB1 desc t Ac,vB1 u,nB1 nl,bB1 Ac,tB1 desc t Ac]<|zZ [] [] [AG [iD<|AC v,iD<|AH v,Ap<|AJ<|bs<|AI v,natD w,AE<|WT.d l,AE<|WT.d r,iD (↑(max (WT.ht l) (WT.ht r)+1):Int),iD ↑(WT.sz l+1+WT.sz r),natD (WT.tot l+w+WT.tot r)],Ad 0 0,Ad 1 0,Ad 2 0,Ad 3 0] [AG [iD<|AC v,iD<|AH v,Ap<|AJ<|bs<|AI v,natD w,AE<|WT.d l,AE<|WT.d r,iD (↑(max (WT.ht l) (WT.ht r)+1):Int),iD ↑(WT.sz l+1+WT.sz r),natD (WT.tot l+w+WT.tot r)],Ad 0 0,Ad 1 0,Ad 2 0,Ad 3 0] (AX _) (by exact st) ?_;refine v0s<|veT<|zJ<|vAe<|vT (WT.cmp desc u v<0)<|zB rfl<|vr 5 (aA_)<|vnil<|zD<|zD<|zC<|⟨l,n+1,⟨by omega,k2,o1⟩,by simp only[WT.sz];omega,?_⟩;refine wkn (fr 33 [(1,AO (Fn.func (61:FuncId)) [] [Ad 0 0,Ad 1 0,Ad 2 0,Ad 3 0]),(5,iD (↑n+1)),(6,AE (WT.d l)),(7,iD (WT.cmp desc u v)),(18,bD (decide (WT.cmp desc u v<0))),(21,AG [iD (AC v),iD (AH v),Ap (AJ (bs (AI v))),natD w,AE (WT.d l),AE (WT.d r),iD (↑(max (WT.ht l) (WT.ht r)+1):Int),iD ↑(WT.sz l+1+WT.sz r),natD (WT.tot l+w+WT.tot r)]),(22,AG [iD (AC v),iD (AH v),Ap (AJ (bs (AI v))),natD w,AE (WT.d l),AE (WT.d r),iD (↑(max (WT.ht l) (WT.ht r)+1):Int),iD ↑(WT.sz l+1+WT.sz r),natD (WT.tot l+w+WT.tot r)]),(23,AG [AE (WT.d l),AE (WT.d r),iD (↑(max (WT.ht l) (WT.ht r)+1):Int),iD ↑(WT.sz l+1+WT.sz r),natD (WT.tot l+w+WT.tot r)]),(24,AE (WT.d l))]) [(q23_ desc t),Ag [iD (AC u),iD (AH u),Ap (AJ (bs (AI u)))] 64 0 Ac Ac Aq,Ag [nl] 44 0 Ac Ac Aq,Ag [bD Ac] 4 0 Ac Ac Aq,(q23_ desc t)] (zE3 [(1,1),(5,1),(6,4)] (AO (Fn.func (61:FuncId)) [] [Ad 0 0,Ad 1 0,Ad 2 0,Ad 3 0]=AO (Fn.func (61:FuncId)) [] [Ad 0 0,Ad 1 0,Ad 2 0,Ad 3 0]/\iD (↑n+1)=iD ↑(n+1)/\WT.d l=WT.d l) 5 [] (by kernel_rfl) ⟨rfl,(by kernel_rfl),rfl⟩ (by kernel_rfl) ?_ (by kernel_rfl));all_goals exact keep5F
  by_cases c2:WT.cmp desc u v>0
  ·rw[if_neg (by omega),decide_eq_false (by omega)]at st;rw[if_neg c1,if_pos c2]at k1 k2;refine zA<|vAu<|vt<|vK<|zJ<|vA<|ve (i6 (↑n+1))<|vA<|vrT 2<|vnt [tB1 desc t Ac,vB1 u,nB1 nl,bB1 Ac,tB1 desc t Ac]<|zZ [] [] [AG [iD<|AC v,iD<|AH v,Ap<|AJ<|bs<|AI v,natD w,AE<|WT.d l,AE<|WT.d r,iD (↑(max (WT.ht l) (WT.ht r)+1):Int),iD ↑(WT.sz l+1+WT.sz r),natD (WT.tot l+w+WT.tot r)],Ad 0 0,Ad 1 0,Ad 2 0,Ad 3 0] [AG [iD<|AC v,iD<|AH v,Ap<|AJ<|bs<|AI v,natD w,AE<|WT.d l,AE<|WT.d r,iD (↑(max (WT.ht l) (WT.ht r)+1):Int),iD ↑(WT.sz l+1+WT.sz r),natD (WT.tot l+w+WT.tot r)],Ad 0 0,Ad 1 0,Ad 2 0,Ad 3 0] (AX _) (by exact st) ?_;refine v0s<|veT<|zJ<|vAe<|vF (WT.cmp desc u v<0)<|vAe<|vT (WT.cmp desc u v>(0:Int))<|zB rfl<|vr 5 (True/\0<4)<|vnil<|zD<|zD<|zC<|⟨r,n+1,⟨by omega,k2,o2⟩,by simp only[WT.sz];omega,?_⟩;refine wkn (fr 33 [(1,AO (Fn.func (61:FuncId)) [] [Ad 0 0,Ad 1 0,Ad 2 0,Ad 3 0]),(5,iD (↑n+1)),(6,AE (WT.d r)),(25,bD (decide (WT.cmp desc u v>(0:Int)))),(28,AG [iD (AC v),iD (AH v),Ap (AJ (bs (AI v))),natD w,AE (WT.d l),AE (WT.d r),iD (↑(max (WT.ht l) (WT.ht r)+1):Int),iD ↑(WT.sz l+1+WT.sz r),natD (WT.tot l+w+WT.tot r)]),(29,AG [iD (AC v),iD (AH v),Ap (AJ (bs (AI v))),natD w,AE (WT.d l),AE (WT.d r),iD (↑(max (WT.ht l) (WT.ht r)+1):Int),iD ↑(WT.sz l+1+WT.sz r),natD (WT.tot l+w+WT.tot r)]),(30,AG [AE (WT.d r),iD (↑(max (WT.ht l) (WT.ht r)+1):Int),iD ↑(WT.sz l+1+WT.sz r),natD (WT.tot l+w+WT.tot r)]),(31,AE (WT.d r))]) [(q23_ desc t),Ag [iD (AC u),iD (AH u),Ap (AJ (bs (AI u)))] 64 0 Ac Ac Aq,Ag [nl] 44 0 Ac Ac Aq,Ag [bD Ac] 4 0 Ac Ac Aq,(q23_ desc t)] (zE3 [(1,1),(5,1),(6,4)] (AO (Fn.func (61:FuncId)) [] [Ad 0 0,Ad 1 0,Ad 2 0,Ad 3 0]=AO (Fn.func (61:FuncId)) [] [Ad 0 0,Ad 1 0,Ad 2 0,Ad 3 0]/\iD (↑n+1)=iD ↑(n+1)/\WT.d r=WT.d r) 5 [] (by kernel_rfl) ⟨rfl,(by kernel_rfl),rfl⟩ (by kernel_rfl) ?_ (by kernel_rfl));all_goals exact keep5F
  rw[if_pos (by omega),decide_eq_true (by omega)]at st;rw[if_neg c1,if_neg c2]at k1 k2;refine zA<|vAu<|vt<|vK<|zJ<|vA<|ve (i6 (↑n+1))<|vA<|vrT 2<|vnt [tB1 desc t Ac,vB1 u,nB1 nl,bB1 Ac,tB1 desc t Ac]<|zZ [] [] [AG [iD<|AC v,iD<|AH v,Ap<|AJ<|bs<|AI v,natD w,AE<|WT.d l,AE<|WT.d r,iD (↑(max (WT.ht l) (WT.ht r)+1):Int),iD ↑(WT.sz l+1+WT.sz r),natD (WT.tot l+w+WT.tot r)],Ad 0 0,Ad 1 0,Ad 2 0,Ad 3 0] [AG [iD<|AC v,iD<|AH v,Ap<|AJ<|bs<|AI v,natD w,AE<|WT.d l,AE<|WT.d r,iD (↑(max (WT.ht l) (WT.ht r)+1):Int),iD ↑(WT.sz l+1+WT.sz r),natD (WT.tot l+w+WT.tot r)],Ad 0 0,Ad 1 0,Ad 2 0,Ad 3 0] (AX _) (by exact st) ?_;refine v0s<|veT<|zJ<|vAe<|vF (WT.cmp desc u v<0)<|vAe<|vF (WT.cmp desc u v>(0:Int))<|vAe<|zE<|zL<|zL<|zH<|zL<|zH<|zN (True) [Ap<|Ax Bp ((n:Int)+(1:Int))] (.inr rfl) ?_;rw[<-k2,<-k1];exact⟨by kernel_rfl,by kernel_rfl⟩
theorem wget_c(desc:Bool)(t:WT)(u:Va)(h:t.Ok):Pure AA 23 [zGz desc t,vaD u] [] (.tup [natD ((t.look desc u).getD 0),bD (t.look desc u).isSome]):=by
 have hw:=zZn desc t u h;rcases hl:t.look desc u with _|w
 ·rw[hl]at hw;refine zF Tg_ok mixed Tryz.func23 rfl<|vAu<|vAe<|vA<|ve (ay_)<|vA<|vr 2 (2<=2)<|vnt [Ag [bD desc,AE<|WT.d t] 57 0 Ac Ac Aq,Ag [iD<|AC u,iD<|AH u,Ap<|AJ<|bs<|AI u] 64 0 Ac Ac Aq,Ag [nl] 44 0 Ac Ac Aq,Ag [bD Ac] 4 0 Ac Ac Aq]<|zZ [] [] [Az [bD desc,AE<|WT.d t],AO (Fn.func 61) [] [Ad 0 0,Ad 1 0,Ad 2 0,Ad 3 0]] [Az [bD desc,AE<|WT.d t],AO (Fn.func 61) [] [Ad 0 0,Ad 1 0,Ad 2 0,Ad 3 0]] (AX _) (by exact hw) ?_;refine v0s<|veT<|zA<|vd [0,2,1,3]<|ve (0<1/\0<1)<|zE<|vret (True)<|.inr rfl
 rw[hl]at hw;refine zF Tg_ok mixed Tryz.func23 rfl<|vAu<|vAe<|vA<|ve (ay_)<|vA<|vr 2 (2<=2)<|vnt [Ag [bD desc,AE<|WT.d t] 57 0 Ac Ac Aq,Ag [iD<|AC u,iD<|AH u,Ap<|AJ<|bs<|AI u] 64 0 Ac Ac Aq,Ag [nl] 44 0 Ac Ac Aq,Ag [bD Ac] 4 0 Ac Ac Aq]<|zZ [] [] [Az [bD desc,AE<|WT.d t],AO (Fn.func 61) [] [Ad 0 0,Ad 1 0,Ad 2 0,Ad 3 0]] [Az [bD desc,AE<|WT.d t],AO (Fn.func 61) [] [Ad 0 0,Ad 1 0,Ad 2 0,Ad 3 0]] (AX _) (by exact hw) ?_;refine v0s<|veT<|zA<|vd [0,2,1,3]<|ve (0<1/\0<1)<|zE<|vret (True)<|.inr rfl;all_goals rfl
theorem zE0{g:Nat->D}:blw m (fA n g)↔∀c,c<n->∀j,m<=j->refs j (g c)=false:=by
 have key:∀(l:List Nat)(j:Nat),zX j (l.map g)=Ac↔∀c∈l,refs j (g c)=false:=λl j=>by
  induction l<;>simp_all [zX,only,BR,BO,List.forall_mem_cons]
 constructor
 ·intro h c hc j hj;exact(key _ j).1 (h j hj) c (Bx.2 hc)
 intro h j hj;exact(key _ j).2 λc hc=>h c (Bx.1 hc) j hj
def redK(w:Rw->Nat)(cols:List Nat)(rows:List Rw):List Rw:=allK ((rows.filter λx=>decide (0<w x)).map λx=>zM x cols)
theorem redK_succ(w:Rw->Nat)(cols:List Nat)(rows:List Rw)(i:Nat)(h:i<rows.length):redK w cols (rows.take (i+1))=if 0<w (rows.getD i [])then addK (redK w cols (rows.take i)) (zM (rows.getD i []) cols)else redK w cols (rows.take i):=by
 unfold redK;rw[BI h,List.filter_append,BY,A3,AS h,CH];grind [only,allK]
abbrev mapB(K:List (List Va)):Bk:=⟨K.map λ_=>bD Ab,170,0,Ab,Ac, .map (K.map kyv)⟩
theorem mput_b(K:List (List Va))(r:List Va):mput (mapB K) (K.map kyv) (kyv r) (bD Ab)=mapB (addK K r):=by
 unfold mput addK;rw[zX6];cases e:K.findIdx? λs=>decide (r=s)with
 |none=>
  grind
 | some i=>
  rw[CG]at e;obtain⟨h,h1,_⟩:=e;have:r∈K:=by
   grind
  rw[if_pos this];simp only[mapB];congr 1;apply CA (by simp);grind
def Tre:Par:=⟨λf=>f==94||f==97,λ_ _=>AL,λk=>decide (k<8),λ_=>Ac,λ_=>Ac⟩
theorem Tre_ok:zA9 AA Tre:=by intro t n f h;cases h
theorem keep8(h:st.length=8):∀k,k<st.length->Tre.keep k=true:=λk hk=>by
 show decide (k<8)=Ab;rw[decide_eq_true_eq];omega
theorem zDm:∀k,8<=k->Tre.keep k=false:=λk hk=>by
 show decide (k<8)=Ac;rw[decide_eq_false_iff_not];omega
abbrev keyC(b:Bd)(v:Nat):List Nat:=zBc (λu=>(b.L.getD v Ae).k.testBit u) (b.R.getD v Ae).1
abbrev chV(b:Bd)(v:Nat):List (Nat×List Nat):=chI b.L (b.R.getD v Ae).1 v b.L.length
structure Bok(b:Bd)(v:Nat)(gv gt:Nat->D)(VT:Nat->List Rw)(TT:Nat->List (Rw×Nat)):Prop where
 n:b.n<=1000
 vn:v<b.n
 L:b.L.length=b.n
 R:b.R.length=b.n
 k:∀c∈b.L,c.k<4294967296
 V:(b.R.getD v Ae).1.length<=1000
 V2:∀u∈(b.R.getD v Ae).1,u<32
 r:∀x∈(b.R.getD v Ae).2,x.length=(b.R.getD v Ae).1.length/\∀u∈x,Vs u
 rl:(b.R.getD v Ae).2.length<=65536
 hv:∀c∈chV b v,b.f<=c.1->gv c.1=zHq (VT c.1)
 ht:∀c∈chV b v,c.1<b.f->gt c.1=zGv (TT c.1)
 ne:∀c∈chV b v,c.1≠v
 S:∀x∈(b.R.getD v Ae).2,∀i,i<=(chV b v).length->Sm (wtL b.f VT TT x ((chV b v).take i))
 S1:∀c∈chV b v,∀p∈TT c.1,Sm p.2
 gw:∀c,c<b.n->∀j,8<=j->refs j (gv c)=Ac
 tw:∀c,c<b.n->∀j,8<=j->refs j (gt c)=Ac
theorem zHc{L:List Bg}{V:List Nat}{v i:Nat}{c:Nat×List Nat}(h:c∈chI L V v i):c.1<i/\(L.getD c.1 Ae).p=(v:Int)/\c.2=zBc (λu=>(L.getD c.1 Ae).k.testBit u) V:=by
 obtain⟨u,hu,rfl⟩:=BH.1 h;grind
theorem zM8(b:Bd)(v:Nat)(hv:v<b.R.length)(hl:b.L.length<=1000)(hV:(b.R.getD v Ae).1.length<=1000)(hV2:∀u∈(b.R.getD v Ae).1,u<32)(hk:∀c∈b.L,c.k<4294967296)(c5 c6 c7 c8:List D)(t8:TypeId)(ks:List Value)(h5:blw 9 c5)(h6:blw 9 c6):
  Acts AA 94 [.own 4 0,iD (v:Nat)] [blI b,blX,blG b,blE b,blB b,blV c5,blT c6,blU c7,blM t8 ks c8] [] (.osl 9 0 (chV b v).length ((chV b v).length*2) Ab)
   [blI b,blX,blG b,blE b,blB b,blV c5,blT c6,blU c7,blM t8 ks c8,chB (chV b v)]:=by simp_all [children_c]
abbrev q24_(x0:Bd)(x1:Nat):=Ak (nsD (Am (Au (Bd.R x0) x1 Ae))) (Aa (Am (Au (Bd.R x0) x1 Ae)))
abbrev q25_(x0:Bd)(x1:Nat):=AG (iD (↑(Bg.v (Au (Bd.L x0) x1 Ae)):Int)::u32D (A2 (Au (Bd.L x0) x1 Ae))::iD (A4 (Au (Bd.L x0) x1 Ae))::Al bgC (Ai (x1+1) (Bd.L x0)))
abbrev q26_(x0:Bd):=Ag [iD ↑(Bd.n x0),iD ↑(Bd.f x0),(q19_ x0),(q20_ x0),(q21_ x0)] 31 0 Ac Ac Aq
abbrev q27_:=Ag [nl,nl,nl,nl,nl] 46 0 Ac Ac Aq
abbrev q28_(x0:Bd):=Ag [iD ↑(Bd.n x0),Af 3 0 (Aa (Bd.A x0)) (Aa (Bd.A x0)) Ab] 77 0 Ac Ac Aq
abbrev q29_(x0:Bd):=Ag (Ah u32D (Bd.E x0)) 36 1 Ab Ab Aq
abbrev q30_(x0:Bd):=Ag [iD ↑(Bd.n x0),iD ↑(Bd.f x0),(q19_ x0),(q20_ x0),(q21_ x0),(q17_ x0),(q16_ x0),Af 5 0 (Bd.n x0) (Bd.n x0) Ab,Af 6 0 (Bd.n x0) (Bd.n x0) Ab,Af 7 0 (Bd.f x0) (Bd.f x0) Ab] 120 0 Ac Ac Aq
theorem reduce_c(b:Bd)(v:Nat)(gv gt:Nat->D)(VT:Nat->List Rw)(TT:Nat->List (Rw×Nat))(h:Bok b v gv gt VT TT)(c7:List D):
  Acts AA 51 [.own 4 0,iD (v:Nat)] [blI b,blX,blG b,blE b,blB b,blV (fA b.n gv),blT (fA b.n gt),blU c7] [] (.tup [])
   [blI b,blX,blG b,blE b,blB b,blV (fA b.n λc=>if c=v then zHq (redK (λx=>wtL b.f VT TT x (chV b v)) (keyC b v) (b.R.getD v Ae).2)else gv c),blT (fA b.n gt),blU c7]:=by
 have hgv1:∀m,9<=m->blw m (fA b.n λc=>if c=v then .mref 8 else gv c):=λm hm=>zE0.2 λc hc j hj=>by
  split
  ·simp[refs];omega
  exact h.gw c hc j (by omega)
 have hgt1:∀m,9<=m->blw m (fA b.n gt):=λm hm=>zE0.2 λc hc j hj=>h.tw c hc j (by omega);have hch:=zM8 b v (by rw[h.R];exact h.vn) (by rw[h.L];exact h.n) h.V h.V2 h.k (fA b.n λc=>if c=v then .mref 8 else gv c) (fA b.n gt) c7 [] 170 [] (hgv1 9 (AV _)) (hgt1 9 (AV _));have hset:(fA b.n gv).set v (.mref 8)=fA b.n λc=>if c=v then .mref 8 else gv c:=zEx
 have hac:∀a:List Nat×List Rw,(atR a).length=3:=λ_=>rfl;have hbc:∀a:Bg,(bgC a).length=3:=λ_=>rfl;have hvL:v<b.L.length:=by rw[h.L];exact h.vn
 have hvR:v<b.R.length:=by rw[h.R];exact h.vn
 have hav:(b.R.flatMap atR).drop (v*3)= .row (nsD (b.R.getD v Ae).1) (b.R.getD v Ae).1.length::iD ((b.R.getD v Ae).1.length:Nat):: .row ((b.R.getD v Ae).2.map rowV) (b.R.getD v Ae).2.length::(b.R.drop (v+1)).flatMap atR:=zK0 hac b.R v hvR;have hne:=zDe hac (by decide) b.R;have hbat:=zK0 hbc b.L v hvL;have hbne:=zDe hbc (by decide) b.L;have hic:Pure AA 95 [.row (nsD (b.R.getD v Ae).1) (b.R.getD v Ae).1.length,u32D (b.L.getD v Ae).k] [] (.row (nsD (keyC b v)) (keyC b v).length):=icols_c (b.R.getD v Ae).1 _ rfl h.V h.V2 (b.L.getD v Ae).k (h.k _ (by rw[A3,AS hvL];exact A8 hvL));have hvn:=h.vn;have hfl:(fA b.n gv).length=b.n:=zEy;refine Acts.post (T:=Tre) (x:= .tup []) (s:=[blI b,blX,blG b,blE b,blB b,blV (fA b.n λc=>if c=v then .mref 8 else gv c),blT (fA b.n gt),blU c7,mapB (redK (λx=>wtL b.f VT TT x (chV b v)) (keyC b v) (b.R.getD v Ae).2),chfB ((chV b v).flatMap chC),⟨[],0,0,Ab,Ac, .plain⟩]) ?_ ?_ (keep8 rfl)
 ·refine zQ Tre_ok mixed Tryz.func51 rfl (keep8 rfl) ?_;focus
   refine vAs<|vr 7 (True/\0<3/\True/\(0:Int)<=(v:Int)/\(v:Int)<↑(Bd.n b))<|vo 14 5 v<|vr 1 (BB (blV<|fA (Bd.n b) gv)=Ac/\zD6 (AR 8)=Ab/\1=1/\v+1<=Aa (AM<|blV<|fA (Bd.n b) gv))<|vb 5 (Ag (setAt (AM<|blV<|fA (Bd.n b) gv) v<|cellsOf<|AR 8) (A_<|blV<|fA (Bd.n b) gv) (Ba<|blV<|fA (Bd.n b) gv) Ab Ac<|A1<|blV<|fA (Bd.n b) gv) (Ag (fA (Bd.n b) λ(c:Nat)=>if c=v then AR 8 else gv c) (170:TypeId) 1 Ab Ac AW)<|veT<|zA<|zA6 [0,1,3,4,5,7,11,12,13,15,6,8,9,10,14,16,17,18] [(2,[(6,100000),(8,100000),(9,100000),(10,100000),(14,100000),(16,100000),(17,100000),(18,100000)],[19,20,21])] rfl ?_;refine vr 12 (True/\True/\0<4/\ix ↑v (Aa (Bd.R b):Int) (Al atR (Bd.R b)≠[]))<|vs 23 (AG<|Ai (Ay (v:Int)*3)<|Al atR<|Bd.R b) (AG (Ak (nsD<|Am<|Au (Bd.R b) v Ae) (Aa<|Am<|Au (Bd.R b) v Ae)::iD (↑(Aa<|Am<|Au (Bd.R b) v Ae):Int)::Ak (Ah rowV<|Aw<|Au (Bd.R b) v Ae) (Aa<|Aw<|Au (Bd.R b) v Ae)::Al atR (Ai (v+1)<|Bd.R b)))<|vr 4 (True/\0<Aa ((q24_ b v)::iD (↑(Aa<|Am<|Au (Bd.R b) v Ae):Int)::Ak (Ah rowV<|Aw<|Au (Bd.R b) v Ae) (Aa<|Aw<|Au (Bd.R b) v Ae)::Al atR (Ai (v+1)<|Bd.R b))/\0<5/\ix ↑v (Aa (Bd.L b):Int) (Al bgC (Bd.L b)≠[]))<|vs 31 (AG<|Ai (Ay (v:Int)*3)<|Al bgC<|Bd.L b) (AG (iD (↑(Bg.v<|Au (Bd.L b) v Ae):Int)::u32D (A2<|Au (Bd.L b) v Ae)::iD (A4<|Au (Bd.L b) v Ae)::Al bgC (Ai (v+1)<|Bd.L b)))<|vr 2 (True/\0<Aa (u32D (A2<|Au (Bd.L b) v Ae)::iD (A4<|Au (Bd.L b) v Ae)::Al bgC (Ai (v+1)<|Bd.L b)))<|vnil<|zBy rfl rfl<|vnt [blI b,blX,blG b,blE b,blB b,Ag (fA (Bd.n b) λ(c:Nat)=>if c=v then AR 8 else gv c) (170:TypeId) 1 Ab Ac AW,blT<|fA (Bd.n b) gt,blU c7,Ag [] 170 0 Ab Ac<|BK []]<|zZ [] [] [Ad 4 0,iD v] [Ad 4 0,iD v] (AX _) (by exact hch) ?_;refine vnil ?_;refine zEg (C:=0<4/\As ((q16_ b))=As (A9 [(q16_ b),Af 5 0 (Bd.n b) (Bd.n b) Ab,Af 6 0 (Bd.n b) (Bd.n b) Ab,Af 7 0 (Bd.f b) (Bd.f b) Ab] Uk)/\ix ↑v (Aa (Bd.R b):Int) (Al atR (Bd.R b)≠[])/\As (AG ((q24_ b v)::iD (↑(Aa (Am (Au (Bd.R b) v Ae))):Int)::Ak (Ah rowV (Aw (Au (Bd.R b) v Ae))) (Aa (Aw (Au (Bd.R b) v Ae)))::Al atR (Ai (v+1) (Bd.R b))))=As (AG (Ai (Ay (v:Int)*3) (Al atR (Bd.R b))))/\True/\As (AG ((q24_ b v)::iD (↑(Aa (Am (Au (Bd.R b) v Ae))):Int)::Ak (Ah rowV (Aw (Au (Bd.R b) v Ae))) (Aa (Aw (Au (Bd.R b) v Ae)))::Al atR (Ai (v+1) (Bd.R b))))=As (AG (Ai 0 ((q24_ b v)::iD (↑(Aa (Am (Au (Bd.R b) v Ae))):Int)::Ak (Ah rowV (Aw (Au (Bd.R b) v Ae))) (Aa (Aw (Au (Bd.R b) v Ae)))::Al atR (Ai (v+1) (Bd.R b)))))/\0<Aa ((q24_ b v)::iD (↑(Aa (Am (Au (Bd.R b) v Ae))):Int)::Ak (Ah rowV (Aw (Au (Bd.R b) v Ae))) (Aa (Aw (Au (Bd.R b) v Ae)))::Al atR (Ai (v+1) (Bd.R b)))/\As ((q24_ b v))=As (A9 ((q24_ b v)::iD (↑(Aa (Am (Au (Bd.R b) v Ae))):Int)::Ak (Ah rowV (Aw (Au (Bd.R b) v Ae))) (Aa (Aw (Au (Bd.R b) v Ae)))::Al atR (Ai (v+1) (Bd.R b))) Uk)/\0<5/\As ((q17_ b))=As (A9 [(q17_ b),(q16_ b),Af 5 0 (Bd.n b) (Bd.n b) Ab,Af 6 0 (Bd.n b) (Bd.n b) Ab,Af 7 0 (Bd.f b) (Bd.f b) Ab] Uk)/\ix ↑v (Aa (Bd.L b):Int) (Al bgC (Bd.L b)≠[])/\As ((q25_ b v))=As (AG (Ai (Ay (v:Int)*3) (Al bgC (Bd.L b))))/\True/\As (AG (u32D (A2 (Au (Bd.L b) v Ae))::iD (A4 (Au (Bd.L b) v Ae))::Al bgC (Ai (v+1) (Bd.L b))))=As (AG (Ai 1 (iD (↑(Bg.v (Au (Bd.L b) v Ae)):Int)::u32D (A2 (Au (Bd.L b) v Ae))::iD (A4 (Au (Bd.L b) v Ae))::Al bgC (Ai (v+1) (Bd.L b)))))/\0<Aa (u32D (A2 (Au (Bd.L b) v Ae))::iD (A4 (Au (Bd.L b) v Ae))::Al bgC (Ai (v+1) (Bd.L b)))/\As (dig (A2 (Au (Bd.L b) v Ae)))=As (A9 (u32D (A2 (Au (Bd.L b) v Ae))::iD (A4 (Au (Bd.L b) v Ae))::Al bgC (Ai (v+1) (Bd.L b))) Uk)) ⟨(by omega),(by kernel_rfl),⟨(by omega),⟨(by omega),(by assumption)⟩⟩,?_,trivial,(by kernel_rfl),(lb (by kernel_rfl)),(by kernel_rfl),(by omega),(by kernel_rfl),⟨(by omega),⟨(by omega),(by assumption)⟩⟩,?_,trivial,(by kernel_rfl),(lb (by kernel_rfl)),(by kernel_rfl)⟩ ?_;rotate_left;rotate_left;refine v0s<|vc hic<|vrT 2<|vnil<|zBv<|zC<|vnn (fr 67 [(0,Ad 4 0),(1,iD v),(4,Af 9 0 (Aa<|chV b v) (Aa (chV b v)*2) Ab),(5,Ak (nsD<|keyC b v)<|Aa<|keyC b v),(15,Ad 4 0),(16,iD v),(17,Af 9 0 (Aa<|chV b v) (Aa (chV b v)*2) Ab),(18,Ad 4 0),(19,Ad 4 0),(20,Ad 4 6),(21,(q16_ b)),(22,iD v),(23,AG ((q24_ b v)::iD (↑(Aa<|Am<|Au (Bd.R b) v Ae):Int)::Ak (Ah rowV<|Aw<|Au (Bd.R b) v Ae) (Aa<|Aw<|Au (Bd.R b) v Ae)::Al atR (Ai (v+1)<|Bd.R b))),(24,AG ((q24_ b v)::iD (↑(Aa<|Am<|Au (Bd.R b) v Ae):Int)::Ak (Ah rowV<|Aw<|Au (Bd.R b) v Ae) (Aa<|Aw<|Au (Bd.R b) v Ae)::Al atR (Ai (v+1)<|Bd.R b))),(25,(q24_ b v)),(26,Ad 4 0),(27,Ad 4 0),(28,Ad 4 5),(29,(q17_ b)),(30,iD v),(31,(q25_ b v)),(32,AG (u32D (A2<|Au (Bd.L b) v Ae)::iD (A4<|Au (Bd.L b) v Ae)::Al bgC (Ai (v+1)<|Bd.L b))),(33,dig<|A2<|Au (Bd.L b) v Ae),(34,Ak (nsD<|keyC b v)<|Aa<|keyC b v)]) [(q26_ b),q27_,(q28_ b),(q29_ b),(q30_ b),Ag (fA (Bd.n b) λ(c:Nat)=>if c=v then AR 8 else gv c) 170 1 Ab Ac AW,Ag (fA (Bd.n b) gt) 177 1 Ab Ac AW,Ag c7 88 1 Ab Ac Aq,Ag [] 170 0 Ab Ac<|BK [],Ag (Al chC<|chV b v) 200 2 Ab Ac Aq] ?_;rotate_left
  ·first|exact Eq.trans (b:=As (AG (.row (nsD (b.R.getD v Ae).1) (b.R.getD v Ae).1.length::iD ((b.R.getD v Ae).1.length:Nat):: .row ((b.R.getD v Ae).2.map rowV) (b.R.getD v Ae).2.length::(b.R.drop (v+1)).flatMap atR))) (by kernel_rfl) (congrArg (λl=>As (AG l)) hav.symm)|exact Eq.trans (b:=As (AG (bgC (b.L.getD v Ae)++(b.L.drop (v+1)).flatMap bgC))) (by kernel_rfl) (congrArg (λl=>As (AG l)) hbat.symm)
  ·first|exact Eq.trans (b:=As (AG (.row (nsD (b.R.getD v Ae).1) (b.R.getD v Ae).1.length::iD ((b.R.getD v Ae).1.length:Nat):: .row ((b.R.getD v Ae).2.map rowV) (b.R.getD v Ae).2.length::(b.R.drop (v+1)).flatMap atR))) (by kernel_rfl) (congrArg (λl=>As (AG l)) hav.symm)|exact Eq.trans (b:=As (AG (bgC (b.L.getD v Ae)++(b.L.drop (v+1)).flatMap bgC))) (by kernel_rfl) (congrArg (λl=>As (AG l)) hbat.symm)
  have hf:frz Ab [blI b,blX,blG b,blE b,blB b,blV (fA b.n λc=>if c=v then .mref 8 else gv c),blT (fA b.n gt),blU c7,blM 170 [] [],chB (chV b v)] zAe (.osl 9 0 (chV b v).length ((chV b v).length*2) Ab)=As (.row ((chV b v).flatMap chC) (chV b v).length,[9]):=by
   rw[show zAe=8+1 from rfl,zJ5 (e:=chB (chV b v)) rfl rfl rfl];simp_all [D,chV,chC,Bi,zPd]
  refine zB2 ((Weak.frzSlot (s:=4) (by kernel_rfl) hf).trans<|Weak.phant ⟨[],0,0,Ab,Ac,.plain⟩) ?_;have hro:=zT7 ((b.R.getD v Ae).1.length:Nat) (b.R.getD v Ae).2 h.rl (λr hr=>by rw[(h.r r hr).1];have:=h.V;omega);have hrw:=h.r;have hS:=h.S;have hcl:∀c∈chV b v,c.2.length<=1000/\∀j∈c.2,j<(b.R.getD v Ae).1.length:=λc hc=>by
   obtain⟨_,_,e⟩:=zHc hc;rw[e];refine⟨A0 (BC _ _) ?_,zKa _ _⟩;rw[CV];exact h.V
  have hcl2:(keyC b v).length<=1000:=A0 (BC _ _) (by rw[CV];exact h.V);have hkl:∀c∈keyC b v,c<(b.R.getD v Ae).1.length:=zKa (λu=>(b.L.getD v Ae).k.testBit u) (b.R.getD v Ae).1;have hchl:(chV b v).length<=1000:=A0 (zWa _ _ _ _) (by rw[h.L];exact h.n);have hV:=h.V;have hchn:∀c∈chV b v,c.1<b.n:=λc hc=>by rw[<-h.L];exact(zHc hc).1
  have hrl:=h.rl;have hhv:=h.hv;have hht:=h.ht;have hne2:=h.ne;have hS1:=h.S1;refine vAs<|vr 6 (True/\0<4/\ix ↑v (Aa (Bd.R b):Int) (Al atR (Bd.R b)≠[]))<|vs 40 (AG<|Ai (Ay (v:Int)*3)<|Al atR<|Bd.R b) (AG (Ak (nsD<|Am<|Au (Bd.R b) v Ae) (Aa<|Am<|Au (Bd.R b) v Ae)::iD (↑(Aa<|Am<|Au (Bd.R b) v Ae):Int)::Ak (Ah rowV<|Aw<|Au (Bd.R b) v Ae) (Aa<|Aw<|Au (Bd.R b) v Ae)::Al atR (Ai (v+1)<|Bd.R b)))<|vr 2 (True/\2<=Aa (iD (↑(Aa<|Am<|Au (Bd.R b) v Ae):Int)::Ak (Ah rowV<|Aw<|Au (Bd.R b) v Ae) (Aa<|Aw<|Au (Bd.R b) v Ae)::Al atR (Ai (v+1)<|Bd.R b)))<|vc hro<|veT<|zJ ?_;generalize hRv:(b.R.getD v Ae).2=rows at*;generalize hCv:chV b v=ch at*;generalize hKv:keyC b v=cols at*;refine zK (λ(i:Nat)=>fr 67 [(0,Ad 4 0),(1,iD v),(4,(q22_ ch)),(5,(q14_ cols)),(43,Ak (Ah rowV rows)<|Aa rows),(44,iD<|Aa rows),(45,iD i)]) (λ(i:Nat)=>[blI b,blX,blG b,blE b,blB b,blV (fA b.n λc=>if c=v then .mref 8 else gv c),blT<|fA b.n gt,blU c7,mapB<|redK (λx=>wtL b.f VT TT x ch) cols<|rows.take i,chfB<|ch.flatMap chC,(⟨[],0,0,Ab,Ac,.plain⟩:Bk)]) (λ(i:Nat)=>rows.length-i) (λ(i:Nat)=>i<=rows.length) 0 ?_ ?_ ?_
  ·omega
  ·refine vk 11 ?_;grind [zDm]
  intro i h1;rcases AQ i rows.length with h3|h3
  ·have hhd:=zAq rowV rows [] i h3;have hmne:rows.map rowV≠[]:=zAc;have hmem:rows.getD i []∈rows:=by rw[A3,AS h3];exact A8 h3
   obtain⟨r1,r2⟩:=hrw _ hmem;have hsx:=hS _ hmem;have hsu:=redK_succ (λx=>wtL b.f VT TT x ch) cols rows i h3;generalize rows.getD i []=x at*;generalize hKg:redK (λx=>wtL b.f VT TT x ch) cols (rows.take i)=K at*;have hwt:=zWt b x ch (λc=>if c=v then .mref 8 else gv c) gt VT TT (by omega) r2 hchl (λc hc=>⟨hchn c hc,by rw[r1];exact hcl c hc⟩) (λc hc hf=>by rw[if_neg (hne2 c hc)];exact hhv c hc hf) hht hsx hS1 c7 (K.map λ_=>bD Ab) (ch.flatMap chC) [] 170 0 0 (K.map kyv) (hgv1 11 (by omega)) (hgt1 11 (by omega));have hpk:=pick_c x cols _ _ rfl rfl (by omega) (by omega) (λc hc=>by rw[r1];exact hkl c hc);have hpl:(zM x cols).length=cols.length:=by simp[zM]
   have hid:=zCs (zM x cols) cols.length hpl (zQg x cols r2);generalize wtL b.f VT TT x ch=w at*;have hmp:=mput_b K (zM x cols);have hget:((fA b.n λc=>if c=v then .mref 8 else gv c).drop v).headD .unk= .mref 8:=by rw[zD7 hvn];exact if_pos rfl
   have hps:=zCd (g:=λc=>if c=v then .mref 8 else gv c) hvn;rcases Cv w with hw|hw
   ·have hdl:dg w=[]:=by subst hw;simp[dg]
    rw[if_neg (by omega)]at hsu;refine vAu<|zA<|vT ((i:Int)<↑(Aa rows))<|vKB<|vA<|vr 1 (ix ↑i ↑(Aa rows) (Ah rowV rows≠[]))<|vp 47 i (Ah rowV rows)<|vr 1 (0<Aa (Ai i<|Ah rowV rows))<|vsh 48 hhd<|veT<|vA<|vrT 3<|vnt [blI b,blX,blG b,blE b,blB b,blV (fA (Bd.n b) λ(c:Nat)=>if c=v then AR 8 else gv c),blT<|fA (Bd.n b) gt,blU c7,mapB K,chfB<|Al chC ch,Ag [] (0:TypeId) 0 Ab Ac Aq]<|zZ [] [] [Ad 4 0,(q22_ ch),(q3_ x)] [Ad 4 0,(q22_ ch),(q3_ x)] (AX _) (by exact hwt) ?_;refine v0s<|veT<|zEz (t:=decide ((Aa (dg w):Int)>(0:Int))) (by kernel_rfl) (by simpa using by omega)<|zT<|zD<|vN<|zB rfl<|vr 2 (i6 (↑i+1))<|vnil<|zC<|⟨i+1,by omega,by omega,?_⟩;rw[hsu];refine vk 11 ?_;grind [zDm]
   have hdl:=zYw hw;rw[if_pos hw]at hsu;refine vAu (zA (vT ((i:Int)<↑(Aa rows)) (vKB (vA (vr 1 (ix ↑i ↑(Aa rows) (Ah rowV rows≠[])) (vp 47 i (Ah rowV rows) (vr 1 (0<Aa (Ai i (Ah rowV rows))) (vsh 48 hhd (veT (vA (vrT 3 (vnt [blI b,blX,blG b,blE b,blB b,blV (fA (Bd.n b) λ(c:Nat)=>if c=v then AR 8 else gv c),blT (fA (Bd.n b) gt),blU c7,mapB K,chfB (Al chC ch),Ag [] (0:TypeId) 0 Ab Ac Aq] (zZ [] [] [Ad 4 0,(q22_ ch),(q3_ x)] [Ad 4 0,(q22_ ch),(q3_ x)] (AX _) (by exact hwt) ?_)))))))))))));refine v0s (veT (vT ((Aa (dg w):Int)>(0:Int)) (vd [0,1,2,4,7,8,3,5,6,9,10,11] (vr 8 (True/\0<3/\(0:Int)<=(v:Int)/\(v:Int)<↑(Bd.n b)) (vo 60 5 v (vr 1 (0<Aa (Ai v (fA (Bd.n b) λ(c:Nat)=>if c=v then AR 8 else gv c))) (vsh 61 hget (vc hpk (vc hid (vr 1 (Ac=Ac/\zW (Bj (Bl Bm "string" 1 16 Ab 8 8 (As (AJ (AZ #[]))) Ab #[])) (AJ (bs (idR (zM x cols))))=Ab/\BN (Ah kyv K) (zW (Bj (Bl Bm "string" 1 16 Ab 8 8 (As (AJ (AZ #[]))) Ab #[])))=Ab/\¬8∈[]) (vb 8 (mput (Ag (Ah (λ(x:Rw)=>bD Ab) K) 170 0 Ab Ac (BK (Ah kyv K))) (Ah kyv K) (AJ (bs (idR (zM x cols)))) (bD Ab)) (mapB (addK K (zM x cols))) (vnil (zD ?_))) ⟨(by kernel_rfl),⟨(by kernel_rfl),⟨(by exact zVw _),(by decide)⟩⟩⟩))))))))));refine vN (zB rfl (vr 2 (i6 (↑i+1)) (vnil (zC (⟨i+1,by omega,by omega,?_⟩)))));rw[hsu];refine vk 11 ?_;grind [zDm]
  obtain rfl:i=rows.length:=by omega
  rw[Bq];refine vAu<|zA<|vF ((Aa rows:Int)<↑(Aa rows))<|vY2<|zN (True) [] (.inl rfl) ?_;exact⟨by kernel_rfl,by kernel_rfl⟩
 generalize redK (λx=>wtL b.f VT TT x (chV b v)) (keyC b v) (b.R.getD v Ae).2=K;have e2:(fA b.n λc=>if c=v then .mref 8 else gv c).set v (zHq K)=fA b.n λc=>if c=v then zHq K else gv c:=by
  simp_all [zEx,zB8]
 have hw:=Co (T:=Tre) (sl:=[D.tup []]) (st:=[blI b,blX,blG b,blE b,blB b,blV (fA b.n λc=>if c=v then .mref 8 else gv c),blT (fA b.n gt),blU c7,mapB K,chfB ((chV b v).flatMap chC),⟨[],0,0,Ab,Ac, .plain⟩]) (j:=5) (i:=v) (d:= .mref 8) (x:=zHq K) (ks:=[8]) rfl rfl rfl (by rw[zYv hvn];exact congrArg As (if_pos rfl)) rfl (by decide);refine hw.trans ?_;show Weak Tre _ ([blI b,blX,blG b,blE b,blB b,blV ((fA b.n λc=>if c=v then .mref 8 else gv c).set v (zHq K)),blT (fA b.n gt),blU c7]++[{mapB K with fz:=Ab},chfB ((chV b v).flatMap chC),⟨[],0,0,Ab,Ac, .plain⟩]) _ _;rw[e2];refine zHo (N:=8) rfl (zHf (AV _) (zE0.2 λc hc j hj=>?_) (zE0.2 h.tw) (by simp)) (by intro j hj;cases hj) zDm;split
 ·rfl
 exact h.gw c hc j hj
structure Bu where
 key:List Va
 desc:Bool
 t:WT
instance : Inhabited WT := ⟨.nil⟩
instance : Inhabited Bu := ⟨⟨[], Ac, .nil⟩⟩
abbrev buC(b:Bu):List D:=[.row (zG b.key) b.key.length,bD b.desc,b.t.x]
abbrev busD(l:List Bu):D:= .row (l.flatMap buC) l.length
theorem zCg(b:Bu):(buC b).length=3:=rfl
abbrev buB(l:List Bu):Bk:=⟨l.flatMap buC,91,3,Ab,Ac, .plain⟩
def Bu.Ok(b:Bu):Prop:=b.key.length<=10000/\∀v∈b.key,Vs v
set_option maxHeartbeats 2000000 in
theorem copies_c(l:List Bu)(n:Nat)(hn:l.length=n)(hl:n<=1000000)(hk:∀b∈l,b.key.length<=10000):Pure AA 74 [.row (l.flatMap buC) n] [] (.row (l.flatMap buC) n):=by
 subst hn;refine zF zBe mixed Tryz.func74 rfl<|vAu<|vAe<|zA<|vAe<|zJ<|zK (λ(i:Nat)=>fr 23 [(2,nl),(3,Af 0 0 i (i*3) Ab),(6,Ak (Al buC l)<|Aa l),(7,iD (Aa l:Int)),(8,iD (i:Int))]) (λi=>[buB<|l.take i]) (λi=>l.length-i) (λi=>i<=l.length) 0 ?_ ?_ ?_
 ·omega
 ·refine vk 0
 rintro i h1;rcases AQ i l.length with hi|hi
 ·have e1:=zEl l i hi;have hb:(l.getD i Ae).key.length<=10000:=by rw[A3,AS hi];exact hk _ (A8 _)
  have e0:=zC0 zCg l i hi;obtain⟨b,eb⟩:∃b,b=l.getD i default:=⟨_,rfl⟩;rw[<-eb]at e1 hb e0;have e3:=zDn zCg (l.take i);have e4:(l.take i).length=i:=by simp;omega
  have e5:=zAg b.key;rw[e4]at e3;refine vAu<|zA<|vT ((i:Int)<↑(Aa l))<|vKB<|vA<|vr 2 (ix ↑i ↑(Aa l) (Al buC l≠[])/\3<=Aa (Ai (i*3)<|Al buC l)) ?_ ⟨⟨(by omega),⟨(by omega),(by exact zDe zCg (by decide) _)⟩⟩,(by exact zFw zCg _ _ (by omega))⟩;refine vs 11 (Az<|AB 3<|Ai (i*3)<|Al buC l) (Az<|buC b)<|ve (am_)<|vd [0,1,4,2,3,5,6,7,8,9]<|vr 4 (True/\True/\0<3)<|vc (zGf (zG b.key) _ e5 (by omega))<|vr 4 (2<=2/\((1=1/\1<=3/\2=2/\3<=3/\True)/\Ab=Ab)/\((3=3/\3<=3/\True)/\0<3/\3=3/\3<=16777216/\1<=9223372036854775807)/\BJ (buB<|AB i l)=Ab/\Aa (AM<|buB<|AB i l)=i*3/\i*3=i*3/\A_ (buB<|AB i l)=91/\Ba (buB<|AB i l)=3/\3=3/\0<3/\0<40/\91=91/\(i+1)*40<=140737488355328/\3=3/\Bc (A1<|buB<|AB i l)=Ac/\(Ac=Ac\/Bf (A1<|buB<|AB i l)=Ab))<|vb 0 (Ag (AM (buB<|AB i l)++[Ak (zG<|Bu.key b)<|Aa<|Bu.key b,bD<|Bu.desc b,AE<|WT.d<|Bu.t b]) (A_<|buB<|AB i l) (Ba<|buB<|AB i l) Ab Ac<|A1<|buB<|AB i l) (Ag (Al buC (AB i l++[b])) (91:TypeId) 3 Ab Ac Aq) (hd:=by simp(disch:=omega) only[fl_app])<|vrT 1<|vnil<|zD<|vN<|zB rfl<|vr 2 (i6 (↑i+1))<|vnil<|zC<|⟨i+1,by omega,by omega,?_⟩;rw[e1];refine vk 1
 have e:i=l.length:=by omega
 subst e;rw[Bq];refine vAu<|zA<|vF ((Aa l:Int)<↑(Aa l))<|vZ2<|vAe<|zE<|zBm (True) (Ak (AB (Aa l*3)<|Ai 0<|AM<|buB l)<|Aa l) (Ak (Al buC l)<|Aa l) (.inr rfl) (by simp(disch:=omega) only[Bi,zPd zCg]) rfl
theorem free_c(desc:List Bool)(n:Nat)(hn:desc.length=n)(b c p:List D)(bn cn pn:Nat)(tot:Nat)(v:Int)(hl:n<=1000000):Pure AA 58 [.agg [.row (desc.map bD) n, .row b bn, .row c cn, .row p pn,natD tot],iD v] [] (bD (decide (0<=v)&&decide (v<(n:Int)))):=by
 subst hn;refine zF zBe mixed Tryz.func58 rfl ?_;by_cases h0:0<=v
 ·rw[decide_eq_true h0];refine vAu<|vA<|vew [] [(2,Ab)] (decide (v>=(0:Int))=Ab/\aA_)<|zE<|vret (True)<|.inr rfl
 rw[decide_eq_false h0];refine vAu<|vA<|vew [] [(2,Ac)] (decide (v>=(0:Int))=Ac)<|zE<|vret (True)<|.inr rfl
theorem len32_c(n:Nat)(hn:n<4294967296):Pure AA 56 [.val (.int .u32 n)] [] (iD (B_ n:Nat)):=
 zFd (us:=[.int .u32 n]) (λw=>(Tryz.bits_Len32 n w (by omega) (by omega)).mono λe w' h=>⟨by rw[h.1];simp,h.2.symm⟩)
end
variable{desc:Bool}{l:List Bu}{k:List Va}{Q:List Va->Prop}
section
open Go.RowKit
def gAdd(desc:Bool)(l:List Bu)(k:List Va)(v:Va)(w:Nat):List Bu:=match l.getLast? with
 |some b=>if b.key=k then l.dropLast++[⟨b.key,desc,b.t.put desc v w⟩]else l++[⟨k,desc,WT.nil.put desc v w⟩]
 |none=>[⟨k,desc,WT.nil.put desc v w⟩]
theorem zJe(desc:Bool)(k:List Va)(v:Va)(w:Nat):gAdd desc [] k v w=[⟨k,desc,WT.nil.put desc v w⟩]:=rfl
theorem zMv(desc:Bool)(m:List Bu)(b:Bu)(k:List Va)(v:Va)(w:Nat)(h:b.key=k):gAdd desc (m++[b]) k v w=m++[⟨b.key,desc,b.t.put desc v w⟩]:=by
 grind [gAdd,List.getLast?_concat,only,List.dropLast_concat]
theorem zMu(desc:Bool)(m:List Bu)(b:Bu)(k:List Va)(v:Va)(w:Nat)(h:b.key≠k):gAdd desc (m++[b]) k v w=m++[b]++[⟨k,desc,WT.nil.put desc v w⟩]:=by
 grind [gAdd,List.getLast?_concat,only]
abbrev kyX(x:List Va):List Va:=x.take (x.length-1)
abbrev vaX(x:List Va):Va:=x.getD (x.length-1) Ae
def grpL(desc:Bool)(w:List Va->Nat)(rows:List (List Va)):List Bu:=rows.foldl (λl x=>if 0<w x then gAdd desc l (kyX x) (vaX x) (w x)else l) []
theorem zJb(desc:Bool)(w:List Va->Nat)(rows:List (List Va))(x:List Va):grpL desc w (rows++[x])=if 0<w x then gAdd desc (grpL desc w rows) (kyX x) (vaX x) (w x)else grpL desc w rows:=by
 grind [grpL]
theorem grpL_succ(desc:Bool)(w:List Va->Nat)(rows:List (List Va))(i:Nat)(h:i<rows.length):grpL desc w (rows.take (i+1))=if 0<w (rows.getD i [])then gAdd desc (grpL desc w (rows.take i)) (kyX (rows.getD i [])) (vaX (rows.getD i [])) (w (rows.getD i []))else grpL desc w (rows.take i):=by
 grind [BI,zJb,AS]
structure Gok(desc:Bool)(n s:Nat)(Q:List Va->Prop)(b:Bu):Prop where
 d:b.desc=desc
 q:Q b.key
 n:b.t.sz<=n
 s:b.t.tot<=s
theorem Gok.mono{n' s':Nat}{b:Bu}(h:Gok desc n s Q b)(h1:n<=n')(h2:s<=s'):Gok desc n' s' Q b:=⟨h.d,h.q,A0 h.n h1,A0 h.s h2⟩
theorem gAdd_ok(h:∀b∈l,Gok desc n s Q b)(hq:Q k):∀b∈gAdd desc l k v w,Gok desc (n+1) (s+w) Q b:=by
 have hp:=λt=>WT.put_le desc v w t;have hnew:Gok desc (n+1) (s+w) Q ⟨k,desc,WT.nil.put desc v w⟩:=⟨rfl,hq,by have:=(hp .nil).1;simp only[WT.sz]at this;show(WT.nil.put desc v w).sz<=_;omega,by have:=(hp .nil).2;simp only[WT.tot]at this;show(WT.nil.put desc v w).tot<=_;omega⟩;rcases CW l with rfl|⟨m,b0,rfl⟩
 ·grind [zJe,By]
 rw[CX]at*;by_cases e:b0.key=k
 ·rw[zMv _ _ _ _ _ _ e];intro b hb;rcases B3.1 hb with hb|hb
  ·exact(h b (List.mem_append_left _ hb)).mono (by omega) (by omega)
  rw[By]at hb;subst hb;have h0:=h b0 (by simp);have h1:=hp b0.t;exact⟨rfl,h0.q,A0 h1.1 (by have:=h0.n;omega),A0 h1.2 (by have:=h0.s;omega)⟩
 rw[zMu _ _ _ _ _ _ e];intro b hb;rcases B3.1 hb with hb|hb
 ·exact(h b hb).mono (by omega) (by omega)
 grind
theorem gAdd_len:(gAdd desc l k v w).length<=l.length+1:=by
 rcases CW l with rfl|⟨m,b0,rfl⟩
 ·simp[zJe]
 rw[CX];by_cases e:b0.key=k;all_goals grind [zMv,zMu]
def sumW(w:List Va->Nat)(rows:List (List Va)):Nat:=(rows.map w).sum
theorem sumW_snoc(w:List Va->Nat)(rows:List (List Va))(x:List Va):sumW w (rows++[x])=sumW w rows+w x:=by simp[sumW]
theorem zMs{w:List Va->Nat}(rows:List (List Va))(hq:∀x∈rows,Q (kyX x)):(grpL desc w rows).length<=rows.length/\∀b∈grpL desc w rows,Gok desc rows.length (sumW w rows) Q b:=by
 have key:∀(r l:List (List Va)),(∀x∈l,Q (kyX x))->l.reverse=r->(grpL desc w l).length<=l.length/\∀b∈grpL desc w l,Gok desc l.length (sumW w l) Q b:=by
  intro r;induction r with
  |nil=>
   intro l _ e;obtain rfl:l=[]:=by simpa using e
   exact⟨AV _,λb hb=>by cases hb⟩
  |cons x r ih=>
   intro l hl e;obtain rfl:l=r.reverse++[x]:=by rw[<-List.reverse_reverse l,e,List.reverse_cons]
   obtain⟨i1,i2⟩:=ih r.reverse (λy hy=>hl y (List.mem_append_left _ hy)) (List.reverse_reverse r);rw[zJb,AU,sumW_snoc];split
   ·exact⟨A0 gAdd_len (by simpa using i1),gAdd_ok i2 (hl x (by simp))⟩
   exact⟨A0 i1 (by simp),λb hb=>(i2 b hb).mono (by simp) (by omega)⟩
 exact key _ rows hq rfl
theorem sumW_take(w:List Va->Nat)(rows:List (List Va))(i:Nat)(h:i<rows.length):sumW w (rows.take i)+w (rows.getD i [])<=sumW w rows:=by
 grind [AS,List.drop_eq_getElem_cons,CQ,only,sumW]
def tput(K:List (List Va×Nat))(r:List Va)(w:Nat):List (List Va×Nat):=match K.findIdx? λp=>decide (r=p.1)with
 |some i=>K.set i (r,w)
 |none=>K++[(r,w)]
def totL(l:List Bu):List (List Va×Nat):=l.foldl (λK b=>tput K b.key b.t.tot) []
theorem totL_succ(l:List Bu)(i:Nat)(h:i<l.length):totL (l.take (i+1))=tput (totL (l.take i)) (l.getD i Ae).key (l.getD i Ae).t.tot:=by
 grind [totL,BI,AS]
theorem zX5(K:List (List Va×Nat))(r:List Va):zEs (K.map λp=>kyv p.1) (kyv r)=K.findIdx? λp=>decide (r=p.1):=by
 unfold zEs;rw[List.findIdx?_map];congr 1;funext s;exact zWx r s.1
end
section
open Go.RowKit
attribute [local irreducible] seqW awp zAd zAi zY Weak updS zAr retL Pure Acts rP setP setQ cP nP fr
set_option maxRecDepth 4096
abbrev mapT(K:List (List Va×Nat)):Bk:=⟨K.map λp=>natD p.2,177,0,Ab,Ac, .map (K.map λp=>kyv p.1)⟩
theorem mput_t(K:List (List Va×Nat))(r:List Va)(w:Nat):mput (mapT K) (K.map λp=>kyv p.1) (kyv r) (natD w)=mapT (tput K r w):=by
 unfold mput tput;rw[zX5];cases e:K.findIdx? λs=>decide (r=s.1)with
 |none=>simp
 | some i=>
  rw[CG]at e;obtain⟨h,h1,_⟩:=e;have e1:(K.map λp=>natD p.2).set i (natD w)=(K.set i (r,w)).map λp=>natD p.2:=by rw[Cf]
  have e2:(K.set i (r,w)).map (λp=>kyv p.1)=K.map λp=>kyv p.1:=by
   rw[Cf];apply BS;grind
  simp only[mapT,e1,e2]
theorem cellsX{x:List Va}(h:0<x.length):(zG x).take ((x.length-1)*3)=zG (kyX x):=by
 have e:x=kyX x++x.drop (x.length-1):=(CQ _ _).symm;conv=>lhs;rw[e,zC8]
 have hl:(zG (kyX x)).length=(x.length-1)*3:=by rw[zAg,CO];omega
 grind
abbrev q31_(x0:Bd)(x1:Nat->D):=Ag (fA (Bd.n x0) x1) 170 1 Ab Ac AW
abbrev q32_(x0:Bd)(x1:Nat->D):=Ag (fA (Bd.f x0) x1) 88 1 Ab Ac Aq
abbrev q33_:=Ag [] 177 0 Ab Ac (BK [])
abbrev q34_(x0:List (Nat×List Nat)):=Ag (Al chC x0) 200 2 Ab Ab Aq
abbrev q35_(x0:List Va):=Ak (zG (kyX x0)) (Aa x0-1)
abbrev q36_(x0:Bu):=Ak (zG (Bu.key x0)) (Aa (Bu.key x0))
set_option maxHeartbeats 4000000 in
theorem group_c(b:Bd)(v:Nat)(gv gt gu:Nat->D)(VT:Nat->List Rw)(TT:Nat->List (Rw×Nat))(h:Bok b v gv gt VT TT)(hvf:v<b.f)(hdl:b.desc.length=b.f)(hV1:0<(b.R.getD v Ae).1.length)(hok:∀x∈(b.R.getD v Ae).2,x.all vok=Ab)(hsum:Sm (sumW (λx=>wtL b.f VT TT x (chV b v)) (b.R.getD v Ae).2)):
  Acts AA 52 [.own 4 0,iD (v:Nat)] [blI b,blX,blG b,blE b,blB b,blV (fA b.n gv),blT (fA b.n gt),blU (fA b.f gu)] [] (iD 0)
   [blI b,blX,blG b,blE b,blB b,blV (fA b.n gv),blT (fA b.n λc=>if c=v then zGv (totL (grpL (b.desc.getD v Ac) (λx=>wtL b.f VT TT x (chV b v)) (b.R.getD v Ae).2))else gt c),blU (fA b.f λc=>if c=v then busD (grpL (b.desc.getD v Ac) (λx=>wtL b.f VT TT x (chV b v)) (b.R.getD v Ae).2)else gu c)]:=by
 have hgt1:∀m,9<=m->blw m (fA b.n λc=>if c=v then .mref 8 else gt c):=λm hm=>zE0.2 λc hc j hj=>by
  split
  ·simp[refs];omega
  exact h.tw c hc j (by omega)
 have hgv1:∀m,9<=m->blw m (fA b.n gv):=λm hm=>zE0.2 λc hc j hj=>h.gw c hc j (by omega);have hch:=zM8 b v (by rw[h.R];exact h.vn) (by rw[h.L];exact h.n) h.V h.V2 h.k (fA b.n gv) (fA b.n λc=>if c=v then .mref 8 else gt c) (fA b.f gu) [] 177 [] (hgv1 9 (AV _)) (hgt1 9 (AV _));have hset:(fA b.n gt).set v (.mref 8)=fA b.n λc=>if c=v then .mref 8 else gt c:=zEx
 have hac:∀a:List Nat×List Rw,(atR a).length=3:=λ_=>rfl;have hvR:v<b.R.length:=by rw[h.R];exact h.vn
 have hav:(b.R.flatMap atR).drop (v*3)= .row (nsD (b.R.getD v Ae).1) (b.R.getD v Ae).1.length::iD ((b.R.getD v Ae).1.length:Nat):: .row ((b.R.getD v Ae).2.map rowV) (b.R.getD v Ae).2.length::(b.R.drop (v+1)).flatMap atR:=zK0 hac b.R v hvR;have hne:=zDe hac (by decide) b.R;have hdes:=zAq (λx:Bool=>bD x) b.desc Ac v (by omega);have hdne:b.desc.map (λx:Bool=>bD x)≠[]:=zAc;have hvn:=h.vn;have hfl:(fA b.n gt).length=b.n:=zEy;refine Acts.post (T:=Tre) (x:=iD 0) (s:=[blI b,blX,blG b,blE b,blB b,blV (fA b.n gv),blT (fA b.n λc=>if c=v then .mref 8 else gt c),blU (fA b.f λc=>if c=v then busD (grpL (b.desc.getD v Ac) (λx=>wtL b.f VT TT x (chV b v)) (b.R.getD v Ae).2)else gu c),mapT (totL (grpL (b.desc.getD v Ac) (λx=>wtL b.f VT TT x (chV b v)) (b.R.getD v Ae).2)),chfB ((chV b v).flatMap chC),{buB (grpL (b.desc.getD v Ac) (λx=>wtL b.f VT TT x (chV b v)) (b.R.getD v Ae).2)with fz:=Ab}]) ?_ ?_ (keep8 rfl)
 ·refine zQ Tre_ok mixed Tryz.func52 rfl (keep8 rfl)<|vAu<|vA<|vr 7 (True/\0<2/\True/\(0:Int)<=(v:Int)/\(v:Int)<(↑(Bd.n b):Int))<|vo 22 6 (v)<|vr 1 (BB (blT<|fA (Bd.n b) gt)=Ac/\zD6 (AR 8)=Ab/\1=1/\v+1<=Aa (AM<|blT<|fA (Bd.n b) gt))<|vb 6 (Ag (setAt (AM<|blT<|fA (Bd.n b) gt) v<|cellsOf<|AR 8) (A_<|blT<|fA (Bd.n b) gt) (Ba<|blT<|fA (Bd.n b) gt) Ab Ac<|A1<|blT<|fA (Bd.n b) gt) (Ag (fA (Bd.n b) λ(c:Nat)=>if c=v then AR 8 else gt c) (177:TypeId) 1 Ab Ac AW)<|veT<|vA<|vrT 2<|vnt [blI b,blX,blG b,blE b,blB b,blV<|fA (Bd.n b) gv,Ag (fA (Bd.n b) λ(c:Nat)=>if c=v then AR 8 else gt c) (177:TypeId) 1 Ab Ac AW,blU<|fA (Bd.f b) gu,Ag [] 177 0 Ab Ac<|BK []]<|zZ [] [] [Ad 4 0,iD (v:Int)] [Ad 4 0,iD (v:Int)] (AX _) (by exact hch) ?_;refine v0s<|vrT 1<|vnil<|zC<|vnn (fr 137 [(0,Ad 4 0),(1,iD v),(4,iD 0),(5,Af 9 0 (Aa<|chV b v) (Aa (chV b v)*2) Ab),(23,Ad 4 0),(24,iD v),(25,Af 9 0 (Aa<|chV b v) (Aa (chV b v)*2) Ab)]) [(q26_ b),q27_,(q28_ b),(q29_ b),(q30_ b),(q31_ b gv),Ag (fA (Bd.n b) λ(c:Nat)=>if c=v then AR 8 else gt c) 177 1 Ab Ac AW,(q32_ b gu),q33_,Ag (Al chC<|chV b v) 200 2 Ab Ac Aq] ?_;have hf:frz Ab [blI b,blX,blG b,blE b,blB b,blV (fA b.n gv),blT (fA b.n λc=>if c=v then .mref 8 else gt c),blU (fA b.f gu),blM 177 [] [],chB (chV b v)] zAe (.osl 9 0 (chV b v).length ((chV b v).length*2) Ab)=As (.row ((chV b v).flatMap chC) (chV b v).length,[9]):=by
   rw[show zAe=8+1 from rfl,zJ5 (e:=chB (chV b v)) rfl rfl rfl];simp_all [D,chV,chC,Bi,zPd]
  refine zB2 (Weak.frzSlot (s:=5) (by kernel_rfl) hf) ?_;have hro:=zT7 ((b.R.getD v Ae).1.length:Nat) (b.R.getD v Ae).2 h.rl (λr hr=>by rw[(h.r r hr).1];have:=h.V;omega);have hrw:=h.r;have hS:=h.S;have hcl:∀c∈chV b v,c.2.length<=1000/\∀j∈c.2,j<(b.R.getD v Ae).1.length:=λc hc=>by
   obtain⟨_,_,e⟩:=zHc hc;rw[e];refine⟨A0 (BC _ _) ?_,zKa _ _⟩;rw[CV];exact h.V
  have hchl:(chV b v).length<=1000:=A0 (zWa _ _ _ _) (by rw[h.L];exact h.n);have hV:=h.V;have hchn:∀c∈chV b v,c.1<b.n:=λc hc=>by rw[<-h.L];exact(zHc hc).1
  have hrl:=h.rl;have hhv:=h.hv;have hht:=h.ht;have hne2:=h.ne;have hS1:=h.S1;refine vAs<|vrT 1<|vnil<|zC<|vnn (fr 137 [(0,Ad 4 0),(1,iD v),(4,iD 0),(5,Ak (Al chC<|chV b v)<|Aa<|chV b v),(6,nl),(23,Ad 4 0),(24,iD v),(25,Af 9 0 (Aa<|chV b v) (Aa (chV b v)*2) Ab)]) [(q26_ b),q27_,(q28_ b),(q29_ b),(q30_ b),(q31_ b gv),Ag (fA (Bd.n b) λ(c:Nat)=>if c=v then AR 8 else gt c) 177 1 Ab Ac AW,(q32_ b gu),q33_,(λ(e:Bk)=>Ag (AM e) (A_ e) (Ba e) (BJ e) Ab (A1 e))<|Ag (Al chC<|chV b v) 200 2 Ab Ac Aq]<|zB2 ((Weak.nilS 6 10 Ab (by kernel_rfl)).trans<|Weak.phant<|buB []) ?_;refine zA<|vAs<|vr 6 (True/\0<4/\ix ↑v (Aa (Bd.R b):Int) (Al atR (Bd.R b)≠[]))<|vs 31 (AG<|Ai (Ay (v:Int)*3)<|Al atR<|Bd.R b) (AG (Ak (nsD<|Am<|Au (Bd.R b) v Ae) (Aa<|Am<|Au (Bd.R b) v Ae)::iD (↑(Aa<|Am<|Au (Bd.R b) v Ae):Int)::Ak (Ah rowV<|Aw<|Au (Bd.R b) v Ae) (Aa<|Aw<|Au (Bd.R b) v Ae)::Al atR (Ai (v+1)<|Bd.R b)))<|vr 2 (True/\2<=Aa (iD (↑(Aa<|Am<|Au (Bd.R b) v Ae):Int)::Ak (Ah rowV<|Aw<|Au (Bd.R b) v Ae) (Aa<|Aw<|Au (Bd.R b) v Ae)::Al atR (Ai (v+1)<|Bd.R b)))<|vc hro<|veT<|zJ ?_;generalize hRv:(b.R.getD v Ae).2=rows at*;generalize hCv:chV b v=ch at*;generalize hDv:b.desc.getD v Ac=desc at*;have hgo:∀i,(grpL desc (λx=>wtL b.f VT TT x ch) (rows.take i)).length<=i/\∀u∈grpL desc (λx=>wtL b.f VT TT x ch) (rows.take i),Gok desc i (sumW (λx=>wtL b.f VT TT x ch) (rows.take i)) (λk=>k.length<=1000/\∀u∈k,Vs u) u:=λi=>by
   obtain⟨q1,q2⟩:=zMs (desc:=desc) (w:=λx=>wtL b.f VT TT x ch) (Q:=λk=>k.length<=1000/\∀u∈k,Vs u) (rows.take i) λx hx=>by
    grind
   exact⟨A0 q1 (by simp;omega),λu hu=>(q2 u hu).mono (by simp;omega) (AV _)⟩
  have hnm:∀l,∀e∈[blI b,blX,blG b,blE b,blB b,blV (fA b.n gv),blT (fA b.n λc=>if c=v then .mref 8 else gt c),blU (fA b.f gu),blM 177 [] [],chfB (ch.flatMap chC),buB l],namB 11 e:=λl=>zHf (by omega) (hgv1 11 (by omega)) (hgt1 11 (by omega)) λe he=>by
   simp only[Bz,B5,or_false]at he;rcases he with rfl|rfl|rfl<;>exact .inl rfl
  have k5:=killL (hgv1 10 (by omega) 10 (by omega));have k6:=killL (hgt1 10 (by omega) 10 (by omega));refine zK (λ(i:Nat)=>fr 137 [(0,Ad 4 0),(1,iD v),(5,(q22_ ch)),(6,Af 10 0 (Aa<|grpL desc (λ(x:List Va)=>wtL (Bd.f b) VT TT x ch)<|AB i rows) (Aa (grpL desc (λ(x:List Va)=>wtL (Bd.f b) VT TT x ch)<|AB i rows)*3) Ab),(34,Ak (Ah rowV rows)<|Aa rows),(35,iD<|Aa rows),(36,iD i)]) (λ(i:Nat)=>[blI b,blX,blG b,blE b,blB b,blV<|fA b.n gv,blT (fA b.n λc=>if c=v then .mref 8 else gt c),blU<|fA b.f gu,blM 177 [] [],chfB<|ch.flatMap chC,buB<|grpL desc (λx=>wtL b.f VT TT x ch)<|rows.take i]) (λ(i:Nat)=>rows.length-i) (λ(i:Nat)=>i<=rows.length) 0 ?_ ?_ ?_
  ·omega
  ·simp only[show grpL desc (λx=>wtL b.f VT TT x ch) (rows.take 0)=[]from rfl,CE,Nat.zero_mul];refine vk 11 ?_;grind [zDm]
  intro i h1;rcases AQ i rows.length with h3|h3
  ·have hhd:=zAq rowV rows [] i h3;have hmne:rows.map rowV≠[]:=zAc;have hmem:rows.getD i []∈rows:=by rw[A3,AS h3];exact A8 h3
   obtain⟨r1,r2⟩:=hrw _ hmem;have hsx:=hS _ hmem;have hvx:=hok _ hmem;have hsu:=grpL_succ desc (λx=>wtL b.f VT TT x ch) rows i h3;obtain⟨g1,g2⟩:=hgo i;have hsm:=sumW_take (λx=>wtL b.f VT TT x ch) rows i h3;generalize rows.getD i []=x at*;generalize hGg:grpL desc (λx=>wtL b.f VT TT x ch) (rows.take i)=l at*;have hwt:=zWt b x ch gv (λc=>if c=v then .mref 8 else gt c) VT TT (by omega) r2 hchl (λc hc=>⟨hchn c hc,by rw[r1];exact hcl c hc⟩) hhv (λc hc hf=>by rw[if_neg (hne2 c hc)];exact hht c hc hf) hsx hS1 (fA b.f gu) [] (ch.flatMap chC) (l.flatMap buC) 177 91 3 [] (hgv1 11 (by omega)) (hgt1 11 (by omega));generalize hwg:wtL b.f VT TT x ch=w at*;generalize hsg:sumW (λx=>wtL b.f VT TT x ch) rows=sw at*;generalize hsi:sumW (λx=>wtL b.f VT TT x ch) (rows.take i)=si at*;have hx0:0<x.length:=by omega
   have hvv:vok (vaX x)=true:=BG.1 hvx _ (by rw[vaX,A3,AS (by omega)];exact A8 _);have hkx:=cellsX hx0;have hkl:(kyX x).length=x.length-1:=by simp
   have hcln:=zGf (zG (kyX x)) (x.length-1) (by rw[zAg,hkl]) (by omega);have htv:=zB5 x (x.length-1) (by omega);have hxc:=zAg x;have htn:((x.length:Int)-1).toNat=x.length-1:=by omega
   rcases Cv w with hw|hw
   ·have hdl0:dg w=[]:=by subst hw;simp[dg]
    rw[if_neg (by omega)]at hsu;refine vAu<|zA<|vT ((i:Int)<↑(Aa rows))<|vKB<|vA<|vr 1 (ix ↑i ↑(Aa rows) (Ah rowV rows≠[]))<|vp 38 i (Ah rowV rows)<|vr 1 (0<Aa (Ai i<|Ah rowV rows))<|vsh 39 hhd<|veT<|vA<|vrT 3<|vnt [blI b,blX,blG b,blE b,blB b,blV<|fA (Bd.n b) gv,blT (fA (Bd.n b) λ(c:Nat)=>if c=v then AR 8 else gt c),blU<|fA (Bd.f b) gu,blM (177:TypeId) [] [],chfB<|Al chC ch,buB l]<|zZ [] [] [Ad 4 0,(q22_ ch),(q3_ x)] [Ad 4 0,(q22_ ch),(q3_ x)] (AX _) (by exact hwt) ?_;refine v0s<|veT<|zA<|vAe<|zFv (t:=(Aa (dg w):Int)==(0:Int)) (by kernel_rfl) (by simpa using by omega)<|vZ<|zB rfl<|vr 2 (i6 (↑i+1))<|vnil<|zC<|⟨i+1,by omega,by omega,?_⟩;rw[hsu];refine vk 11 ?_;grind [zDm]
   have hdp:=zYw hw;rw[if_pos hw]at hsu;have hpc:=λ(t:WT)(q1:t.sz<=i)(q2:t.tot<=si)=>wPut_c desc t (vaX x) w hvv hw (by omega) (hsum.le (by omega));rcases CW l with rfl|⟨m,u,hl⟩
   ·rw[zJe]at hsu;have hp0:=hpc .nil (BD _) (BD _);have hbu:buB [⟨kyX x,desc,WT.nil.put desc (vaX x) w⟩]=⟨[.row (zG (kyX x)) (x.length-1),bD desc,(WT.nil.put desc (vaX x) w).x],91,3,Ab,Ac, .plain⟩:=by
     grind
    have hnm2:=hnm [⟨kyX x,desc,WT.nil.put desc (vaX x) w⟩];rw[hbu]at hnm2;simp only[CE,Nat.zero_mul];refine vAu<|zA<|vT ((i:Int)<↑(Aa rows))<|vKB<|vA<|vr 1 (ix ↑i ↑(Aa rows) (Ah rowV rows≠[]))<|vp 38 i (Ah rowV rows)<|vr 1 (0<Aa (Ai i<|Ah rowV rows))<|vsh 39 hhd<|veT<|vA<|vrT 3<|vnt [blI b,blX,blG b,blE b,blB b,blV<|fA (Bd.n b) gv,blT (fA (Bd.n b) λ(c:Nat)=>if c=v then AR 8 else gt c),blU<|fA (Bd.f b) gu,blM (177:TypeId) [] [],chfB<|Al chC ch,buB []]<|zZ [] [] [Ad 4 0,(q22_ ch),(q3_ x)] [Ad 4 0,(q22_ ch),(q3_ x)] (AX _) (by exact hwt) ?_;refine v0s<|veT<|zA<|vAe<|vEf ((Aa (dg w):Int)) ((0:Int))<|vK<|vA<|vr 5 (i6 (↑(Aa x)-1)/\True/\(0:Int)<=(Aa x:Int)-(1:Int)/\True/\0<3/\0<=Ay ((Aa x:Int)-(1:Int))/\Ay ((Aa x:Int)-(1:Int))<=Aa x/\Ay ((Aa x:Int)-(1:Int))=Ay ((Aa x:Int)-(1:Int)))<|vs 51 (Ak (AB ((Ay ((Aa x:Int)-(1:Int))-0)*3)<|Ai 0<|zG x) (Ay ((Aa x:Int)-(1:Int))-0)) (Ak (zG<|kyX x) (Aa x-1)) (hd:=by simp(disch:=omega) only[Nat.sub_zero,Bi,htn,hkx])<|veT<|zA<|vAe<|vt<|vd [0,1,3,4,5,6,8,2,7,9,10,11,12,13,14,15]<|vr 7 (True/\True)<|vc hcln<|vr 2 (0<8/\ix ↑v (Aa (Bd.desc b):Int) (Ah bD (Bd.desc b)≠[]))<|vp 76 v (Ah bD<|Bd.desc b)<|vr 1 (0<Aa (Ai v<|Ah bD<|Bd.desc b))<|vsh 77 hdes<|vc (wnew_c desc)<|ve (((1=1/\1<=3/\2=2/\3<=3/\True)/\Ab=Ab)/\((3=3/\3<=3/\True)/\0<3/\3=3/\3<=16777216/\1<=9223372036854775807)/\Ab=Ab/\0=0/\0=0/\91=91/\3=3/\3=3/\0<3/\0<40/\91=91/\40<=140737488355328/\3=3/\Ac=Ac/\(Ac=Ac\/Ac=Ab))<|vA<|ve (i6 (↑(1:Nat)-1)/\(0:Int)<=(↑(1:Nat):Int)-(1:Int)/\(↑(1:Nat):Int)-(1:Int)<(↑(1:Nat):Int))<|zA<|vd [0,1,2,4,5,6,7,8,10,3,9,11,12,13,14,15,16,17]<|vr 8 (True/\i6 (↑(Aa x)-1)/\ix ((Aa x:Int)-(1:Int)) (Aa x:Int) (zG x≠[])) (vs 96 (AG<|Ai (Ay ((Aa x:Int)-(1:Int))*3)<|zG x) (AG<|Ai ((Aa x-1)*3)<|zG x) (hd:=by simp(disch:=omega) only[htn])<|vr 3 (2<=2/\3<=Aa (Ai ((Aa x-1)*3)<|zG x))<|vs 97 (Az<|AB 3<|Ai ((Aa x-1)*3)<|zG x) (Az<|vaC<|Au x (Aa x-1) Ae) (hd:=by simp(disch:=omega) only[htv])<|vc hp0<|ve (aq_)<|zA<|zA ?_) ⟨trivial,(by omega),⟨(by omega),⟨(by omega),(by exact zE4 _)⟩⟩⟩;refine zB rfl<|veT<|vf<|vK<|zB rfl<|vr 5 (2<=2/\True/\Ac=Ac/\Ab=Ab/\2=2/\3<=3/\¬10∈[])<|vnil<|zD<|vN<|zB rfl<|vr 2 (i6 (↑i+1))<|vnil<|zC<|⟨i+1,by omega,by omega,?_⟩;rw[hsu,hbu];refine wkn (fr 137 [(0,Ad 4 0),(1,iD v),(5,(q22_ ch)),(6,Af 10 0 1 3 Ab),(11,Ad 10 0),(12,Ad 12 0),(13,iD 0),(34,Ak (Ah rowV rows) (Aa rows)),(35,iD (Aa rows)),(36,iD ↑(i+1)),(103,bD Ac),(105,Ad 10 0),(106,Az [bD desc,AE (WT.d (WT.put desc (vaX x) w WT.nil))]),(107,Ad 10 0),(108,Ad 10 1),(109,iD ↑(i+1))]) [(q26_ b),q27_,(q28_ b),(q29_ b),(q30_ b),Ag (Ah (zAl 10) (fA (Bd.n b) gv)) 170 1 Ab Ac AW,Ag (Ah (zAl 10) (fA (Bd.n b) λ(c:Nat)=>if c=v then AR 8 else gt c)) 177 1 Ab Ac AW,(q32_ b gu),q33_,(q34_ ch),Ag [(q35_ x),bD desc,AE (WT.d (WT.put desc (vaX x) w WT.nil))] 91 3 Ab Ac Aq,Ag [(q35_ x),bD desc,AE (WT.d WT.nil)] 91 3 Ab Ac Aq,Ag [bD desc,AE (WT.d (WT.put desc (vaX x) w WT.nil))] 57 0 Ac Ac Aq] ?_;rw[k5,k6];refine zA4 (N:=11) (4<11/\10<11/\True) rfl hnm2 (λk hk=>zDm k (by omega)) ?_ ⟨by omega,by omega,trivial⟩;refine vk 13 ?_;grind [zDm]
   rw [CX]at hl;obtain⟨uk,ud,ut⟩:=u;have hg:=g2 ⟨uk,ud,ut⟩ (by rw[hl];simp);obtain rfl:ud=desc:=hg.d;have hp0:=hpc ut hg.n hg.s;have huk:=hg.q.1;dsimp only at huk;have hk:l.length=m.length+1:=by rw[hl];simp
   have htk:((l.length:Int)-1).toNat=m.length:=by omega
   have hmC:(m.flatMap buC).length=m.length*3:=zDn zCg m;have hlC:(l.flatMap buC).length=l.length*3:=zDn zCg l;have hat:(l.flatMap buC).drop (m.length*3)=[.row (zG uk) uk.length,bD ud,ut.x]:=by
    grind
   have hat1:(l.flatMap buC).drop (m.length*3+1)=[bD ud,ut.x]:=by rw[<-List.drop_drop,hat];rfl
   have hs0:0<((l.flatMap buC).drop (m.length*3)).length:=by rw[hat];simp
   have hs1:2<=((l.flatMap buC).drop (m.length*3+1)).length:=by rw[hat1];simp
   by_cases heq:uk=kyX x
   ·have hrq:Pure AA 99 [.row (zG uk) uk.length, .row (zG (kyX x)) (x.length-1)] [] (bD Ab):=by
     have:=zFb uk (kyX x) uk.length (x.length-1) rfl hkl
     rwa[decide_eq_true heq]at this
    rw[hl,zMv _ _ _ _ _ _ heq]at hsu;have hup:buB (m++[⟨uk,ud,ut.put ud (vaX x) w⟩])=⟨((l.flatMap buC).set (m.length*3+1) (bD ud)).set (m.length*3+1+1) (ut.put ud (vaX x) w).x,91,3,Ab,Ac, .plain⟩:=by
     have e:((l.flatMap buC).set (m.length*3+1) (bD ud)).set (m.length*3+1+1) (ut.put ud (vaX x) w).x=(m++[(⟨uk,ud,ut.put ud (vaX x) w⟩:Bu)]).flatMap buC:=by
      rw[hl,Ch,Ch,Cb _ _ (by omega),Cb _ _ (by omega),hmC,show m.length*3+1-m.length*3=1 by omega,show m.length*3+1+1-m.length*3=2 by omega];rfl
     rw[e]
    have hnm2:=hnm (m++[⟨uk,ud,ut.put ud (vaX x) w⟩]);rw[hup]at hnm2;have hln2:(m++[(⟨uk,ud,ut.put ud (vaX x) w⟩:Bu)]).length=l.length:=by rw[hk];simp
    refine vAu<|zA<|vT ((i:Int)<↑(Aa rows))<|vKB<|vA<|vr 1 (ix ↑i ↑(Aa rows) (Ah rowV rows≠[]))<|vp 38 i (Ah rowV rows)<|vr 1 (0<Aa (Ai i<|Ah rowV rows))<|vsh 39 hhd<|veT<|vA<|vrT 3<|vnt [blI b,blX,blG b,blE b,blB b,blV<|fA (Bd.n b) gv,blT (fA (Bd.n b) λ(c:Nat)=>if c=v then AR 8 else gt c),blU<|fA (Bd.f b) gu,blM (177:TypeId) [] [],chfB<|Al chC ch,buB l]<|zZ [] [] [Ad 4 0,(q22_ ch),(q3_ x)] [Ad 4 0,(q22_ ch),(q3_ x)] (AX _) (by exact hwt) ?_;refine v0s<|veT<|zA<|vAe<|vEf ((Aa (dg w):Int)) ((0:Int))<|vK<|vA<|vr 5 (i6 (↑(Aa x)-1)/\True/\(0:Int)<=(Aa x:Int)-(1:Int)/\True/\0<3/\0<=Ay ((Aa x:Int)-(1:Int))/\Ay ((Aa x:Int)-(1:Int))<=Aa x/\Ay ((Aa x:Int)-(1:Int))=Ay ((Aa x:Int)-(1:Int)))<|vs 51 (Ak (AB ((Ay ((Aa x:Int)-(1:Int))-0)*3)<|Ai 0<|zG x) (Ay ((Aa x:Int)-(1:Int))-0)) (Ak (zG<|kyX x) (Aa x-1)) (hd:=by simp(disch:=omega) only[Nat.sub_zero,Bi,htn,hkx])<|veT<|zA<|vA<|vw 9 [] [(3,Ac)] (True/\((Aa l:Int)==(0:Int))=Ac/\i6 (↑(Aa l)-1)/\(0:Int)<=(Aa l:Int)-(1:Int)/\(Aa l:Int)-(1:Int)<(Aa l:Int)) (vs 60 (Ad 10 (0+Ay ((Aa l:Int)-(1:Int))*3)) (Ad 10 (Aa m*3)) (hd:=by simp(disch:=omega) only[BE,htk])<|vr 2 (True/\0<Aa (Ai (Aa m*3)<|Al buC l))<|vs 62 (A9 (Ai (Aa m*3)<|Al buC l) Uk) (Ak (zG uk)<|Aa uk) (hd:=by simp(disch:=omega) only[List.headD_cons,hat])<|vrT 1<|vc hrq<|veT<|vf<|zT<|zC ?_) ⟨trivial,(by exact decide_eq_false (by omega)),(by omega),(by omega)⟩;refine zCi<|vA<|vr 5 (i6 (↑(Aa l)-1)/\(0:Int)<=(Aa l:Int)-(1:Int)/\(Aa l:Int)-(1:Int)<(Aa l:Int))<|vs 86 (Ad 10 (0+Ay ((Aa l:Int)-(1:Int))*3)) (Ad 10 (Aa m*3)) (hd:=by simp(disch:=omega) only[BE,htk])<|veT<|zA<|vd [0,1,2,4,5,6,7,8,10,3,9,11,12,13,14,15,16,17]<|vr 8 (True/\i6 (↑(Aa x)-1)/\ix ((Aa x:Int)-(1:Int)) (Aa x:Int) (zG x≠[])) (vs 96 (AG<|Ai (Ay ((Aa x:Int)-(1:Int))*3)<|zG x) (AG<|Ai ((Aa x-1)*3)<|zG x) (hd:=by simp(disch:=omega) only[htn])<|vr 2 (2<=Aa (Ai (Aa m*3+1)<|Al buC l))<|vs 91 (Az<|AB 2<|Ai (Aa m*3+1)<|Al buC l) (Az [bD ud,WT.x ut]) (hd:=by simp(disch:=omega) only[List.take_succ_cons,List.take_nil,hat1])<|vr 1 (3<=Aa (Ai ((Aa x-1)*3)<|zG x))<|vs 97 (Az<|AB 3<|Ai ((Aa x-1)*3)<|zG x) (Az<|vaC<|Au x (Aa x-1) Ae) (hd:=by simp(disch:=omega) only[htv]) ?_) ⟨trivial,(by omega),⟨(by omega),⟨(by omega),(by exact zE4 _)⟩⟩⟩;refine vc hp0<|ve (aq_)<|zA<|vAe<|vf<|vK<|zB rfl<|vr 5 (2<=2/\True/\Ac=Ac/\Ab=Ab/\2=2/\Aa m*3+1+2<=Aa (Al buC l)/\¬10∈[])<|vnil<|zD<|vN<|zB rfl<|vr 2 (i6 (↑i+1))<|vnil<|zC<|⟨i+1,by omega,by omega,?_⟩;rw[hsu,hln2,hup];refine wkn (fr 137 [(0,Ad 4 0),(1,iD v),(5,(q22_ ch)),(6,Af 10 0 (Aa l) (Aa l*3) Ab),(11,Ad 10 (Aa m*3)),(12,Ad 11 0),(13,iD 0),(34,Ak (Ah rowV rows) (Aa rows)),(35,iD (Aa rows)),(36,iD ↑(i+1)),(103,bD Ac),(105,Ad 10 (Aa m*3)),(106,Az [bD ud,AE (WT.d (WT.put ud (vaX x) w ut))]),(107,Ad 10 (Aa m*3)),(108,Ad 10 (Aa m*3+1)),(109,iD ↑(i+1))]) [(q26_ b),q27_,(q28_ b),(q29_ b),(q30_ b),(q31_ b gv),Ag (fA (Bd.n b) λ(c:Nat)=>if c=v then AR 8 else gt c) 177 1 Ab Ac AW,(q32_ b gu),q33_,(q34_ ch),Ag (Ci (Ci (Al buC l) (Aa m*3+1) (bD ud)) (Aa m*3+1+1) (AE (WT.d (WT.put ud (vaX x) w ut)))) 91 3 Ab Ac Aq,Ag [bD ud,AE (WT.d (WT.put ud (vaX x) w ut))] 57 0 Ac Ac Aq] ?_;refine zA4 (N:=11) (4<11/\10<11/\True) rfl hnm2 (λk hk=>zDm k (by omega)) ?_ ⟨by omega,by omega,trivial⟩;refine vk 12 ?_;grind [zDm]
   have hrq:Pure AA 99 [.row (zG uk) uk.length, .row (zG (kyX x)) (x.length-1)] [] (bD Ac):=by
    have:=zFb uk (kyX x) uk.length (x.length-1) rfl hkl
    grind
   rw[hl,zMu _ _ _ _ _ _ heq,<-hl]at hsu;have hp1:=hpc .nil (BD _) (BD _);have hdr1:∀A B E:D,(l.flatMap buC++[A,B,E]).drop (l.length*3+1)=[B,E]:=λA B E=>by
    rw[<-List.drop_drop,<-hlC,List.drop_left];rfl
   have hup:buB (l++[⟨kyX x,ud,WT.nil.put ud (vaX x) w⟩])=⟨((l.flatMap buC++[.row (zG (kyX x)) (x.length-1),bD ud,WT.nil.x]).set (l.length*3+1) (bD ud)).set (l.length*3+1+1) (WT.nil.put ud (vaX x) w).x,91,3,Ab,Ac, .plain⟩:=by
    have e:((l.flatMap buC++[.row (zG (kyX x)) (x.length-1),bD ud,WT.nil.x]).set (l.length*3+1) (bD ud)).set (l.length*3+1+1) (WT.nil.put ud (vaX x) w).x=(l++[(⟨kyX x,ud,WT.nil.put ud (vaX x) w⟩:Bu)]).flatMap buC:=by
     rw[Ch,Cb _ _ (by omega),Cb _ _ (by omega),hlC,show l.length*3+1-l.length*3=1 by omega,show l.length*3+1+1-l.length*3=2 by omega];simp_all
    rw[e]
   have hnm2:=hnm (l++[⟨kyX x,ud,WT.nil.put ud (vaX x) w⟩]);rw[hup]at hnm2;have hln2:(l++[(⟨kyX x,ud,WT.nil.put ud (vaX x) w⟩:Bu)]).length=l.length+1:=by simp
   have hs2:∀A B E:D,2<=((l.flatMap buC++[A,B,E]).drop (l.length*3+1)).length:=λA B E=>by rw[hdr1];simp
   have hs3:∀A B E:D,l.length*3+1+2<=(l.flatMap buC++[A,B,E]).length:=λA B E=>by simp[hlC]
   have htl:(((l.length+1:Nat):Int)-1).toNat=l.length:=by omega
   refine vAu<|zA<|vT ((i:Int)<↑(Aa rows))<|vKB<|vA<|vr 1 (ix ↑i ↑(Aa rows) (Ah rowV rows≠[]))<|vp 38 i (Ah rowV rows)<|vr 1 (0<Aa (Ai i<|Ah rowV rows))<|vsh 39 hhd<|veT<|vA<|vrT 3<|vnt [blI b,blX,blG b,blE b,blB b,blV<|fA (Bd.n b) gv,blT (fA (Bd.n b) λ(c:Nat)=>if c=v then AR 8 else gt c),blU<|fA (Bd.f b) gu,blM (177:TypeId) [] [],chfB<|Al chC ch,buB l]<|zZ [] [] [Ad 4 0,(q22_ ch),(q3_ x)] [Ad 4 0,(q22_ ch),(q3_ x)] (AX _) (by exact hwt) ?_;refine v0s<|veT<|zA<|vAe<|vEf ((Aa (dg w):Int)) ((0:Int))<|vK<|vA<|vr 5 (i6 (↑(Aa x)-1)/\True/\(0:Int)<=(Aa x:Int)-(1:Int)/\True/\0<3/\0<=Ay ((Aa x:Int)-(1:Int))/\Ay ((Aa x:Int)-(1:Int))<=Aa x/\Ay ((Aa x:Int)-(1:Int))=Ay ((Aa x:Int)-(1:Int)))<|vs 51 (Ak (AB ((Ay ((Aa x:Int)-(1:Int))-0)*3)<|Ai 0<|zG x) (Ay ((Aa x:Int)-(1:Int))-0)) (Ak (zG<|kyX x) (Aa x-1)) (hd:=by simp(disch:=omega) only[Nat.sub_zero,Bi,htn,hkx])<|veT<|zA<|vA<|vw 9 [] [(3,Ac)] (True/\((Aa l:Int)==(0:Int))=Ac/\i6 (↑(Aa l)-1)/\(0:Int)<=(Aa l:Int)-(1:Int)/\(Aa l:Int)-(1:Int)<(Aa l:Int)) (vs 60 (Ad 10 (0+Ay ((Aa l:Int)-(1:Int))*3)) (Ad 10 (Aa m*3)) (hd:=by simp(disch:=omega) only[BE,htk])<|vr 2 (True/\0<Aa (Ai (Aa m*3)<|Al buC l))<|vs 62 (A9 (Ai (Aa m*3)<|Al buC l) Uk) (Ak (zG uk)<|Aa uk) (hd:=by simp(disch:=omega) only[List.headD_cons,hat])<|vrT 1<|vc hrq<|veT<|vt<|vd [0,1,3,4,5,6,8,2,7,9,10,11,12,13,14,15]<|vr 7 (True/\True) ?_) ⟨trivial,(by exact decide_eq_false (by omega)),(by omega),(by omega)⟩;refine vc hcln<|vr 2 (0<8/\ix ↑v (Aa (Bd.desc b):Int) (Ah bD (Bd.desc b)≠[]))<|vp 76 v (Ah bD<|Bd.desc b)<|vr 1 (0<Aa (Ai v<|Ah bD<|Bd.desc b))<|vsh 77 hdes<|vc (wnew_c ud)<|ve (((1=1/\1<=3/\2=2/\3<=3/\True)/\Ab=Ab)/\((3=3/\3<=3/\True)/\0<3/\3=3/\3<=16777216/\1<=9223372036854775807)/\Ab=Ab/\Aa (Al buC l)=Aa l*3/\Aa l*3=Aa l*3/\91=91/\3=3/\3=3/\0<3/\0<40/\91=91/\(Aa l+1)*40<=140737488355328/\3=3/\Bc Aq=Ac/\(Ac=Ac\/Bf Aq=Ab))<|vA<|vr 5 (i6 (↑(Aa l+1)-1)/\(0:Int)<=(↑(Aa l+1):Int)-(1:Int)/\(↑(Aa l+1):Int)-(1:Int)<(↑(Aa l+1):Int))<|vs 86 (Ad 10 (0+Ay ((↑(Aa l+1):Int)-(1:Int))*3)) (Ad 10 (Aa l*3)) (hd:=by simp(disch:=omega) only[BE,htl])<|veT<|zA<|vd [0,1,2,4,5,6,7,8,10,3,9,11,12,13,14,15,16,17]<|vr 8 (True/\i6 (↑(Aa x)-1)/\ix ((Aa x:Int)-(1:Int)) (Aa x:Int) (zG x≠[])) (vs 96 (AG<|Ai (Ay ((Aa x:Int)-(1:Int))*3)<|zG x) (AG<|Ai ((Aa x-1)*3)<|zG x) (hd:=by simp(disch:=omega) only[htn])<|vr 2 (2<=Aa (Ai (Aa l*3+1) (Al buC l++[Ak (zG<|kyX x) (Aa x-1),bD ud,AE<|Ap<|Cp AL]))) (vs 91 (Az<|AB 2<|Ai (Aa l*3+1) (Al buC l++[Ak (zG<|kyX x) (Aa x-1),bD ud,AE<|Ap<|Cp AL])) (Az [bD ud,AE<|Ap<|Cp AL]) (hd:=by simp(disch:=omega) only[List.take_succ_cons,List.take_nil,hdr1])<|vr 1 (3<=Aa (Ai ((Aa x-1)*3)<|zG x))<|vs 97 (Az<|AB 3<|Ai ((Aa x-1)*3)<|zG x) (Az<|vaC<|Au x (Aa x-1) Ae) (hd:=by simp(disch:=omega) only[htv])<|vc hp1<|ve (aq_)<|zA<|vAe<|vf<|zT ?_) (by exact hs2 _ _ _)) ⟨trivial,(by omega),⟨(by omega),⟨(by omega),(by exact zE4 _)⟩⟩⟩;refine vN<|zB rfl<|vr 5 (2<=2/\True/\Ac=Ac/\Ab=Ab/\2=2/\Aa l*3+1+2<=Aa (Al buC l++[(q35_ x),bD ud,AE<|Ap<|Cp AL])/\¬10∈[]) (vnil<|zD<|vN<|zB rfl<|vr 2 (i6 (↑i+1))<|vnil<|zC ?_) ⟨(by omega),trivial,⟨(by kernel_rfl),⟨(by kernel_rfl),⟨(by kernel_rfl),⟨(by exact hs3 _ _ _),(by decide)⟩⟩⟩⟩⟩;refine⟨i+1,by omega,by omega,?_⟩;rw[hsu,hln2,hup];refine wkn (fr 137 [(0,Ad 4 0),(1,iD v),(5,(q22_ ch)),(6,Af 10 0 (Aa l+1) ((Aa l+1)*3) Ab),(11,Ad 10 (Aa l*3)),(12,Ad 12 0),(13,iD 0),(34,Ak (Ah rowV rows) (Aa rows)),(35,iD (Aa rows)),(36,iD ↑(i+1)),(103,bD Ac),(105,Ad 10 (Aa l*3)),(106,Az [bD ud,AE (WT.d (WT.put ud (vaX x) w WT.nil))]),(107,Ad 10 (Aa l*3)),(108,Ad 10 (Aa l*3+1)),(109,iD ↑(i+1))]) [(q26_ b),q27_,(q28_ b),(q29_ b),(q30_ b),Ag (Ah (zAl 10) (fA (Bd.n b) gv)) 170 1 Ab Ac AW,Ag (Ah (zAl 10) (fA (Bd.n b) λ(c:Nat)=>if c=v then AR 8 else gt c)) 177 1 Ab Ac AW,(q32_ b gu),q33_,(q34_ ch),Ag (Ci (Ci (Al buC l++[(q35_ x),bD ud,AE (Ap (Cp AL))]) (Aa l*3+1) (bD ud)) (Aa l*3+1+1) (AE (WT.d (WT.put ud (vaX x) w WT.nil)))) 91 3 Ab Ac Aq,Ag [(q35_ x),bD ud,AE (WT.d WT.nil)] 91 3 Ab Ac Aq,Ag [bD ud,AE (WT.d (WT.put ud (vaX x) w WT.nil))] 57 0 Ac Ac Aq] ?_;rw[k5,k6];refine zA4 (N:=11) (4<11/\10<11/\True) rfl hnm2 (λk hk=>zDm k (by omega)) ?_ ⟨by omega,by omega,trivial⟩;refine vk 13 ?_;grind [zDm]
  obtain rfl:i=rows.length:=by omega
  rw[Bq];obtain⟨g1,g2⟩:=hgo rows.length;rw[Bq]at g1 g2;generalize hGg:grpL desc (λx=>wtL b.f VT TT x ch) rows=l at*;generalize hsi:sumW (λx=>wtL b.f VT TT x ch) rows=sw at*;refine vAu<|zA<|vF ((Aa rows:Int)<↑(Aa rows))<|vZ2<|zA<|vAe<|zJ<|zK (λ(j:Nat)=>fr 137 [(0,Ad 4 0),(1,iD v),(6,Af 10 0 (Aa l) (Aa l*3) Ab),(110,Af 10 0 (Aa l) (Aa l*3) Ab),(111,iD<|Aa l),(112,iD j)]) (λ(j:Nat)=>[blI b,blX,blG b,blE b,blB b,blV<|fA b.n gv,blT (fA b.n λc=>if c=v then .mref 8 else gt c),blU<|fA b.f gu,mapT<|totL<|l.take j,chfB<|ch.flatMap chC,buB l]) (λ(j:Nat)=>l.length-j) (λ(j:Nat)=>j<=l.length) 0 ?_ ?_ ?_
  ·omega
  ·rw[show totL (l.take 0)=[]from rfl];refine vk 11 ?_;grind [zDm]
  intro j h4;rcases AQ j l.length with h5|h5
  ·have hgt2:=zC0 zCg l j h5;have hgle:=zFw zCg l j h5;have hmem:l.getD j Ae∈l:=by rw[A3,AS h5];exact A8 h5
   have hg:=g2 _ hmem;have hsu:=totL_succ l j h5;generalize hKj:totL (l.take j)=K at*;generalize l.getD j Ae=u at*;have hq1:=hg.q.1;have hid:=zCs u.key u.key.length rfl hg.q.2;have htot:=wtotal_c u.desc u.t (hsum.le hg.s);have hmp:=mput_t K u.key u.t.tot;have hget:((fA b.n λc=>if c=v then .mref 8 else gt c).drop v).headD .unk= .mref 8:=by rw[zD7 hvn];exact if_pos rfl
   have hps:=zCd (g:=λc=>if c=v then .mref 8 else gt c) hvn;have hnm2:∀e∈[blI b,blX,blG b,blE b,blB b,blV (fA b.n gv),blT (fA b.n λc=>if c=v then .mref 8 else gt c),blU (fA b.f gu),mapT (tput K u.key u.t.tot),chfB (ch.flatMap chC),buB l],namB 11 e:=zHf (by omega) (hgv1 11 (by omega)) (hgt1 11 (by omega)) λe he=>by
    simp only[Bz,B5,or_false]at he;rcases he with rfl|rfl|rfl<;>exact .inl rfl
   refine vAu (zA (vT ((j:Int)<↑(Aa l)) (vKB (vA (vr 1 ((0:Int)<=(j:Int)/\(j:Int)<↑(Aa l)) (vo0 114 10 (j*3) (vr 1 (3<=Aa (Ai (j*3) (AM (buB l)))) (vs 115 (Az (AB 3 (Ai (j*3) (AM (buB l))))) (Az (buC u)) (ve (am_) (vd [0,1,2,4,7,10,3,5,6,8,9,11,12,13] (vr 8 (True/\True/\True/\0<2/\(0:Int)<=(v:Int)/\(v:Int)<↑(Bd.n b)) (vo 121 6 v (vr 1 (0<Aa (Ai v (AM (blT (fA (Bd.n b) λ(c:Nat)=>if c=v then AR 8 else gt c))))) (vsh 122 hget (vr 1 (0<3) (vc hid (vr 1 (2<=2) (vc htot (vr 1 (BB (mapT K)=Ac/\zW (Bj (Bl Bm "string" 1 16 Ab 8 8 (As (AJ (AZ #[]))) Ab #[])) (AJ (bs (idR (Bu.key u))))=Ab/\BN (Ah (λ(p:List Va×Nat)=>kyv (Am p)) K) (zW (Bj (Bl Bm "string" 1 16 Ab 8 8 (As (AJ (AZ #[]))) Ab #[])))=Ab/\¬8∈[]) ?_ ⟨(by kernel_rfl),⟨(by kernel_rfl),⟨(by exact zGc _),(by decide)⟩⟩⟩)))))))))))))))))));refine vb 8 (mput (mapT K) (Ah (λ(p:List Va×Nat)=>kyv (Am p)) K) (AJ (bs (idR (Bu.key u)))) (natD (WT.tot (Bu.t u)))) (mapT (tput K (Bu.key u) (WT.tot (Bu.t u)))) (vnil (zD (vN (zB rfl (vr 2 (i6 (↑j+1)) (vnil (zC (⟨j+1,by omega,by omega,?_⟩))))))));rw[hsu];refine wkn (fr 137 [(0,Ad 4 0),(1,iD v),(6,Af 10 0 (Aa l) (Aa l*3) Ab),(15,Ad 11 0),(110,Af 10 0 (Aa l) (Aa l*3) Ab),(111,iD (Aa l)),(112,iD ↑(j+1)),(116,Ad 4 0),(117,Ad 4 0),(118,Ad 4 8),(119,Af 6 0 (Bd.n b) (Bd.n b) Ab),(120,iD v),(121,Ad 6 v),(122,AR 8),(123,Ad 11 0),(124,(q36_ u)),(125,Ap (AJ (bs (idR (Bu.key u))))),(126,Ad 11 1),(127,Az [bD (Bu.desc u),AE (WT.d (Bu.t u))]),(128,natD (WT.tot (Bu.t u))),(129,iD ↑(j+1))]) [blI b,blX,blG b,blE b,blB b,blV (fA (Bd.n b) gv),blT (fA (Bd.n b) λ(c:Nat)=>if c=v then AR 8 else gt c),blU (fA (Bd.f b) gu),mapT (tput K (Bu.key u) (WT.tot (Bu.t u))),chfB (Al chC ch),buB l,Ag [(q36_ u),bD (Bu.desc u),AE (WT.d (Bu.t u))] 91 0 Ac Ac Aq] ?_;refine zA4 (N:=11) (4<11/\10<11/\10<11/\True) rfl hnm2 (λk hk=>zDm k (by omega)) ?_ ⟨by omega,by omega,by omega,trivial⟩;refine vk 12 ?_;grind [zDm]
  obtain rfl:j=l.length:=by omega
  rw[Bq];have hall:=zPd zCg l l.length rfl;have hsu:(fA b.f gu).set v (busD l)=fA b.f λc=>if c=v then busD l else gu c:=zEx
  have hful:(fA b.f gu).length=b.f:=zEy;refine vAu<|zA<|vF ((Aa l:Int)<↑(Aa l))<|vZ2<|vA<|vr 7 (True/\0<1/\(0:Int)<=(v:Int)/\(v:Int)<↑(Bd.f b))<|vo 136 7 v<|vr 1 (BB (blU<|fA (Bd.f b) gu)=Ac/\Ab=Ab/\1=1/\v+1<=Aa (AM<|blU<|fA (Bd.f b) gu)/\¬7∈[10])<|vb 7 (Ag (setAt (AM<|blU<|fA (Bd.f b) gu) v<|cellsOf<|Ak (AB (Aa l*3)<|Ai 0<|AM<|buB l)<|Aa l) (A_<|blU<|fA (Bd.f b) gu) (Ba<|blU<|fA (Bd.f b) gu) Ab Ac<|A1<|blU<|fA (Bd.f b) gu) (Ag (fA (Bd.f b) λ(c:Nat)=>if c=v then busD l else gu c) (88:TypeId) 1 Ab Ac Aq)<|veT<|vAe<|zE<|zN (True) [q2_] (.inr rfl) ?_;exact⟨by kernel_rfl,by kernel_rfl⟩
 generalize grpL (b.desc.getD v Ac) (λx=>wtL b.f VT TT x (chV b v)) (b.R.getD v Ae).2=l;have e2:(fA b.n λc=>if c=v then .mref 8 else gt c).set v (zGv (totL l))=fA b.n λc=>if c=v then zGv (totL l)else gt c:=by
  simp_all [zEx,zB8]
 have hw:=Co (T:=Tre) (sl:=[iD 0]) (st:=[blI b,blX,blG b,blE b,blB b,blV (fA b.n gv),blT (fA b.n λc=>if c=v then .mref 8 else gt c),blU (fA b.f λc=>if c=v then busD l else gu c),mapT (totL l),chfB ((chV b v).flatMap chC),{buB l with fz:=Ab}]) (j:=6) (i:=v) (d:= .mref 8) (x:=zGv (totL l)) (ks:=[8]) rfl rfl rfl (by rw[zYv hvn];exact congrArg As (if_pos rfl)) rfl (by decide);refine hw.trans ?_;show Weak Tre _ ([blI b,blX,blG b,blE b,blB b,blV (fA b.n gv),blT ((fA b.n λc=>if c=v then .mref 8 else gt c).set v (zGv (totL l))),blU (fA b.f λc=>if c=v then busD l else gu c)]++[{mapT (totL l)with fz:=Ab},chfB ((chV b v).flatMap chC),{buB l with fz:=Ab}]) _ _;rw[e2];refine zHo (N:=8) rfl (zHf (AV _) (zE0.2 h.gw) (zE0.2 λc hc j hj=>?_) (by simp)) (by intro j hj;cases hj) zDm;split
 ·rfl
 exact h.tw c hc j hj
def rone(L:List Bg)(f:Nat)(VT:Nat->List Rw)(TT:Nat->List (Rw×Nat))(v:Nat):Nat:=if 0<=(L.getD v Ae).p then 1 else if v<f then(tlk (TT v) []).getD 0 else if VT v=[]then 0 else 1
def rtL(L:List Bg)(f:Nat)(VT:Nat->List Rw)(TT:Nat->List (Rw×Nat))(i:Nat):Nat:=((AK i).map (rone L f VT TT)).foldl (· *·) 1
theorem zXd(L:List Bg)(f:Nat)(VT:Nat->List Rw)(TT:Nat->List (Rw×Nat))(i:Nat):rtL L f VT TT (i+1)=rtL L f VT TT i*rone L f VT TT i:=by
 grind [rtL,BX]
theorem rtL_bad{L:List Bg}{p:Nat}(h:p<n)(hb:rone L f VT TT p=0):rtL L f VT TT n=0:=by
 induction n with
 |zero=>omega
 |succ n ih=>
  rw[zXd];grind
def rbad(L:List Bg)(f:Nat)(VT:Nat->List Rw)(v:Nat):Bool:=decide ((L.getD v Ae).p<0)&&decide (f<=v)&&decide (VT v=[])
def zPp(A:List (List Nat×List Rw)):Bool:=A.any λa=>decide (a.2=[])
def totB(b:Bd)(VT:Nat->List Rw)(TT:Nat->List (Rw×Nat)):Nat:=if zPp b.A then 0 else rtL b.L b.f VT TT b.L.length
def Tto:Par:=⟨λ_=>Ac,λ_ _=>AL,λk=>decide (k<8),λo=>match o with
 | .call {callee:= .builtin .len,argTypes:=t,..}=>t==#[170]
 |_=>Ac,λ_=>Ac⟩
theorem Tto_ok:zA9 AA Tto:=by intro t n f h;cases h
theorem keepO(h:st.length=8):∀k,k<st.length->Tto.keep k=true:=λk hk=>by
 show decide (k<8)=Ab;rw[decide_eq_true_eq];omega
theorem zFu:∀k,8<=k->Tto.keep k=false:=λk hk=>by
 show decide (k<8)=Ac;rw[decide_eq_false_iff_not];omega
abbrev atK(a:List Nat×List Rw):Bk:=⟨atR a,87,0,Ac,Ac, .plain⟩
abbrev bgK1(c:Bg):Bk:=⟨bgC c,99,0,Ac,Ac, .plain⟩
abbrev q37_(x0:Bg):=Ag [iD ↑(Bg.v x0),dig (A2 x0),iD (A4 x0)] 99 0 Ac Ac Aq
theorem total_c(b:Bd)(gv gt:Nat->D)(VT:Nat->List Rw)(TT:Nat->List (Rw×Nat))(c7:List D)(hn:b.n<=1000)(hL:b.L.length=b.n)(hA:b.A.length<=1000)(hAl:∀a∈b.A,a.2.length<=65536)
  (hv:∀v,v<b.n->b.f<=v->(b.L.getD v Ae).p<0->gv v=zHq (VT v))(ht:∀v,v<b.n->v<b.f->(b.L.getD v Ae).p<0->gt v=zGv (TT v))
  (hS:∀i,i<=b.n->Sm (rtL b.L b.f VT TT i))(hS1:∀v,v<b.n->∀p∈TT v,Sm p.2)
  (hgw:∀c,c<b.n->∀j,8<=j->refs j (gv c)=Ac)(htw:∀c,c<b.n->∀j,8<=j->refs j (gt c)=Ac):
  Acts AA 53 [.own 4 0] [blI b,blX,blG b,blE b,blB b,blV (fA b.n gv),blT (fA b.n gt),blU c7] [] (natD (totB b VT TT)) [blI b,blX,blG b,blE b,blB b,blV (fA b.n gv),blT (fA b.n gt),blU c7]:=by
 have hnm:∀e∈[blI b,blX,blG b,blE b,blB b,blV (fA b.n gv),blT (fA b.n gt),blU c7],namB 8 e:=zHf (AV _) (zE0.2 hgw) (zE0.2 htw) (by simp);have hac:∀a:List Nat×List Rw,(atR a).length=3:=λ_=>rfl;have hbc:∀c:Bg,(bgC c).length=3:=λ_=>rfl;obtain⟨m1,m2,res,bs,hres,hm1,hgood1,hm2,hgood2,hend⟩:∃(m1 m2:Nat)(res:D)(bs:List Bk),LeD res (natD (totB b VT TT))/\m1<=b.A.length/\(∀j,j<m1->0<(b.A.getD j Ae).2.length)/\m2<=b.L.length/\(∀j,j<m2->rbad b.L b.f VT j=Ac)/\
   ((m1<b.A.length/\(b.A.getD m1 Ae).2=[]/\res= .val (.slice AL 0 0)/\bs=[atK (b.A.getD m1 Ae)])\/(m1=b.A.length/\m2=b.L.length/\res=natD (rtL b.L b.f VT TT b.L.length)/\bs=[])\/(m1=b.A.length/\m2<b.L.length/\rbad b.L b.f VT m2=Ab/\res= .val (.slice AL 0 0)/\bs=[bgK1 (b.L.getD m2 Ae)])):=by
  by_cases h1:∃p,p<b.A.length/\decide ((b.A.getD p Ae).2=[])=Ab
  ·obtain⟨p,hp,hpb,hmin⟩:=zDf (p:=λi=>decide ((b.A.getD i Ae).2=[])) h1;have hpb2:(b.A.getD p Ae).2=[]:=by simpa using hpb
   have e:totB b VT TT=0:=by
    grind [totB,zPp,CI,AS,A8]
   refine⟨p,0,_,_,by rw[e];exact zMe,by omega,λj hj=>?_,BD _,λj hj=>by omega, .inl ⟨hp,hpb2,rfl,rfl⟩⟩;grind
  have hall:∀j,j<b.A.length->0<(b.A.getD j Ae).2.length:=λj hj=>Ct.2 λhh=>h1 ⟨j,hj,by simpa using hh⟩;have e:totB b VT TT=rtL b.L b.f VT TT b.L.length:=by
   grind [totB,zPp,CI,Cd,AS]
  by_cases h2:∃p,p<b.L.length/\rbad b.L b.f VT p=Ab
  ·obtain⟨p,hp,hpb,hmin⟩:=zDf h2;refine⟨b.A.length,p,_,_,?_,AV _,hall,by omega,hmin, .inr (.inr ⟨rfl,hp,hpb,rfl,rfl⟩)⟩;rw[e,rtL_bad (TT:=TT) hp]
   ·exact zMe
   unfold rbad at hpb;simp only[Cj,decide_eq_true_eq]at hpb;grind [rone]
  refine⟨b.A.length,b.L.length,_,_,by rw[e];exact BW _,AV _,hall,AV _,λj hj=>?_, .inr (.inl ⟨rfl,rfl,rfl,rfl⟩)⟩;grind
 refine Acts.res (x:=res) ?_ hres;refine Acts.cutN (bs:=bs) ?_ (AV _) hnm (λj hj=>by rcases hend with⟨_,_,rfl,_⟩|⟨_,_,rfl,_⟩|⟨_,_,_,rfl,_⟩<;>rfl);obtain⟨one,e1⟩:∃o:Nat,o=1:=⟨1,rfl⟩;have hof:Pure AA 36 [.val (.int .u64 1)] [] (natD one):=by subst e1;exact of_c 1 (by decide)
 have hw0:rtL b.L b.f VT TT 0=one:=e1.symm;refine zQ Tto_ok mixed Tryz.func53 rfl (keepO rfl)<|vAu<|zA<|vA<|ve (True/\True/\0<6)<|zJ<|zK (λ(i:Nat)=>fr 66 [(0,Ad 4 0),(12,Ak (Al atR<|Bd.A b)<|Aa<|Bd.A b),(13,iD (Aa (Bd.A b):Int)),(14,iD (i:Int))]) (λ(i:Nat)=>[blI b,blX,blG b,blE b,blB b,blV<|fA b.n gv,blT<|fA b.n gt,blU c7]) (λ(i:Nat)=>m1-i) (λ(i:Nat)=>i<=m1) 0 ?_ ?_ ?_
 ·omega
 ·refine vk 8 ?_;all_goals exact zFu
 intro i h1;rcases AQ i m1 with h3'|h3'
 ·have h3:i<b.A.length:=by omega
  have hg2:=zC0 hac b.A i h3;have hle:=zFw hac b.A i h3;have hne:=zDe hac (by decide) b.A;have hgd:=hgood1 i h3';generalize b.A.getD i Ae=a at*;have hlen:=zKj (a.1.length:Nat) (a.2.map rowV) a.2.length;refine vAu<|zA<|vT ((i:Int)<(Aa (Bd.A b):Int))<|vKB<|vA<|vr 2 (ix ↑i (Aa (Bd.A b):Int) (Al atR (Bd.A b)≠[])/\3<=Aa (Ai (i*3)<|Al atR<|Bd.A b))<|vs 17 (Az<|AB 3<|Ai (i*3)<|Al atR<|Bd.A b) (Az<|atR a)<|ve (am_)<|vA<|vr 2 (True/\2<=2)<|vc hlen<|veT<|vEf ((Aa (Aw a):Int)) ((0:Int))<|zT<|zD<|vN<|zB rfl<|vr 2 (i6 (↑i+1))<|vnil<|zC<|⟨i+1,by omega,by omega,?_⟩;refine wkn (fr 66 [(0,Ad 4 0),(12,(q21_ b)),(13,iD (Aa (Bd.A b):Int)),(14,iD ↑(i+1)),(21,bD ((Aa (Aw a):Int)==(0:Int))),(22,iD ↑(i+1))]) [blI b,blX,blG b,blE b,blB b,blV (fA (Bd.n b) gv),blT (fA (Bd.n b) gt),blU c7,Ag [Ak (nsD (Am a)) (Aa (Am a)),iD (Aa (Am a):Int),Ak (Ah rowV (Aw a)) (Aa (Aw a))] 87 0 Ac Ac Aq] ?_;refine zA4 (N:=8) (4<8/\True) rfl hnm (λk hk=>zFu k (by omega)) ?_ ⟨by omega,trivial⟩;refine vk 9 ?_;grind [zFu]
 obtain rfl:i=m1:=by omega
 rcases hend with⟨h3,he,rfl,rfl⟩|hend
 ·have hg2:=zC0 hac b.A i h3;have hle:=zFw hac b.A i h3;have hne:=zDe hac (by decide) b.A;generalize b.A.getD i Ae=a at*;have hl0:a.2.length=0:=by rw[he];rfl
  have hlen:=zKj (a.1.length:Nat) (a.2.map rowV) a.2.length;refine vAu<|zA<|vT ((i:Int)<(Aa (Bd.A b):Int))<|vKB<|vA<|vr 2 (ix ↑i (Aa (Bd.A b):Int) (Al atR (Bd.A b)≠[])/\3<=Aa (Ai (i*3)<|Al atR<|Bd.A b))<|vs 17 (Az<|AB 3<|Ai (i*3)<|Al atR<|Bd.A b) (Az<|atR a)<|ve (am_)<|vA<|vr 2 (True/\2<=2)<|vc hlen<|veT<|vEt ((Aa (Aw a):Int)) ((0:Int))<|vAe<|zE<|zL<|zH<|zH<|zL<|zH<|zN (True) [nl] (.inr rfl) ?_;exact⟨by kernel_rfl,by kernel_rfl⟩
 have hi:i=b.A.length:=by rcases hend with⟨h,_⟩|⟨h,_⟩<;>exact h
 subst hi;refine vAu<|zA<|vF ((Aa (Bd.A b):Int)<(Aa (Bd.A b):Int))<|vZ2<|vA<|vc hof<|veT<|zA<|vA<|ve (aA_)<|zJ<|zK (λ(j:Nat)=>fr 66 [(0,Ad 4 0),(5,natD<|rtL (Bd.L b) (Bd.f b) VT TT j),(27,(q17_ b)),(28,iD (Aa (Bd.L b):Int)),(29,iD j)]) (λ(j:Nat)=>[blI b,blX,blG b,blE b,blB b,blV<|fA b.n gv,blT<|fA b.n gt,blU c7]) (λ(j:Nat)=>m2-j) (λ(j:Nat)=>j<=m2) 0 ?_ ?_ ?_
 ·omega
 ·rw[hw0];refine vk 8 ?_;all_goals exact zFu
 have hidn:Pure AA 59 [.val (.slice AL 0 0)] [] (strD (idR [])):=(zCs [] 0 rfl (by intro v hv;cases hv)).le (.cons LeD.nil_row .nil);intro j h2;rcases AQ j m2 with h4'|h4'
 ·have h4:j<b.L.length:=by omega
  have hjn:j<b.n:=by omega
  have hg2:=zC0 hbc b.L j h4;have hle:=zFw hbc b.L j h4;have hne:=zDe hbc (by decide) b.L;have hgd:=hgood2 j h4';have hsu:=zXd b.L b.f VT TT j;have hvj:=hv j hjn;have htj:=ht j hjn;have hsj:=hS j (by omega);unfold rbad at hgd;unfold rone at hsu;generalize b.L.getD j Ae=c at*;by_cases hp:0<=c.p
  ·rw[if_pos hp,Bn]at hsu;refine vAu<|zA<|vT ((j:Int)<(Aa (Bd.L b):Int))<|vKB<|vA<|vr 3 (ix ↑j (Aa (Bd.L b):Int) (Al bgC (Bd.L b)≠[])/\3<=Aa (Ai (j*3)<|Al bgC<|Bd.L b))<|vs 33 (Az<|AB 3<|Ai (j*3)<|Al bgC<|Bd.L b) (Az<|bgC c)<|ve (am_)<|zA<|vA<|ve (ar_)<|vT (A4 c>=(0:Int))<|vZ<|zB rfl<|vr 2 (i6 (↑j+1))<|vnil<|zC<|⟨j+1,by omega,by omega,?_⟩;rw[hsu];refine wkn (fr 66 [(0,Ad 4 0),(5,natD (rtL (Bd.L b) (Bd.f b) VT TT j)),(6,iD j),(27,(q17_ b)),(28,iD (Aa (Bd.L b):Int)),(29,iD ↑(j+1)),(36,bD (decide (A4 c>=(0:Int)))),(64,iD ↑(j+1))]) [blI b,blX,blG b,blE b,blB b,blV (fA (Bd.n b) gv),blT (fA (Bd.n b) gt),blU c7,(q37_ c)] ?_;refine zA4 (N:=8) (4<8/\True) rfl hnm (λk hk=>zFu k (by omega)) ?_ ⟨by omega,trivial⟩;refine vk 9 ?_;grind [zFu]
  rw [if_neg hp]at hsu;by_cases hf:j<b.f
  ·rw[if_pos hf]at hsu;have hgt:((fA b.n gt).drop j).headD .unk=zGv (TT j):=by rw[zD7 hjn];exact htj hf (by omega)
   have hps:=zCd (g:=gt) hjn;have hlk:=look_t (.val (.slice AL 0 0)) (TT j) [];cases e:tlk (TT j) []with
   |none=>
    rw[e]at hlk hsu;dsimp only[Option.getD_none]at hlk hsu;have hmu:Pure AA 86 [natD (rtL b.L b.f VT TT j), .val (.slice AL 0 0)] [] (natD (rtL b.L b.f VT TT j*0)):=(zXv _ 0 hsj Sm.zero).le (.cons (.refl _) (.cons zMe .nil));refine vAu (zA (vT ((j:Int)<(Aa (Bd.L b):Int)) (vKB (vA (vr 3 (ix ↑j (Aa (Bd.L b):Int) (Al bgC (Bd.L b)≠[])/\3<=Aa (Ai (j*3) (Al bgC (Bd.L b)))) (vs 33 (Az (AB 3 (Ai (j*3) (Al bgC (Bd.L b))))) (Az (bgC c)) (ve (am_) (zA (vA (ve (ar_) (vF (A4 c>=(0:Int)) (vK (vA (ve (aB_) (vT ((j:Int)<↑(Bd.f b)) (vd [0,1,2,3,5,4,6,7,8,9,10,11] (vr 7 (True/\0<2/\(0:Int)<=(j:Int)/\(j:Int)<↑(Bd.n b)) (vo 50 6 j (vr 1 (0<Aa (Ai j (AM (blT (fA (Bd.n b) gt))))) (vsh 51 hgt (vc hidn (vr 1 (Ab=Ab/\BN (Ah (λ(p:List Va×Nat)=>kyv (Am p)) (TT j)) (zW (Bj (Bl Bm "string" 1 16 Ab 8 8 (As (AJ (AZ #[]))) Ab #[])))=Ab) (vsh 53 hlk (vc hmu (vrT 1 (vnil (zD (vN ?_)))))) ⟨(by kernel_rfl),(by exact zGc _)⟩))))))))))))))))))))));refine zB rfl (vr 2 (i6 (↑j+1)) (vnil (zC (⟨j+1,by omega,by omega,?_⟩))));rw[hsu];refine wkn (fr 66 [(0,Ad 4 0),(5,Ak [] (Aa (dg (rtL (Bd.L b) (Bd.f b) VT TT j*0)))),(6,iD j),(27,(q17_ b)),(28,iD (Aa (Bd.L b):Int)),(29,iD ↑(j+1)),(43,bD (decide ((j:Int)<↑(Bd.f b)))),(44,natD (rtL (Bd.L b) (Bd.f b) VT TT j)),(45,Ad 4 0),(46,Ad 4 0),(47,Ad 4 8),(48,Af 6 0 (Bd.n b) (Bd.n b) Ab),(49,iD j),(50,Ad 6 j),(51,zGv (TT j)),(52,Ap (AJ (YtjcofbkhoeockaaGreatDoor.bs (idR [])))),(53,nl),(54,Ak [] (Aa (dg (rtL (Bd.L b) (Bd.f b) VT TT j*0)))),(64,iD ↑(j+1))]) [blI b,blX,blG b,blE b,blB b,blV (fA (Bd.n b) gv),blT (fA (Bd.n b) gt),blU c7,(q37_ c)] ?_;refine zA4 (N:=8) (4<8/\True) rfl hnm (λk hk=>zFu k (by omega)) ?_ ⟨by omega,trivial⟩;refine vk 9 ?_;grind [zFu]
   | some w=>
    rw[e]at hlk hsu;dsimp only[CH]at hlk hsu;have hw:Sm w:=by
     grind [tlk,CZ,List.mem_of_find?_eq_some]
    have hmu:=zXv (rtL b.L b.f VT TT j) w hsj hw;refine vAu (zA (vT ((j:Int)<(Aa (Bd.L b):Int)) (vKB (vA (vr 3 (ix ↑j (Aa (Bd.L b):Int) (Al bgC (Bd.L b)≠[])/\3<=Aa (Ai (j*3) (Al bgC (Bd.L b)))) (vs 33 (Az (AB 3 (Ai (j*3) (Al bgC (Bd.L b))))) (Az (bgC c)) (ve (am_) (zA (vA (ve (ar_) (vF (A4 c>=(0:Int)) (vK (vA (ve (aB_) (vT ((j:Int)<↑(Bd.f b)) (vd [0,1,2,3,5,4,6,7,8,9,10,11] (vr 7 (True/\0<2/\(0:Int)<=(j:Int)/\(j:Int)<↑(Bd.n b)) (vo 50 6 j (vr 1 (0<Aa (Ai j (AM (blT (fA (Bd.n b) gt))))) (vsh 51 hgt (vc hidn (vr 1 (Ab=Ab/\BN (Ah (λ(p:List Va×Nat)=>kyv (Am p)) (TT j)) (zW (Bj (Bl Bm "string" 1 16 Ab 8 8 (As (AJ (AZ #[]))) Ab #[])))=Ab) (vsh 53 hlk (vc hmu (vrT 1 (vnil (zD (vN ?_)))))) ⟨(by kernel_rfl),(by exact zGc _)⟩))))))))))))))))))))));refine zB rfl (vr 2 (i6 (↑j+1)) (vnil (zC (⟨j+1,by omega,by omega,?_⟩))));rw[hsu];refine wkn (fr 66 [(0,Ad 4 0),(5,natD (rtL (Bd.L b) (Bd.f b) VT TT j*w)),(6,iD j),(27,(q17_ b)),(28,iD (Aa (Bd.L b):Int)),(29,iD ↑(j+1)),(43,bD (decide ((j:Int)<↑(Bd.f b)))),(44,natD (rtL (Bd.L b) (Bd.f b) VT TT j)),(45,Ad 4 0),(46,Ad 4 0),(47,Ad 4 8),(48,Af 6 0 (Bd.n b) (Bd.n b) Ab),(49,iD j),(50,Ad 6 j),(51,zGv (TT j)),(52,Ap (AJ (YtjcofbkhoeockaaGreatDoor.bs (idR [])))),(53,natD w),(54,natD (rtL (Bd.L b) (Bd.f b) VT TT j*w)),(64,iD ↑(j+1))]) [blI b,blX,blG b,blE b,blB b,blV (fA (Bd.n b) gv),blT (fA (Bd.n b) gt),blU c7,(q37_ c)] ?_;refine zA4 (N:=8) (4<8/\True) rfl hnm (λk hk=>zFu k (by omega)) ?_ ⟨by omega,trivial⟩;refine vk 9 ?_;grind [zFu]
  have hVn:VT j≠[]:=λhh=>by
   grind
  rw[if_neg hf,if_neg hVn,Bn]at hsu;have hgt:((fA b.n gv).drop j).headD .unk=zHq (VT j):=by rw[zD7 hjn];exact hvj (by omega) (by omega)
  have hps:=zCd (g:=gv) hjn;have hvl:0<((VT j).map kyv).length:=by rw[Bh];exact Ct.2 hVn
  refine vAu<|zA<|vT ((j:Int)<(Aa (Bd.L b):Int))<|vKB<|vA<|vr 3 (ix ↑j (Aa (Bd.L b):Int) (Al bgC (Bd.L b)≠[])/\3<=Aa (Ai (j*3)<|Al bgC<|Bd.L b))<|vs 33 (Az<|AB 3<|Ai (j*3)<|Al bgC<|Bd.L b) (Az<|bgC c)<|ve (am_)<|zA<|vA<|ve (ar_)<|vF (A4 c>=(0:Int))<|vK<|vA<|ve (aB_)<|vF ((j:Int)<↑(Bd.f b))<|vA<|vr 6 (True/\0<3/\(0:Int)<=(j:Int)/\(j:Int)<↑(Bd.n b))<|vo 60 5 j<|vr 1 (0<Aa (Ai j<|AM<|blV<|fA (Bd.n b) gv))<|vsh 61 hgt<|veT<|vEf ((Aa (Ah kyv<|VT j):Int)) ((0:Int))<|zT<|zD<|vN<|zB rfl<|vr 2 (i6 (↑j+1))<|vnil<|zC<|⟨j+1,by omega,by omega,?_⟩;rw[hsu];refine wkn (fr 66 [(0,Ad 4 0),(5,natD (rtL (Bd.L b) (Bd.f b) VT TT j)),(27,(q17_ b)),(28,iD (Aa (Bd.L b):Int)),(29,iD ↑(j+1)),(63,bD ((Aa (Ah kyv (VT j)):Int)==(0:Int))),(64,iD ↑(j+1))]) [blI b,blX,blG b,blE b,blB b,blV (fA (Bd.n b) gv),blT (fA (Bd.n b) gt),blU c7,(q37_ c)] ?_;refine zA4 (N:=8) (4<8/\True) rfl hnm (λk hk=>zFu k (by omega)) ?_ ⟨by omega,trivial⟩;refine vk 9 ?_;grind [zFu]
 obtain rfl:j=m2:=by omega
 rcases hend with⟨_,h4,rfl,rfl⟩|⟨_,h4,hgd,rfl,rfl⟩
 ·rw[<-h4];refine vAu<|zA<|vF ((j:Int)<↑j)<|vZ2<|vAe<|zE<|zN (True) [natD<|rtL (Bd.L b) (Bd.f b) VT TT j] (.inr rfl) ?_;exact⟨by kernel_rfl,by kernel_rfl⟩
 have hjn:j<b.n:=by omega
 have hg2:=zC0 hbc b.L j h4;have hle:=zFw hbc b.L j h4;have hne:=zDe hbc (by decide) b.L;have hvj:=hv j hjn;unfold rbad at hgd;simp only[Cj,decide_eq_true_eq]at hgd;generalize b.L.getD j Ae=c at*;have hgt:((fA b.n gv).drop j).headD .unk=zHq (VT j):=by rw[zD7 hjn];exact hvj (by omega) (by omega)
 have hps:=zCd (g:=gv) hjn;have hvl:((VT j).map kyv).length=0:=by rw[hgd.2];rfl
 have hc1:¬0<=c.p:=by omega
 refine vAu<|zA<|vT ((j:Int)<(Aa (Bd.L b):Int))<|vKB<|vA<|vr 3 (ix ↑j (Aa (Bd.L b):Int) (Al bgC (Bd.L b)≠[])/\3<=Aa (Ai (j*3)<|Al bgC<|Bd.L b))<|vs 33 (Az<|AB 3<|Ai (j*3)<|Al bgC<|Bd.L b) (Az<|bgC c)<|ve (am_)<|zA<|vA<|ve (ar_)<|vF (A4 c>=(0:Int))<|vK<|vA<|ve (aB_)<|vF ((j:Int)<↑(Bd.f b))<|vA<|vr 6 (True/\0<3/\(0:Int)<=(j:Int)/\(j:Int)<↑(Bd.n b))<|vo 60 5 j<|vr 1 (0<Aa (Ai j<|AM<|blV<|fA (Bd.n b) gv))<|vsh 61 hgt<|veT<|vEt ((Aa (Ah kyv<|VT j):Int)) ((0:Int))<|vAe<|zE<|zL<|zH<|zH<|zL<|zH<|zN (True) [nl] (.inr rfl) ?_;exact⟨by kernel_rfl,by kernel_rfl⟩
def ptI(l:List Bu):Nat->List (List Va×Nat)
 |0=>[]
 |j+1=>tput (ptI l j) (l.getD j Ae).key j
abbrev pcellK(K:List (List Va×Nat)):D:= .mfz (K.map λp=>kyv p.1) (K.map λp=>iD ((p.2:Nat):Int))
abbrev zB9(l:List Bu):D:=pcellK (ptI l l.length)
abbrev mapI(K:List (List Va×Nat)):Bk:=⟨K.map λp=>iD ((p.2:Nat):Int),128,0,Ab,Ac, .map (K.map λp=>kyv p.1)⟩
theorem mput_i(K:List (List Va×Nat))(r:List Va)(w:Nat):mput (mapI K) (K.map λp=>kyv p.1) (kyv r) (iD ((w:Nat):Int))=mapI (tput K r w):=by
 unfold mput tput;rw[zX5];cases e:K.findIdx? λs=>decide (r=s.1)with
 |none=>simp
 | some i=>
  rw[CG]at e;obtain⟨h,h1,_⟩:=e;have e1:(K.map λp=>iD ((p.2:Nat):Int)).set i (iD ((w:Nat):Int))=(K.set i (r,w)).map λp=>iD ((p.2:Nat):Int):=by rw[Cf]
  have e2:(K.set i (r,w)).map (λp=>kyv p.1)=K.map λp=>kyv p.1:=by
   rw[Cf];apply BS;grind
  simp only[mapI,e1,e2]
def Tas:Par:=⟨λ_=>Ac,λ_ _=>AL,λ_=>Ac,λ_=>Ac,λt=>t==128⟩
theorem Tas_ok:zA9 AA Tas:=by intro t n f h;cases h
theorem keepA:∀k,4<=k->Tas.keep k=false:=λ_ _=>rfl
abbrev ixD(desc:List Bool)(L:List Bg)(U:Nat->List Bu)(tot:Nat):D:= .agg [.row (desc.map bD) desc.length, .row (L.flatMap bgC) L.length, .row (fA desc.length λc=>busD (U c)) desc.length, .row (fA desc.length λc=>zB9 (U c)) desc.length,natD tot]
abbrev ixK(c:List D):Bk:=⟨c,46,0,Ac,Ac, .plain⟩
abbrev blU0(c:List D)(fz:Bool):Bk:=⟨c,88,1,Ab,fz, .plain⟩
abbrev blP(c:List D):Bk:=⟨c,128,1,Ab,Ac, .sh⟩
theorem asm_nam{a b c5 c6:List D}(hm:4<=m)(h6:blw m c6)(hb:blw m b)(ha:blw m a)(hr:∀e∈rest,namB m e):∀e∈ixK a::ixK b::blU0 c5 Ac::blP c6::rest,namB m e:=λe he=>by
 simp only[Bz]at he;rcases he with rfl|rfl|rfl|rfl|he
 ·exact .inr ha
 ·exact .inr hb
 ·exact .inl rfl
 ·exact .inr h6
 exact hr e he
def uI(U:Nat->List Bu)(i c:Nat):D:=if c<i then busD (U c)else .val (.slice AL 0 0)
def qI(U:Nat->List Bu)(i c:Nat):D:=if c<i then zB9 (U c)else .val (.map AL)
theorem zT6(d:D)(n:Nat):repL n [d]=fA n λ_=>d:=by
 rw[<-fA_rep];show(AP n [d]).flatten=_;simp_all
abbrev q38_(x0:List Bg):=Ak (Al bgC x0) (Aa x0)
theorem zPn(desc:List Bool)(L:List Bg)(U:Nat->List Bu)(tot:Nat)(hd:desc.length<=1000)(hL:L.length<=1000)(hU:∀c,c<desc.length->(U c).length<=1000000/\∀b∈U c,b.Ok):
  Pure AA 54 [.row (desc.map bD) desc.length, .row (L.flatMap bgC) L.length, .row (fA desc.length λc=>busD (U c)) desc.length,natD tot] [] (ixD desc L U tot):=by
 generalize hn:desc.length=f at*;have hcb:=zV4 (desc.map bD) f (by simp[hn]) (by omega);have hcg:=clone_bags (L.flatMap bgC) L.length (zDn (g:=bgC) (λ_=>rfl) L) (by omega);refine zF Tas_ok mixed Tryz.func54 rfl ?_;have hz1:repL f [.val (.slice AL 0 0)]=fA f (uI U 0):=by
  rw[zT6];exact zB8 λi _=>(if_neg (by omega)).symm
 have hz2:repL f [.val (.map AL)]=fA f (qI U 0):=by
  rw[zT6];exact zB8 λi _=>(if_neg (by omega)).symm
 refine vAu<|vA<|vrT 1<|vc hcb<|vrT 1<|vc hcg<|ve (((1=1/\1<=5/\1=1/\2<=5/\1=1/\5<=5/\True)/\Ab=Ab)/\Ac=Ac/\Ab=Ab/\5=5/\5<=5)<|zA<|zA6 [0,1,3,4,2,6,5] [(7,[(5,3)],[8,9])] rfl ?_;refine vr 5 ((0:Int)<=(f:Int)/\(f:Int)<=↑f/\(↑(24:Nat):Int)*(f:Int)<=(281474976710656:Int)/\(f:Int)<=(281474976710656:Int)/\0<1/\1=1)<|vb 2 (Ag (repL (Ay (f:Int)) [nl]) 88 1 Ab Ac<|kdOf Ac) (Ag (fA f<|uI U 0) 88 1 Ab Ac<|kdOf Ac)<|vr 2 (True/\(0:Int)<=(f:Int)/\(f:Int)<=↑f/\(↑(8:Nat):Int)*(f:Int)<=(281474976710656:Int)/\(f:Int)<=(281474976710656:Int)/\0<1/\1=1)<|vb 3 (Ag (repL (Ay (f:Int)) [Ap<|Value.map AL]) 128 1 Ab Ac<|kdOf Ab) (Ag (fA f<|qI U 0) 128 1 Ab Ac<|kdOf Ab)<|vnil<|zBy rfl rfl<|vr 1 (Ac=Ac/\Ab=Ab/\1=1/\3<=5)<|vb 1 (Ag [Ak (Ah bD desc) f,Ak (Al bgC L)<|Aa L,Af 2 0 (Ay (f:Int)) (Ay (f:Int)*1) Ab,nl,natD tot] 46 0 Ac Ac Aq) (Ag [Ak (Ah bD desc) f,Ak (Al bgC L)<|Aa L,Af 2 0 f f Ab,nl,natD tot] 46 0 Ac Ac Aq)<|vnil<|zEg (C:=((0:Int)<=(f:Int)/\(f:Int)<=↑f/\(↑(8:Nat):Int)*(f:Int)<=(281474976710656:Int)/\(f:Int)<=(281474976710656:Int)/\0<1/\1=1)/\As (Af 3 0 (Ay (f:Int)) (Ay (f:Int)*1) Ab)=As (Af 3 0 (Ay (f:Int)) (Ay (f:Int)*1) Ab)/\eqDL (fA f (qI U 0)) (repL (Ay (f:Int)) [Ap (Value.map AL)])/\128=128/\1=1/\Ab=Ab/\(kdOf Ab)=kdOf Ab) ⟨(by omega),(by kernel_rfl),(by exact hz2.symm),(by kernel_rfl),(by kernel_rfl),(by kernel_rfl),(by kernel_rfl)⟩ ?_;refine vr 2 (True/\Ac=Ac/\Ab=Ab/\1=1/\4<=5)<|vb 1 (Ag [Ak (Ah bD desc) f,Ak (Al bgC L)<|Aa L,Af 2 0 f f Ab,Af 3 0 (Ay (f:Int)) (Ay (f:Int)*1) Ab,natD tot] 46 0 Ac Ac Aq) (Ag [Ak (Ah bD desc) f,Ak (Al bgC L)<|Aa L,Af 2 0 f f Ab,Af 3 0 f f Ab,natD tot] 46 0 Ac Ac Aq)<|vnil<|zBv<|vN<|zA<|vAe<|zJ<|zK (λ(i:Nat)=>fr 69 [(2,Ak (fA f λ(c:Nat)=>busD (U c)) f),(8,Ad 0 0),(9,Ad 1 0),(28,iD f),(29,iD i)]) (λ(i:Nat)=>[ixK [nl0,nl0,nl0,nl0,nl0],ixK [.row (desc.map bD) f,.row (L.flatMap bgC) L.length,.osl 2 0 f f Ab,.osl 3 0 f f Ab,natD tot],blU0 (fA f<|uI U i) Ac,blP<|fA f<|qI U i]) (λ(i:Nat)=>f-i) (λ(i:Nat)=>i<=f) 0 ?_ ?_ ?_
 ·omega
 ·refine vk 4
 intro i h1;rcases AQ i f with h3|h3
 ·have hhd:=zD7 (g:=λc=>busD (U c)) h3;obtain⟨u1,u2⟩:=hU i h3;have hcp:=copies_c (U i) (U i).length rfl u1 (λb hb=>(u2 b hb).1);have hs1:(fA f (uI U i)).set i (busD (U i))=fA f (uI U (i+1)):=by
   rw[zEx];refine zB8 λc _=>?_;grind [uI]
  have hs2:(fA f (qI U i)).set i (.mref 4)=fA f λc=>if c=i then .mref 4 else qI U i c:=zEx
  have hl1:(fA f (uI U i)).length=f:=zEy;have hl2:(fA f (qI U i)).length=f:=zEy;refine vAu<|zA<|vT ((i:Int)<↑f)<|vKB<|vAe<|zA<|zA6 [0,2,3,5,6,7,8,1,4,9,10,12,11] [(13,[(4,100000),(11,4)],[14,15])] rfl ?_;refine vr 7 (True/\True/\ix ↑i ↑f ((fA f λ(c:Nat)=>busD (U c))≠[])) (vp 40 i (fA f λ(c:Nat)=>busD (U c))<|vr 3 (0<3/\0<2/\0<Aa (Ai i (fA f λ(c:Nat)=>busD (U c)))) (vsh 41 hhd<|vc hcp<|vr 1 ((0:Int)<=(i:Int)/\(i:Int)<↑f)<|vo 44 2 i<|vrT 1<|vnil<|zBy rfl rfl<|vr 1 (BB (blU0 (fA f<|uI U i) Ac)=Ac/\Ab=Ab/\1=1/\i+1<=Aa (AM<|blU0 (fA f<|uI U i) Ac)/\¬2∈[])<|vb 2 (Ag (setAt (AM<|blU0 (fA f<|uI U i) Ac) i<|cellsOf<|Ak (Al buC<|U i)<|Aa<|U i) (A_<|blU0 (fA f<|uI U i) Ac) (Ba<|blU0 (fA f<|uI U i) Ac) Ab Ac<|A1<|blU0 (fA f<|uI U i) Ac) (Ag (fA f<|uI U (i+1)) (88:TypeId) 1 Ab Ac Aq)<|vnil ?_) ⟨(by omega),(by omega),(by exact zCd h3)⟩) ⟨trivial,trivial,⟨(by omega),⟨(by omega),(by exact fA_ne h3)⟩⟩⟩;refine zEg (C:=0<2/\As (Af 3 0 f f Ab)=As (A9 [Af 3 0 f f Ab,natD tot] Uk)/\True/\As (AR 4)=As (AR 4)/\eqDL [] []/\128=128/\0=0/\Ab=Ab/\(BK [])=BK []) ⟨(by omega),(by kernel_rfl),trivial,(by kernel_rfl),rfl,(by kernel_rfl),(by kernel_rfl),(by kernel_rfl),(by kernel_rfl)⟩ ?_;refine vr 1 ((0:Int)<=(i:Int)/\(i:Int)<↑f)<|vo 45 3 i<|vr 1 (BB (blP<|fA f<|qI U i)=Ac/\zD6 (AR 4)=Ab/\1=1/\i+1<=Aa (AM<|blP<|fA f<|qI U i))<|vb 3 (Ag (setAt (AM<|blP<|fA f<|qI U i) i<|cellsOf<|AR 4) (A_<|blP<|fA f<|qI U i) (Ba<|blP<|fA f<|qI U i) Ab Ac<|A1<|blP<|fA f<|qI U i) (Ag (fA f λ(c:Nat)=>if c=i then AR 4 else qI U i c) (128:TypeId) 1 Ab Ac AW)<|vnil<|zBv<|zC<|vnn (fr 69 [(2,Ak (fA f λ(c:Nat)=>busD (U c)) f),(8,Ad 0 0),(9,Ad 1 0),(10,iD i),(28,iD f),(29,iD i),(32,Ad 1 2),(33,Af 2 0 f f Ab),(34,iD i),(35,Ad 1 3),(36,Af 3 0 f f Ab),(37,iD i),(38,Ak (fA f λ(c:Nat)=>busD (U c)) f),(39,iD i),(40,AG<|Ai i (fA f λ(c:Nat)=>busD (U c))),(41,busD<|U i),(42,Ak (Al buC<|U i)<|Aa<|U i),(43,AR 4),(44,Ad 2 i),(45,Ad 3 i)]) [ixK [nl0,nl0,nl0,nl0,nl0],ixK [Ak (Ah bD desc) f,(q38_ L),Af 2 0 f f Ab,Af 3 0 f f Ab,natD tot],Ag (fA f<|uI U (i+1)) (88:TypeId) 1 Ab Ac Aq,Ag (fA f λ(c:Nat)=>if c=i then AR 4 else qI U i c) (128:TypeId) 1 Ab Ac AW,Ag [] 128 0 Ab Ac<|BK []] ?_;have hg1:((fA f (uI U (i+1))).drop i).headD .unk=busD (U i):=by rw[zD7 h3];exact if_pos (by omega)
  have hg2:((fA f λc=>if c=i then .mref 4 else qI U i c).drop i).headD .unk= .mref 4:=by rw[zD7 h3];exact if_pos rfl
  refine zCi<|vAs<|vr 4 (True/\0<3/\(0:Int)<=(i:Int)/\(i:Int)<↑f)<|vo 49 2 i<|vr 1 (0<Aa (Ai i<|fA f<|uI U (i+1))) (vsh 50 hg1<|veT<|zJ ?_) (by exact zCd h3);have hq:∀m,5<=m->blw m (fA f λc=>if c=i then .mref 4 else qI U i c):=λm hm=>zE0.2 λc hc j hj=>by
   grind [refs,qI]
  have hnm:∀K,∀e∈[ixK [nl0,nl0,nl0,nl0,nl0],ixK [.row (desc.map bD) f, .row (L.flatMap bgC) L.length, .osl 2 0 f f Ab, .osl 3 0 f f Ab,natD tot],blU0 (fA f (uI U (i+1))) Ac,blP (fA f λc=>if c=i then .mref 4 else qI U i c),mapI K],namB 5 e:=λK=>asm_nam (by omega) (hq 5 (by omega)) (λj hj=>by simp[zX,refs];omega) (λj hj=>by simp[zX,refs]) λe he=>by
   rw[By]at he;subst he;exact .inl rfl
  refine zK (λ(j:Nat)=>fr 69 [(2,Ak (fA f λ(c:Nat)=>busD (U c)) f),(8,Ad 0 0),(9,Ad 1 0),(10,iD i),(28,iD f),(29,iD i),(50,busD<|U i),(51,iD (Aa (U i):Int)),(52,iD j)]) (λ(j:Nat)=>[ixK [nl0,nl0,nl0,nl0,nl0],ixK [.row (desc.map bD) f,.row (L.flatMap bgC) L.length,.osl 2 0 f f Ab,.osl 3 0 f f Ab,natD tot],blU0 (fA f<|uI U (i+1)) Ac,blP (fA f λc=>if c=i then .mref 4 else qI U i c),mapI<|ptI (U i) j]) (λ(j:Nat)=>(U i).length-j) (λ(j:Nat)=>j<=(U i).length) 0 ?_ ?_ ?_
  ·omega
  ·refine vk 5
  intro j h4;rcases AQ j (U i).length with h5|h5
  ·have hgt2:=zC0 zCg (U i) j h5;have hgle:=zFw zCg (U i) j h5;have hgne:=zDe zCg (by decide) (U i);have hmem:(U i).getD j Ae∈U i:=by rw[A3,AS h5];exact A8 h5
   have hbk:=u2 _ hmem;have hsu:ptI (U i) (j+1)=tput (ptI (U i) j) ((U i).getD j Ae).key j:=rfl;generalize ptI (U i) j=K at*;generalize (U i).getD j Ae=u at*;have hid:=zCs u.key u.key.length rfl hbk.2 (hl:=hbk.1);have hmp:=mput_i K u.key j;have hnm2:=hnm (tput K u.key j);refine vAu (zA (vT ((j:Int)<(Aa (U i):Int)) (vKB (vA (vr 3 (ix ↑j (Aa (U i):Int) (Al buC (U i)≠[])/\3<=Aa (Ai (j*3) (Al buC (U i)))) (vs 56 (Az (AB 3 (Ai (j*3) (Al buC (U i))))) (Az (buC u)) (ve (am_) (vd [0,2,5,8,1,3,4,6,7,9] (vr 6 (True/\True/\0<2/\(0:Int)<=(i:Int)/\(i:Int)<↑f) (vo 60 3 i (vr 1 (0<Aa (Ai i (AM (blP (fA f λ(c:Nat)=>if c=i then AR 4 else qI U i c))))) (vsh 61 hg2 (vr 1 (0<3) (vc hid (vr 1 (BB (mapI K)=Ac/\zW (Bj (Bl Bm "string" 1 16 Ab 8 8 (As (AJ (AZ #[]))) Ab #[])) (AJ (bs (idR (Bu.key u))))=Ab/\BN (Ah (λ(p:List Va×Nat)=>kyv (Am p)) K) (zW (Bj (Bl Bm "string" 1 16 Ab 8 8 (As (AJ (AZ #[]))) Ab #[])))=Ab/\¬4∈[]) (vb 4 (mput (mapI K) (Ah (λ(p:List Va×Nat)=>kyv (Am p)) K) (AJ (bs (idR (Bu.key u)))) (iD j)) (mapI (tput K (Bu.key u) j)) (vnil (zD (zC ?_)))) ⟨(by kernel_rfl),⟨(by kernel_rfl),⟨(by exact zGc _),(by decide)⟩⟩⟩)))) (by exact zCd h3))))))))))));refine zCi (zB rfl (vr 2 (i6 (↑j+1)) (vnil (zC (⟨j+1,by omega,by omega,?_⟩)))));rw[hsu];refine wkn (fr 69 [(2,Ak (fA f λ(c:Nat)=>busD (U c)) f),(8,Ad 0 0),(9,Ad 1 0),(10,iD i),(11,iD j),(12,Ad 5 0),(28,iD f),(29,iD i),(50,busD (U i)),(51,iD (Aa (U i):Int)),(52,iD ↑(j+1)),(57,Ad 1 3),(58,Af 3 0 f f Ab),(59,iD i),(60,Ad 3 i),(61,AR 4),(62,Ad 5 0),(63,(q36_ u)),(64,Ap (AJ (bs (idR (Bu.key u))))),(65,iD j),(66,iD ↑(j+1))]) [ixK [nl0,nl0,nl0,nl0,nl0],ixK [Ak (Ah bD desc) f,(q38_ L),Af 2 0 f f Ab,Af 3 0 f f Ab,natD tot],blU0 (fA f (uI U (i+1))) Ac,blP (fA f λ(c:Nat)=>if c=i then AR 4 else qI U i c),mapI (tput K (Bu.key u) j),Ag [(q36_ u),bD (Bu.desc u),AE (WT.d (Bu.t u))] 91 0 Ac Ac Aq] ?_;refine zA4 (N:=5) (0<5/\1<5/\True) rfl hnm2 (λk hk=>rfl) ?_ ⟨by omega,by omega,trivial⟩;refine vk 6
  obtain rfl:j=(U i).length:=by omega
  refine vAu<|zA<|vF ((Aa (U i):Int)<(Aa (U i):Int))<|vY2<|zD<|vN<|zB rfl<|vr 2 (i6 (↑i+1))<|vnil<|zC<|⟨i+1,by omega,by omega,?_⟩;have e2:(fA f λc=>if c=i then .mref 4 else qI U i c).set i (zB9 (U i))=fA f (qI U (i+1)):=by
   rw[zEx];refine zB8 λc _=>?_;grind [qI]
  have hnm4:∀e∈[ixK [nl0,nl0,nl0,nl0,nl0],ixK [.row (desc.map bD) f, .row (L.flatMap bgC) L.length, .osl 2 0 f f Ab, .osl 3 0 f f Ab,natD tot],blU0 (fA f (uI U (i+1))) Ac,blP (fA f (qI U (i+1)))],namB 4 e:=asm_nam (AV _) (zE0.2 λc hc j hj=>by unfold qI;split<;>rfl) (λj hj=>by simp[zX,refs];omega) (λj hj=>by simp[zX,refs]) (by simp);refine wkn (fr 69 [(2,Ak (fA f λ(c:Nat)=>busD (U c)) f),(8,Ad 0 0),(9,Ad 1 0),(10,iD i),(28,iD f),(29,iD ↑(i+1)),(50,busD (U i)),(51,iD (Aa (U i):Int)),(52,iD (Aa (U i):Int)),(53,bD (decide ((Aa (U i):Int)<(Aa (U i):Int)))),(67,iD ↑(i+1))]) [ixK [nl0,nl0,nl0,nl0,nl0],ixK [Ak (Ah bD desc) f,(q38_ L),Af 2 0 f f Ab,Af 3 0 f f Ab,natD tot],blU0 (fA f (uI U (i+1))) Ac,blP (fA f λ(c:Nat)=>if c=i then AR 4 else qI U i c),mapI (ptI (U i) (Aa (U i)))] ?_;refine Weak.trans (Co (j:=3) (i:=i) (ej:=blP (fA f λc=>if c=i then .mref 4 else qI U i c)) (d:= .mref 4) (x:=zB9 (U i)) (ks:=[4]) rfl rfl rfl (by rw[zYv h3];exact congrArg As (if_pos rfl)) rfl (by decide)) ?_;show Weak Tas _ ([ixK [nl0,nl0,nl0,nl0,nl0],ixK [.row (desc.map bD) f, .row (L.flatMap bgC) L.length, .osl 2 0 f f Ab, .osl 3 0 f f Ab,natD tot],blU0 (fA f (uI U (i+1))) Ac,blP ((fA f λc=>if c=i then .mref 4 else qI U i c).set i (zB9 (U i)))]++[{mapI (ptI (U i) (U i).length)with fz:=Ab}]) _ _;rw[e2];refine zA4 (N:=4) (0<4/\1<4/\True) rfl hnm4 keepA ?_ ⟨by omega,by omega,trivial⟩;refine vk 5
 obtain rfl:i=f:=by omega
 have hu1:fA i (uI U i)=fA i λc=>busD (U c):=zB8 λc hc=>if_pos hc;have hq1:fA i (qI U i)=fA i λc=>zB9 (U c):=zB8 λc hc=>if_pos hc;rw[hu1,hq1];have ht1:(fA i λc=>busD (U c)).take i=fA i λc=>busD (U c):=Bo (by rw[zEy];exact AV _);have ht2:(fA i λc=>zB9 (U c)).take i=fA i λc=>zB9 (U c):=Bo (by rw[zEy];exact AV _);have hW:∀sl,Weak Tas sl [ixK [nl0,nl0,nl0,nl0,nl0],ixK [.row (desc.map bD) i, .row (L.flatMap bgC) L.length, .osl 2 0 i i Ab, .osl 3 0 i i Ab,natD tot],blU0 (fA i λc=>busD (U c)) Ac,blP (fA i λc=>zB9 (U c))] sl
   [ixK [nl0,nl0,nl0,nl0,nl0],ixK [.row (desc.map bD) i, .row (L.flatMap bgC) L.length, .row (fA i λc=>busD (U c)) i, .row (fA i λc=>zB9 (U c)) i,natD tot],blU0 (fA i λc=>busD (U c)) Ab,⟨fA i λc=>zB9 (U c),128,1,Ab,Ab, .plain⟩]:=λsl=>by
  refine(Weak.unsh (k:=3) (e:=blP (fA i λc=>zB9 (U c))) rfl rfl rfl (λj=>(zE0 (m:=0)).2 (λc hc j hj=>rfl) j (BD _))).trans ?_;refine(Co (T:=Tas) (st:=[ixK [nl0,nl0,nl0,nl0,nl0],ixK [.row (desc.map bD) i, .row (L.flatMap bgC) L.length, .osl 2 0 i i Ab, .osl 3 0 i i Ab,natD tot],blU0 (fA i λc=>busD (U c)) Ac,⟨fA i λc=>zB9 (U c),128,1,Ab,Ac, .plain⟩]) (j:=1) (i:=2) (ej:=ixK [.row (desc.map bD) i, .row (L.flatMap bgC) L.length, .osl 2 0 i i Ab, .osl 3 0 i i Ab,natD tot]) (d:= .osl 2 0 i i Ab) (x:= .row (fA i λc=>busD (U c)) i) (ks:=[2]) rfl rfl rfl rfl ?_ (by decide)).trans ?_
  ·rw[show zAe=8+1 from rfl,zJ5 (e:=blU0 (fA i λc=>busD (U c)) Ac) rfl rfl rfl];grind
  refine Co (T:=Tas) (st:=[ixK [nl0,nl0,nl0,nl0,nl0],ixK [.row (desc.map bD) i, .row (L.flatMap bgC) L.length, .row (fA i λc=>busD (U c)) i, .osl 3 0 i i Ab,natD tot],blU0 (fA i λc=>busD (U c)) Ab,⟨fA i λc=>zB9 (U c),128,1,Ab,Ac, .plain⟩]) (j:=1) (i:=3) (ej:=ixK [.row (desc.map bD) i, .row (L.flatMap bgC) L.length, .row (fA i λc=>busD (U c)) i, .osl 3 0 i i Ab,natD tot]) (d:= .osl 3 0 i i Ab) (x:= .row (fA i λc=>zB9 (U c)) i) (ks:=[3]) rfl rfl rfl rfl ?_ (by decide);rw[show zAe=8+1 from rfl,zJ5 (e:=⟨fA i λc=>zB9 (U c),128,1,Ab,Ac, .plain⟩) rfl rfl rfl];grind
 refine vAu<|zA<|vF ((i:Int)<↑i)<|vY2<|zC<|vnn (fr 69 [(2,Ak (fA i λ(c:Nat)=>busD (U c)) i),(8,Ad 0 0),(9,Ad 1 0),(28,iD i),(29,iD i),(30,bD<|decide ((i:Int)<↑i))]) [ixK [nl0,nl0,nl0,nl0,nl0],ixK [Ak (Ah bD desc) i,(q38_ L),Af 2 0 i i Ab,Af 3 0 i i Ab,natD tot],blU0 (fA i λ(c:Nat)=>busD (U c)) Ac,blP (fA i λ(c:Nat)=>zB9 (U c))]<|zB2 (hW _) ?_;refine vAs<|ve (5<=5/\Ac=Ac/\Ab=Ab/\5=5/\5<=5)<|zE<|vre (5<=5) (Az [Ak (Ah bD desc) i,(q38_ L),Ak (fA i λ(c:Nat)=>busD (U c)) i,Ak (fA i λ(c:Nat)=>zB9 (U c)) i,natD tot]) (.inr rfl) ?_;subst hn;rfl
def pbad(f n:Int)(P:List Int)(i:Nat):Bool:=decide (P.getD i 0<f)||decide (n<=P.getD i 0)||decide (P.getD i 0∈P.take i)
def pany(f n:Int)(P:List Int):Bool:=(AK P.length).any (pbad f n P)
def icE(n f:Int)(dn:Nat)(P:List Int)(ats:List At):Int:=
 if n<0\/32<n\/f<0\/n<f then 3 else if(dn:Int)≠f\/(P.length:Int)≠n-f then 1 else if pany f n P=Ab then 1 else lfE n ats
abbrev inpD(n f:Int)(desc:List Bool)(P:List Int)(ats:List At):D:= .agg [iD n,iD f, .row (desc.map bD) desc.length, .row (P.map λz=>iD z) P.length, .row (ats.flatMap atC) ats.length]
abbrev inpB(n f:Int)(desc:List Bool)(P:List Int)(ats:List At):Bk:=⟨[iD n,iD f, .row (desc.map bD) desc.length, .row (P.map λz=>iD z) P.length, .row (ats.flatMap atC) ats.length],31,0,Ac,Ac, .plain⟩
abbrev booB(l:List D):Bk:=⟨l,4,1,Ab,Ac, .plain⟩
def seeF(P:List Int)(i u:Nat):Bool:=decide ((u:Int)∈P.take i)
theorem icheck_c(n f:Int)(desc:List Bool)(P:List Int)(ats:List At)(hd:desc.length<=2000000)(hP:P.length<=2000000)(ha:ats.length<=2000000)(hl:∀a∈ats,a.V.length<=2000000)(hlf:0<=n->n<=32->Pure AA 14 [iD n, .row (ats.flatMap atC) ats.length] [] (iD (lfE n ats))):
  Pure AA 16 [inpD n f desc P ats] [] (iD (icE n f desc.length P ats)):=by
 by_cases h1:n<0\/32<n\/f<0\/n<f
 ·unfold icE;rw[if_pos h1];refine zF zAx mixed Tryz.func16 rfl ?_;focus
   refine vAu<|zA<|vA<|vr 4 (aA_)<|vspD 9 (n<0) (λhc=>?_)<|λhc=>?_;refine veT<|vt<|vAe<|zE<|zH<|vret (True)<|.inr rfl;refine vr 5 (aA_)<|vspD 14 (n>(32:Int)) (λhc=>?_)<|λhc=>?_;refine veT<|vt<|vAe<|zE<|zH<|vret (True)<|.inr rfl;refine vr 5 (True/\0<4)<|vspD 19 (f<0) (λhc=>?_)<|λhc=>?_;refine veT<|vt<|vAe<|zE<|zH<|vret (True)<|.inr rfl;refine ve (aC_)<|vT (f>n)<|vAe<|zE<|zH<|vret (True)<|.inr rfl
 by_cases h2:(desc.length:Int)≠f\/(P.length:Int)≠n-f
 ·unfold icE;rw[if_neg h1,if_pos h2];refine zF zAx mixed Tryz.func16 rfl ?_;focus
   refine vAu<|zA<|vA<|vew [] [(3,Ac),(8,Ac),(13,Ac)] (True/\0<5/\decide (n<0)=Ac/\True/\0<5/\decide (n>(32:Int))=Ac/\True/\0<4/\decide (f<0)=Ac/\aC_)<|vF (f>n)<|vK<|zA<|vA<|vr 7 (True/\0<3/\True/\0<4/\True)<|vsp 32 ((Aa desc:Int)!=f) (λhc=>?_)<|λhc=>?_;simp only[bne_iff_ne]at hc;refine veT<|vt<|vAe<|zE<|zH<|vret (True)<|.inr rfl;simp only[bne_eq_false_iff_eq]at hc;refine ve (True/\0<2/\True/\0<5/\True/\0<4/\i6 (n-f)/\True)<|zFv (t:=(Aa P:Int)!=n-f) (by kernel_rfl) (by simpa using by omega)<|vAe<|zE<|zH<|vret (True)<|.inr rfl
 unfold icE;rw[if_neg h1,if_neg h2];obtain⟨k,rfl⟩:∃k:Nat,n=(k:Int):=⟨n.toNat,by omega⟩;have hk:=hlf (by omega) (by omega);obtain⟨m,hm,hgood,hend⟩:∃m,m<=P.length/\(∀j,j<m->pbad f k P j=Ac)/\((m=P.length/\pany f k P=Ac)\/(m<P.length/\pbad f k P m=Ab/\pany f k P=Ab)):=by
  by_cases h3:∃p,p<P.length/\pbad f k P p=Ab
  ·obtain⟨p,hp,hpb,hmin⟩:=zDf h3;grind [pany,CI]
  refine⟨P.length,AV _,λj hj=>?_, .inl ⟨rfl,?_⟩⟩;all_goals grind [pbad,pany,CI]
 have hz:repL k [bD Ac]=fA k λu=>bD (seeF P 0 u):=by
  grind [zT6,zB8,seeF]
 refine zF zAx mixed Tryz.func16 rfl<|vAu<|zA<|vA<|vew [] [(3,Ac),(8,Ac),(13,Ac)] (True/\0<5/\decide ((k:Int)<0)=Ac/\True/\0<5/\decide ((k:Int)>(32:Int))=Ac/\True/\0<4/\decide (f<0)=Ac/\aC_)<|vF (f>(k:Int))<|vK<|zA<|vA<|vew [] [(6,Ac)] (True/\0<3/\True/\0<4/\True/\((Aa desc:Int)!=f)=Ac/\True/\0<2/\True/\0<5/\True/\0<4/\i6 ((k:Int)-f)/\True)<|zEz (t:=(Aa P:Int)!=(k:Int)-f) (by kernel_rfl) (by simpa using by omega)<|vK<|vA<|vr 3 (True/\0<5/\(0:Int)<=(k:Int)/\(k:Int)<=(k:Int)/\(↑(1:Nat):Int)*(k:Int)<=(281474976710656:Int)/\(k:Int)<=(281474976710656:Int)/\0<1/\1=1)<|vb 1 (Ag (repL (Ay (k:Int)) [bD Ac]) 4 1 Ab Ac<|kdOf Ac) (Ag (fA k λ(u:Nat)=>bD (seeF P 0 u)) 4 1 Ab Ac<|kdOf Ac)<|vrT 1<|vs 3 (Af 1 0 (Ay (k:Int)) (Ay (k:Int)*1) Ab) (Af 1 0 k k Ab)<|veT<|zA<|vA<|ve (aF_)<|zJ<|zK (λ(i:Nat)=>fr 78 [(1,Ad 0 0),(3,Af 1 0 k k Ab),(47,Ak (Ah (λ(z:Int)=>iD z) P)<|Aa P),(48,iD (Aa P:Int)),(49,iD (i:Int))]) (λ(i:Nat)=>[inpB k f desc P ats,booB (fA k λu=>bD (seeF P i u))]) (λ(i:Nat)=>m-i) (λ(i:Nat)=>i<=m) 0 ?_ ?_ ?_
 ·omega
 ·refine vk 2
 intro i h3;have hPd:∀j,j<P.length->((P.map λz=>iD z).drop j).headD .unk=iD (P.getD j 0):=λj hj=>zAq (λz:Int=>iD z) P 0 j hj;have hPn:0<P.length->(P.map λz=>iD z)≠[]:=λh=>zAc (h:=h);rcases AQ i m with h4|h4
 ·have h5:i<P.length:=by omega
  have hhd:=hPd i h5;have hne:=hPn (by omega);have hgd:=hgood i h4;unfold pbad at hgd;have htk:P.take (i+1)=P.take i++[P.getD i 0]:=by rw[BI h5,A3,AS h5];rfl
  generalize P.getD i 0=z at*;simp only[BO,decide_eq_false_iff_not]at hgd;obtain⟨⟨g1,g2⟩,g3⟩:=hgd;obtain⟨v,rfl⟩:∃v:Nat,z=(v:Int):=⟨z.toNat,by omega⟩;have hvk:v<k:=by omega
  have hse:((fA k λu=>bD (seeF P i u)).drop v).headD .unk=bD false:=by
   grind [zD7,seeF]
  have hset:(fA k λu=>bD (seeF P i u)).set v (bD Ab)=fA k λu=>bD (seeF P (i+1) u):=by
   rw[zEx];refine zB8 λu _=>?_;grind [seeF]
  have hfl:(fA k λu=>bD (seeF P i u)).length=k:=zEy;refine vAu<|zA<|vT ((i:Int)<↑(Aa P))<|vKB<|vA<|vr 1 (ix ↑i ↑(Aa P) (Ah (λ(z:Int)=>iD z) P≠[]))<|vp 51 i (Ah (λ(z:Int)=>iD z) P)<|vr 1 (0<Aa (Ai i<|Ah (λ(z:Int)=>iD z) P))<|vsh 52 hhd<|veT<|zA<|vA<|vw 14 [] [(4,Ac),(10,Ac)] (True/\0<4/\decide ((v:Int)<f)=Ac/\True/\0<5/\decide ((v:Int)>=(k:Int))=Ac/\(0:Int)<=(v:Int)/\(v:Int)<↑k)<|vo 66 1 v<|vr 1 (0<Aa (Ai v<|AM<|booB (fA k λ(u:Nat)=>bD (seeF P i u))))<|vsh 67 hse<|veT<|vf<|vK<|zB rfl<|vr 3 ((0:Int)<=(v:Int)/\(v:Int)<↑k)<|vo 71 1 v<|vr 1 (BB (booB (fA k λ(u:Nat)=>bD (seeF P i u)))=Ac/\Ab=Ab/\1=1/\v+1<=Aa (AM<|booB (fA k λ(u:Nat)=>bD (seeF P i u)))/\¬1∈[])<|vnil<|zD<|vN<|zB rfl<|vr 2 (i6 (↑i+1))<|vnil<|zC<|⟨i+1,by omega,by omega,?_⟩;rw[<-hset];refine vk 2
 obtain rfl:i=m:=by omega
 rcases hend with⟨rfl,hpa⟩|⟨h5,hpb,hpa⟩
 ·rw[hpa,if_neg (by decide)];refine vAu<|zA<|vF ((Aa P:Int)<↑(Aa P))<|vZ2<|vA<|vr 4 (True/\0<5/\True/\0<1)<|vc hk<|veT<|zE<|vret (True)<|.inr rfl
 rw [hpa,if_pos rfl];have hhd:=hPd i h5;have hne:=hPn (by omega);unfold pbad at hpb;generalize P.getD i 0=z at*;simp only[CP,decide_eq_true_eq]at hpb;by_cases g1:z<f
 ·refine vAu<|zA<|vT ((i:Int)<(Aa P:Int))<|vKB<|vA<|vr 1 (ix (i:Int) (Aa P:Int) (Ah (λ(z:Int)=>iD z) P≠[]))<|vp 51 (i) (Ah (λ(z:Int)=>iD z) P)<|vr 1 (0<Aa (Ai i<|Ah (λ(z:Int)=>iD z) P))<|vsh 52 hhd<|veT<|zA<|vA<|vew [] [(4,Ab)] (True/\0<4/\decide (z<f)=Ab)<|vt<|vAe<|zE<|zH<|zL<|zH<|zH<|zL<|zH<|vret (True)<|.inr rfl
 by_cases g2:(k:Int)<=z
 ·refine vAu<|zA<|vT ((i:Int)<(Aa P:Int))<|vKB<|vA<|vr 1 (ix (i:Int) (Aa P:Int) (Ah (λ(z:Int)=>iD z) P≠[]))<|vp 51 (i) (Ah (λ(z:Int)=>iD z) P)<|vr 1 (0<Aa (Ai i<|Ah (λ(z:Int)=>iD z) P))<|vsh 52 hhd<|veT<|zA<|vA<|vew [] [(4,Ac),(10,Ab)] (True/\0<4/\decide (z<f)=Ac/\True/\0<5/\decide (z>=(k:Int))=Ab)<|vt<|vAe<|zE<|zH<|zL<|zH<|zH<|zL<|zH<|vret (True)<|.inr rfl
 obtain⟨v,rfl⟩:∃v:Nat,z=(v:Int):=⟨z.toNat,by omega⟩;have hvk:v<k:=by omega
 have hse:((fA k λu=>bD (seeF P i u)).drop v).headD .unk=bD true:=by
  grind [zD7,seeF]
 refine vAu<|zA<|vT ((i:Int)<↑(Aa P))<|vKB<|vA<|vr 1 (ix ↑i ↑(Aa P) (Ah (λ(z:Int)=>iD z) P≠[]))<|vp 51 i (Ah (λ(z:Int)=>iD z) P)<|vr 1 (0<Aa (Ai i<|Ah (λ(z:Int)=>iD z) P))<|vsh 52 hhd<|veT<|zA<|vA<|vw 14 [] [(4,Ac),(10,Ac)] (True/\0<4/\decide ((v:Int)<f)=Ac/\True/\0<5/\decide ((v:Int)>=(k:Int))=Ac/\(0:Int)<=(v:Int)/\(v:Int)<↑k)<|vo 66 1 v<|vr 1 (0<Aa (Ai v<|AM<|booB (fA k λ(u:Nat)=>bD (seeF P i u)))) (vsh 67 hse<|veT<|vt<|zA ?_) (by exact zCd hvk);refine zB rfl<|veT<|zE<|zH<|zL<|zH<|zH<|zL<|zH<|vret (True)<|.inr rfl
end
section
open Go.RowKit
abbrev toAt(a:List Nat×List Rw):At:=⟨a.1.map λv:Nat=>(v:Int),(a.1.length:Nat),a.2⟩
theorem toAt_fl(A:List (List Nat×List Rw)):(A.map toAt).flatMap atC=A.flatMap atR:=by
 rw[List.flatMap_map];refine congrArg (λf=>Al f A) (funext λa=>?_);simp_all
theorem zNr{A:List (List Nat×List Rw)}(h:Vok n A.length λi=>(A.getD i Ae).1):∀a∈A,a.1.Pairwise (· <·)/\∀v∈a.1,v<n:=λa ha=>by
 obtain⟨i,hi,rfl⟩:=Cd ha;have h1:=h.asc i hi;have h2:=h.lt i hi;simp only[A3,AS hi,CH]at h1 h2;exact⟨h1,h2⟩
theorem atE_ok{a:List Nat×List Rw}(h1:a.1.Pairwise (· <·))(h2:∀v∈a.1,v<n):atE (n:Nat) (toAt a)=0:=by
 have ha:ascB (toAt a).V=true:=by
  unfold ascB;rw[BG];intro i hi;have hi:i<a.1.length:=by
   grind
  unfold zWq;rcases Cv i with h0|h0
  ·grind
  have h3:=CY.1 h1 (i-1) i (by omega) hi (by omega);grind
 simp_all [toAt,inB,BG,BH,atE,Bh]
theorem zY2(n:Nat)(A:List (List Nat×List Rw))(hn:n<=32)(hA:A.length<=32)(hV:Vok n A.length λi=>(A.getD i Ae).1):Pure AA 14 [iD (n:Nat), .row (A.flatMap atR) A.length] [] (iD 0):=by
 have hv:=zNr hV;have h:=zSm n (A.map toAt) hn (by rwa[Bh]) (λa ha=>by
  obtain⟨b,hb,rfl⟩:=BH.1 ha;obtain⟨h1,h2⟩:=hv b hb;show(b.1.map λv:Nat=>(v:Int)).length<=_;rw[Bh]
  have:=zHg (n:=n) 0 h1 λw hw=>⟨BD _,h2 w hw⟩
  omega)
 rw[toAt_fl,Bh]at h;have h0:atL (n:Nat) (A.map toAt)=0:=atL_0 λj hj=>by
  rw[Bh]at hj;have e:(A.map toAt).getD j Ae=toAt A[j]:=by
   grind
  grind [A8,atE_ok]
 have hu:(useP n (A.map toAt) []).contains Ac=false:=by
  rw[Bool.eq_false_iff];intro hc;rw[CM]at hc;unfold useP at hc;obtain⟨v,hv1,hv2⟩:=BH.1 hc;obtain⟨i,hi,hm⟩:=hV.cov v (Bx.1 hv1);rw[BO]at hv2;have h3:=List.any_eq_false.1 hv2.1 (toAt A[i]) (BH.2 ⟨A[i],A8 hi,rfl⟩);grind
 grind
theorem rle_tr{a b c:Rw}(h1:rcmp a b<=0)(h2:rcmp b c<=0):rcmp a c<=0:=by
 rcases Int.lt_or_eq_of_le h1 with h1|h1;all_goals grind [Int.lt_or_eq_of_le,Int.le_of_lt,zL3,zBq]
theorem zR6:∀{L:List Rw},(∀j,0<j->j<L.length->rcmp (L.getD (j-1) []) (L.getD j [])<=0)->L.Pairwise λa b=>rcmp a b<=0
 |[],_=>CK.nil
 |[a],_=>List.pairwise_singleton _ _
 | a::b::L,h=>by
  have ih:(b::L).Pairwise λa b=>rcmp a b<=0:=zR6 λj h0 hj=>by
   have:=h (j+1) (by omega) (by simpa using hj)
   rw[Nat.add_sub_cancel]at this;obtain⟨i,rfl⟩:∃i,j=i+1:=⟨j-1,by omega⟩;simpa using this
  have h0:rcmp a b<=0:=by simpa using h 1 (by omega) (by simp)
  refine B8.2 ⟨λx hx=>?_,ih⟩;rcases Bz.1 hx with rfl|hx
  ·exact h0
  exact rle_tr h0 ((B8.1 ih).1 x hx)
theorem srtB_pw(h:srtB L=Ab):L.Pairwise λa b=>rcmp a b<=0:=zR6 λj h0 hj=>by
 have h1:=BG.1 h j (Bx.2 hj);unfold zTs at h1;rw[decide_eq_false (by omega),BT]at h1;have h2:¬rcmp (L.getD j []) (L.getD (j-1) [])<0:=by simpa using h1
 have h3:=(zBq (L.getD (j-1) []) (L.getD j [])).2.2;omega
theorem uqA_rsc:∀{L:List Rw}{p:Rw},(p::L).Pairwise (λa b=>rcmp a b<=0)->Rsc (p::uqA p L)
 |[],p,_=>List.pairwise_singleton _ _
 | b::L,p,h=>by
  obtain⟨h1,h2⟩:=B8.1 h;have ih:=uqA_rsc h2;rw[uqA];split
  ·grind
  rename_i e;have hb:rcmp p b<0:=by
   grind [rcmp,zBq]
  refine B8.2 ⟨λx hx=>?_,ih⟩;rcases Bz.1 hx with rfl|hx
  ·exact hb
  exact zL3 p b x hb ((B8.1 ih).1 x hx)
theorem uq_rsc(h:L.Pairwise λa b=>rcmp a b<=0):Rsc (uq L):=by
 cases L with
 |nil=>exact CK.nil
 |cons a L=>exact uqA_rsc h
theorem zXe(L:List Rw):Rsc (relR L):=by
 grind [relR,uq_rsc,srtB_pw,zKi]
theorem zVj{x:Rw}:∀{L:List Rw}{p:Rw},x∈p::L->x∈p::uqA p L
 |[],p,h=>h
 | b::L,p,h=>by
  rw[uqA];split
  ·rename_i e;subst e;exact zVj (by simpa using h)
  rcases Bz.1 h with rfl|h
  ·simp
  exact CF _ (zVj h)
theorem mem_relR{x:Rw}:x∈relR L↔x∈L:=by
 have key:∀M:List Rw,x∈uq M↔x∈M:=λM=>⟨uq_mem,λh=>by
  cases M with
  |nil=>cases h
  |cons a M=>exact zVj h⟩
 grind [relR,zCr]
end
end Go.Proofs.YtjcofbkhoeockaaGreatDoor
