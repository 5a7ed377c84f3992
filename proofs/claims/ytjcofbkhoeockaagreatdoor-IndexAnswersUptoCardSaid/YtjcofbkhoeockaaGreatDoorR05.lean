/- Texts of this claim, joined. -/
import Derived.Test.YtjcofbkhoeockaaGreatDoorR04
import Derived.Test.YtjcofbkhoeockaaGreatDoorProg
set_option linter.unusedVariables false
set_option linter.unusedSimpArgs false
namespace Go.Proofs.YtjcofbkhoeockaaGreatDoor
open _root_.List renaming length->Aa,map->Ae,drop->Ag,take->Aj,range->Ak,flatMap->As,getElem?_eq_getElem->Aw,getD->Az,getD_eq_getElem?_getD->AB,mem_map->AJ,length_map->AN,mem_range->AQ,getElem_mem->AR,mem_filter->AV,map_congr_left->AW,mem_singleton->AY,mem_append->A0,drop_zero->A1,mem_append_left->A3,map_map->A4,take_succ_eq_append_getElem->A7,take_length->A8,headD->A9,mem_cons->A_,take_of_length_le->Bc,mem_cons_of_mem->Bf,all_eq_true->Bi,getElem_of_mem->Bj,mem_cons_self->Bm,range_succ->Bp,length_take->Bq,reverse_reverse->Bs,length_append->Bt,map_cons->Bz,mem_flatMap->BA,cons->BB,length_filter_le->BC,map_append->BE,mem_of_mem_take->BF,Nodup->BH,pairwise_append->BJ,pairwise_map->BK,length_cons->BN,pairwise_cons->BP,append_nil->BR,getElem?_range->BS,foldl_cons->BT,any_eq_true->BV,foldr_cons->BW,ext_getElem->BX,append_inj_right'->BZ,flatMap_map->B3,replicate->B7,length_range->B8,pairwise_iff_getElem->Ce,nodup_nil->Cf,reverse_cons->Cg,filter_eq_self->Ch,pairwise_lt_range->Ci,flatMap_def->Ck,take_append_drop->Cl,nodup_cons->Co,nodup_range->Ct,Pairwise->Cv,mem_map_of_mem->CC,getElem?_map->CD,not_mem_nil->CF,take_succ_cons->CG,length_drop->CH,drop_eq_getElem_cons->CI,map_take->CJ,append_assoc->CK,eq_nil_or_concat->CM,concat_eq_append->CN,filter_congr->CO,getElem?_append_right->CQ,getElem?_append_left->CR,mem_of_find?_eq_some->CT,mem_take_iff_getElem->CU,findIdx?_eq_none_iff->CV,exists_mem_of_ne_nil->CW
open _root_.Bool renaming true->Ab,false->Ac,and_eq_true->BG,or_eq_true->Ca,eq_false_iff->CL
open D renaming row->Ad,val->Al,own->Ar,osl->Ax,agg->Ay,tup->Bw
open _root_.Inhabited renaming default->Af
open IntKind renaming u32->Ah,wrap->AH,i64->Bx,u64->Cj
open _root_.Go.Proofs.Tryz renaming prog->Ai
open Bd renaming f->Am,n->Au,P->AI,A->AK,R->AM,L->AP,desc->AS
open _root_.BitVec renaming ofInt->Ao,toNat->AF
open _root_.Int renaming toNat->Ap,toNat_natCast->AX,fdiv->BL
open Value renaming int->Aq,string->Bn,bool->BD
open _root_.Option renaming some->AA,none->AT,getD_some->B_,map_eq_some_iff->CS
open _root_.Nat renaming lt_or_ge->AC,le_refl->AE,le_trans->AG,pow_le_pow_right->AZ,zero_le->Bv,lt_of_lt_of_le->By,testBit->BM,mul_le_mul_right->BO,min_eq_left->B5,testBit_lt_two_pow->B6,eq_zero_or_pos->B9,pow_succ->Cb,mul_assoc->Cc,one_mul->Cd,mul_le_mul->Cp,mul_comm->Cq,mul_le_mul_left->Cr,testBit_and->CP
open Kd renaming plain->AD,isMap->Ba,isSh->Bb
open Bk renaming mk->AL,cells->AU,kd->Bl,fz->Br
open _root_.Prod renaming fst->AO
open Va renaming str->A2,kind->A5,int->A6
open Bg renaming k->Bh
open Lib renaming bitLen->Bo,compareBytes->BQ
open _root_.Classical renaming choose->BI,byContradiction->Cu,choose_spec->CE
open LeL renaming refl->BU,cons->BY
open LeD renaming nil_row->Cm
open TypeInfo renaming desc->Cx,mk->Cy
open TypeDesc renaming string->Cz
open _root_.ByteArray renaming mk->CA,toList->CB
open Go.RowKit
abbrev aG_:Prop:=(3=3/\3<=3/\True)/\0<3/\3=3/\3<=16777216/\1<=9223372036854775807
abbrev aH_:Prop:=(True/\0<3/\3=3/\0<=16777216/\0<=9223372036854775807)/\(1=1/\1<=1/\True)/\0<1/\1=1/\1<=16777216/\1<=9223372036854775807
abbrev aI_(p:Prop):Prop:=True/\0<2/\p
abbrev aJ_:Prop:=(1=1/\1<=1/\True)/\0<1/\1=1/\1<=16777216/\1<=9223372036854775807
abbrev aK_:Prop:=(3=3/\3<=6/\3=3/\6<=6/\True)/\0<3/\3=3/\6<=16777216/\2<=9223372036854775807
abbrev aL_:Prop:=0<2/\1<2/\Ac=Ac/\Ab=Ab/\5=5/\5<=5
abbrev aM_:Prop:=0<2/\1<2/\Ac=Ac/\Ab=Ab/\2=2/\2<=2
abbrev aN_(p:Prop):Prop:=((3=3/\3<=3/\True)/\0<3/\3=3/\3<=16777216/\1<=9223372036854775807)/\p
abbrev aO_:Prop:=True/\0<2
abbrev aP_(p:Prop):Prop:=True/\0<1/\p
abbrev aQ_:Prop:=True/\0<3/\3=3/\0<=16777216/\0<=9223372036854775807
abbrev aR_(p:Prop):Prop:=((1=1/\1<=1/\True)/\0<1/\1=1/\1<=16777216/\1<=9223372036854775807)/\Ab=Ab/\p
abbrev aS_:Prop:=True/\5<=5/\True/\0<3/\3=3/\0<=16777216/\0<=9223372036854775807
abbrev aT_(p:Prop):Prop:=(True/\0<1/\1=1/\0<=16777216/\0<=9223372036854775807)/\True/\p
abbrev aU_:Prop:=Ac=Ac/\Ab=Ab/\5=5/\5<=5
abbrev aV_:Prop:=0<3/\1<3/\2<3/\Ac=Ac/\Ab=Ab/\5=5/\5<=5
abbrev aW_:Prop:=True/\0<1
abbrev aX_:Prop:=True/\0<1/\1=1/\0<=16777216/\0<=9223372036854775807
abbrev aY_:Prop:=True/\0<6
abbrev aZ_:Prop:=(True/\Ab=Ab)/\Ac=Ac/\Ab=Ab/\2=2/\2<=2
abbrev a0_:Prop:=Ac=Ac/\Ab=Ab/\3=3/\3<=3
abbrev a1_:Prop:=True/\True/\5<=5/\0<2/\0<1/\True
abbrev a2_:Prop:=True/\Ac=Ac/\Ab=Ab/\1=1/\10<=10
abbrev a3_:Prop:=5<=5/\Ac=Ac/\Ab=Ab/\5=5/\5<=5
abbrev a4_:Prop:=0<2/\1<2
abbrev a5_:Prop:=True/\0<3
abbrev a6_:Prop:=5<=5/\5<=5
abbrev a7_:Prop:=0<1/\1=1
def rk(p:Nat->Bool)(v:Nat):Nat:=((Ak v).filter p).length
theorem rk_succ(p:Nat->Bool)(v:Nat):rk p (v+1)=rk p v+if p v then 1 else 0:=by
 grind [rk,Bp,Bt,only]
variable{u v:Nat}
theorem rk_mono(p:Nat->Bool)(h:u<=v):rk p u<=rk p v:=by
 induction h with
 |refl=>exact AE _
 |step _ ih=>rw[rk_succ];exact AG ih (Nat.le_add_right _ _)
theorem rk_lt{p:Nat->Bool}(h:u<v)(hp:p u=Ab):rk p u<rk p v:=by
 have h1:=rk_mono p (u:=u+1) (v:=v) h;grind [rk_succ]
theorem zXf(p:Nat->Bool):∀(N j:Nat),j<((Ak N).filter p).length->rk p (((Ak N).filter p).getD j 0)=j/\p (((Ak N).filter p).getD j 0)=Ab/\((Ak N).filter p).getD j 0<N
 |0,j,h=>by simp at h
 | N +1,j,h=>by
  rw[Bp,List.filter_append]at h⊢;rcases AC j ((Ak N).filter p).length with h1|h1
  ·obtain⟨a,b,c⟩:=zXf p N j h1;grind
  rw[Bt]at h;simp only[List.filter_cons,List.filter_nil]at h⊢;by_cases hp:p N=Ab
  ·simp only[hp,if_true]at h⊢;have h2:j=((Ak N).filter p).length:=by
    grind
   subst h2;rw[AB,CQ (AE _),Nat.sub_self];exact⟨rfl,hp,by show N<N+1;omega⟩
  grind
theorem zMc(s v:Nat)(hv:v<32)(hb:s.testBit v=Ab):(numL s).getD v 0=rk (λw=>s.testBit w) v:=by
 unfold numL;rw[AB,CD,BS hv,Option.map_some,if_pos hb];rfl
theorem zSj(s:Nat):(zAf s).length=rk (λw=>s.testBit w) 32:=rfl
variable{s n:Nat}
theorem bit_lt(h:s>>>n=0)(hb:s.testBit u=Ab):u<n:=by
 rcases AC u n with h1|h1
 ·exact h1
 have h2:(s>>>n).testBit (u-n)=s.testBit u:=by rw[Nat.testBit_shiftRight,show n+(u-n)=u by omega]
 rw[h,hb]at h2;simp at h2
theorem zEp(s:Nat)(A:List (List Nat×List Rw)){a:Nat}(h:a<A.length):(A.map (zBb s)).getD a Af=zBb s (A.getD a Af):=by
 grind
variable{A:List (List Nat×List Rw)}
theorem zXq(hn:n<=32)(hsn:s>>>n=0)(hV:Vok n A.length λi=>(A.getD i Af).1):Vok (zAf s).length A.length λi=>((A.map (zBb s)).getD i Af).1 where
 asc a h:=by
  rw[zEp s A h]
  refine BK.2 ?_
  refine((hV.asc a h).filter _).imp_of_mem λ{x y} hx hy hxy=>?_
  obtain⟨x1,x2⟩:=AV.1 hx
  obtain⟨y1,y2⟩:=AV.1 hy
  have:=hV.lt a h x x1
  have:=hV.lt a h y y1
  rw[zMc s x (by omega) x2,zMc s y (by omega) y2]
  exact rk_lt hxy x2
 lt a h w hw:=by
  rw[zEp s A h]at hw
  obtain⟨x,hx,rfl⟩:=AJ.1 hw
  obtain⟨x1,x2⟩:=AV.1 hx
  have:=hV.lt a h x x1
  rw[zMc s x (by omega) x2,zSj]
  exact rk_lt (by omega) x2
 cov v hv:=by
  obtain⟨h1,h2,h3⟩:=zXf (λw=>s.testBit w) 32 v hv
  obtain⟨a,ha,hm⟩:=hV.cov _ (bit_lt hsn h2)
  refine⟨a,ha,?_⟩
  rw[zEp s A ha]
  refine AJ.2 ⟨_,AV.2 ⟨hm,h2⟩,?_⟩
  rw[zMc s _ h3 h2,h1]
theorem part_ok(hn:n<=32)(hsn:s>>>n=0)(hA:A.length<=32)(hV:Vok n A.length λi=>(A.getD i Af).1)(hR:∀a∈A,a.2.length<=65536):AOk (mkP s A) where
 n:=AG (BC _ _) (by simp)
 na:=by show(A.map (zBb s)).length<=1000;rw[AN];omega
 p:=by show 5<=50000;omega
 v:=by
  show Vok (zAf s).length (A.map (zBb s)).length _
  rw[AN]
  exact zXq hn hsn hV
 r a ha:=by
  obtain⟨b,hb,rfl⟩:=AJ.1 ha
  refine⟨AG (zK6 s b) (hR b hb),λr hr=>?_,zXe _⟩
  obtain⟨q,_,rfl⟩:=AJ.1 (mem_relR.1 hr)
  show(zM q (zBc (λv=>s.testBit v) b.1)).length=((b.1.filter λv=>s.testBit v).map _).length
  rw[AN,zYz]
  simp[zM]
theorem accL_ok{ar:Nat}:∀{L:List Rw},(∀x∈L,x.length=ar/\x.all vok=Ab)->accL (ar:Nat) L=0
 |[],_=>rfl
 | x::L,h=>by
  obtain⟨h1,h2⟩:=h x (by simp);have h3:accE (ar:Nat) x=0:=by
   grind [accE]
  simp only[accL];rw[if_neg (by rw[h3];exact λk=>k rfl)];exact accL_ok λx hx=>h x (by simp[hx])
theorem jn_vok{n:Nat}(hao:AOk (mkP s A))(hR:∀a∈A,∀r∈a.2,r.length=a.1.length/\r.all vok=Ab):∀x∈jn (mkP s A),x.length=(zAf s).length/\x.all vok=true:=λx hx=>by
 obtain⟨h1,h2⟩:=((zHb hao).2 x).1 hx;refine⟨h1,Bi.2 λv hv=>?_⟩;obtain⟨w,hw,rfl⟩:=Bj hv;obtain⟨a,ha,hm⟩:=hao.v.cov w (by omega);have h3:=h2 a ha;have ha2:a<A.length:=by
  have:(mkP s A).A.length=A.length:=AN _;omega
 have hpa:(mkP s A).A.getD a Af=zBb s (A.getD a Af):=zEp s A ha2;rw[hpa]at h3;obtain⟨q,hq,e⟩:=AJ.1 (mem_relR.1 h3);have hmem:x[w]∈prj (mkP s A).vs a 0 x:=AJ.2 ⟨w,AV.2 ⟨hm,by simp⟩,by rw[AB,Aw hw];rfl⟩;rw[<-e]at hmem;have hA:A.getD a Af∈A:=by rw[AB,Aw ha2];exact AR ha2
 obtain⟨q1,q2⟩:=hR _ hA q hq;obtain⟨c,hc,e2⟩:=AJ.1 hmem;have hc2:=zKa _ _ c hc;rw[<-e2];refine Bi.1 q2 _ ?_;rw[AB,Aw (by omega:c<q.length)];exact AR _
theorem mat_c(n s:Nat)(A:List (List Nat×List Rw))(hn:n<32)(hs:s<4294967296)(hsn:s>>>n=0)(hA:A.length<=32)(hV:Vok n A.length λi=>(A.getD i Af).1)(hr1:∀a∈A,a.2.length<=65536)(hR:∀a∈A,∀r∈a.2,r.length=a.1.length/\r.all vok=Ab)(h0:0<(zAf s).length)(M:Nat)(hM:∀a∈A,a.2.length+(zAf s).length<=M)(hC:(A.length+1)*(cE A.length M (zAf s).length)+1<=big)(hJ:(jn (mkP s A)).length<=65536):∃z:Nat,z<=big/\Pure Ai 72 [iD (n:Nat),u32D s, .row (A.flatMap atR) A.length] [] (.tup [.agg (atR (zAf s,jn (mkP s A))),iD ((stpA s A+z+(jn (mkP s A)).length:Nat):Int),iD 0]):=by
 have hao:=part_ok (s:=s) (by omega:n<=32) hsn hA hV hr1;have hv:=zNr hV;have hjv:=jn_vok (n:=n) hao hR;have hpv:=zXq (s:=s) (by omega:n<=32) hsn hV;have hck:=zY2 (zAf s).length (A.map (zBb s)) (AG (BC _ _) (by simp)) (by rwa[AN]) (by rw[AN];exact hpv);rw[B3,AN]at hck;exact zQr n s A hn hs hsn hA (λa ha=>by
  obtain⟨v1,v2⟩:=hv a ha;have h3:=zHg (n:=n) 0 v1 λw hw=>⟨Bv _,v2 w hw⟩;exact⟨v1,λv h=>by have:=v2 v h;omega,by omega,hr1 a ha,λr h=>(hR a ha r h).1⟩) (zY2 n A (by omega) hA hV) hao h0 M (λa ha=>by
  obtain⟨b,hb,rfl⟩:=AJ.1 ha
  have:=zK6 s b
  have:=hM b hb
  omega) hC hck hJ (λr hr=>(hjv r hr).1) (zHb hao).1 (accL_ok hjv)
variable{e i c j f:Nat}
section
attribute [local irreducible] seqW awp zAd zAi zY Weak updS zAr retL Pure Acts rP setP setQ cP nP fr
set_option maxRecDepth 4096
theorem eset_c(v k:Nat)(p:Int)(hv:v<32)(hk:k<4294967296):Pure Ai 73 [.agg [iD (v:Nat),u32D k,iD p]] [] (u32D (k|||2^v)):=by
 have h4:=zEd hv;have h5:=zQj hk h4;refine zF zAx mixed Tryz.func73 rfl<|vAu<|zA<|vA<|vew [] [(3,Ac)] (True/\0<3/\decide ((v:Int)<0)=Ac/\a5_)<|vF ((v:Int)>=(32:Int))<|vK<|zA<|vd [0,2,1,3,4,5,6]<|vr 5 (True/\True/\0<2/\0<3/\(0:Int)<=(v:Int))<|vs 17 (Al<|Aq Ah<|AH Ah ((1:Int)*(2:Int)^min (Ap (v:Int)) 32)) (dig ((2:Nat)^v)) (hd:=by simp(disch:=omega) only[AX,zDx])<|vrT 1<|vs 18 (Al<|Aq Ah<|AH Ah (↑(AF (Ao 32 (k:Int)|||Ao 32 (↑((2:Nat)^v):Int))):Int)) (dig (k|||(2:Nat)^v)) (hd:=by simp(disch:=omega) only[zNb,zAu])<|veT<|zE<|vret (True)<|.inr rfl
abbrev matA(A:List (List Nat×List Rw))(b:Bg):List Nat×List Rw:=(zAf (bgS b),jn (mkP (bgS b) A))
def totS(A:List (List Nat×List Rw))(z:Bg->Nat)(L:List Bg):Nat:=(L.map λb=>stpA (bgS b) A+z b+(jn (mkP (bgS b) A)).length).sum
theorem zRl(A:List (List Nat×List Rw))(z:Bg->Nat)(L:List Bg)(b:Bg):totS A z (L++[b])=totS A z L+(stpA (bgS b) A+z b+(jn (mkP (bgS b) A)).length):=by simp[totS]
theorem all_c(n:Nat)(L:List Bg)(A:List (List Nat×List Rw))(z:Bg->Nat)(hl:L.length<=32)(hb:∀b∈L,b.v<32/\b.k<4294967296)(hm:∀b∈L,Pure Ai 72 [iD (n:Nat),u32D (bgS b), .row (A.flatMap atR) A.length] [] (.tup [.agg (atR (matA A b)),iD ((stpA (bgS b) A+z b+(jn (mkP (bgS b) A)).length:Nat):Int),iD 0]))(ht:∀i,i<=L.length->totS A z (L.take i)<=9000000000000000000):Pure Ai 32 [iD (n:Nat), .row (L.flatMap bgC) L.length, .row (A.flatMap atR) A.length] [] (.tup [.row (L.flatMap λb=>atR (matA A b)) L.length,iD ((totS A z L:Nat):Int),iD 0]):=by
 have hbc:∀b:Bg,(bgC b).length=3:=λ_=>rfl;refine zF zAx mixed Tryz.func32 rfl<|vAu<|vAe<|vAe<|zA<|vAe<|zJ<|zK (λ(i:Nat)=>fr 44 [(0,iD (n:Int)),(2,Ad (As atR A)<|Aa A),(9,Ax 0 0 i (i*3) Ab),(10,iD (↑(totS A z<|Aj i L):Int)),(16,Ad (As bgC L)<|Aa L),(17,iD (Aa L:Int)),(18,iD (i:Int))]) (λ(i:Nat)=>[(⟨(L.take i).flatMap λb=>atR (matA A b),87,3,Ab,Ac,.plain⟩:Bk)]) (λ(i:Nat)=>L.length-i) (λ(i:Nat)=>i<=L.length) 0 ?_ ?_ ?_
 ·omega
 ·refine vk 0
 intro i h1;rcases AC i L.length with h3|h3
 ·have hg2:=zC0 hbc L i h3;have hle:=zFw hbc L i h3;have hne:=zDe hbc (by decide) L;have htk:L.take (i+1)=L.take i++[L.getD i Af]:=by rw[A7 h3,AB,Aw h3];rfl
  have hbm:L.getD i Af∈L:=by rw[AB,Aw h3];exact AR h3
  obtain⟨b1,b2⟩:=hb _ hbm;have hmt:=hm _ hbm;have hse:=eset_c (L.getD i Af).v (L.getD i Af).k (L.getD i Af).p b1 b2;have ht1:=ht (i+1) (by omega);have hpl:((L.take i).flatMap λb=>atR (matA A b)).length=i*3:=by rw[zDn (c:=3) (λ_=>rfl),Bq,B5 h1]
  rw[htk,zRl]at ht1;refine vAu<|zA<|vT ((i:Int)<↑(Aa L))<|vKB<|vA<|vr 2 (ix ↑i ↑(Aa L) (As bgC L≠[])/\3<=Aa (Ag (i*3)<|As bgC L))<|vs 21 (Ay<|Aj 3<|Ag (i*3)<|As bgC L) (Ay<|bgC<|Az L i Af)<|ve (a0_)<|vA<|vr 2 (3<=3)<|vc hse<|vrT 1<|vc hmt<|ve (0<3/\1<3/\2<3/\Ac=Ac/\Ab=Ab/\3=3/\3<=3)<|zA<|vAe<|vf<|vK<|vA<|ve (3<=3/\((3=3/\3<=3/\True)/\0<3/\3=3/\3<=16777216/\1<=9223372036854775807)/\Ab=Ab/\Aa (As (λ(b:Bg)=>atR (matA A b))<|Aj i L)=i*3/\i*3=i*3/\87=87/\3=3/\3=3/\0<3/\0<56/\87=87/\(i+1)*56<=140737488355328/\3=3/\Ba AD=Ac/\(Ac=Ac\/Bb AD=Ab))<|zB rfl<|vr 4 (i6 ((↑(totS A z<|Aj i L):Int)+(↑(stpA (bgS<|Az L i Af) A+z (Az L i Af)+Aa (jn<|mkP (bgS<|Az L i Af) A)):Int)))<|vnil<|zD<|vN<|zB rfl<|vr 2 (i6 (↑i+1))<|vnil<|zC<|⟨i+1,h3,by omega,?_⟩;rw[htk,zRl,<-fl_app];refine vk 1
 obtain rfl:i=L.length:=by omega
 rw[A8];have hfa:((L.flatMap λb=>atR (matA A b)).take (L.length*3))=L.flatMap λb=>atR (matA A b):=zPd (c:=3) (g:=λb=>atR (matA A b)) (λ_=>rfl) L _ rfl;refine vAu<|zA<|vF ((Aa L:Int)<↑(Aa L))<|vZ2<|vAe<|zE<|zBm (True) (Bw [Ad (Aj (Aa L*3)<|Ag 0<|As (λ(b:Bg)=>atR (matA A b)) L)<|Aa L,iD ↑(totS A z L),iD 0]) (Bw [Ad (As (λ(b:Bg)=>atR (matA A b)) L)<|Aa L,Al<|Aq Bx (↑(totS A z L):Int),Al<|Aq Bx 0]) (.inr rfl) (by simp(disch:=omega) only[A1,hfa]) rfl
theorem below_n:∀n:Fin 33,Ah.wrap (Cj.wrap (Cj.wrap (1*2^min n.val 64)-1))=((2^n.val-1:Nat):Int):=by decide
theorem below_c(n:Nat)(hn:n<=32):Pure Ai 131 [iD (n:Nat)] [] (u32D (2^n-1)):=by
 have h:=below_n ⟨n,by omega⟩;simp only at h;refine zF zAx mixed Tryz.func131 rfl<|vAu<|vA<|vw 4 [5,6] [] ((0:Int)<=(n:Int)/\True/\True)<|vs 6 (Al<|Aq Ah<|AH Ah<|AH Cj (AH Cj ((1:Int)*(2:Int)^min n 64)-(1:Int))) (dig ((2:Nat)^n-1))<|veT<|zE<|vret (True)<|.inr rfl
abbrev grB(n e:D):Bk:=⟨[n,e],77,0,Ac,Ac, .plain⟩
abbrev uuB(l:List Nat):Bk:=⟨l.map u32D,36,1,Ab,Ac, .plain⟩
abbrev nl1:D:= .val (.slice AT 0 0)
theorem andn_lt(he:e<2^n):Ao 32 ((e:Nat):Int)&&&~~~Ao 32 ((2^n-1:Nat):Int)=0#32:=by
 rw[BitVec.ofInt_natCast,BitVec.ofInt_natCast];apply BitVec.eq_of_getLsbD_eq;intro i hi;rw[BitVec.getLsbD_and,BitVec.getLsbD_not,BitVec.getLsbD_ofNat,BitVec.getLsbD_ofNat,Nat.testBit_two_pow_sub_one];grind [B6,By,AZ]
theorem hd_u(E:List Nat)(i:Nat)(h:i<E.length):((E.map u32D).drop i).headD .unk=u32D (E.getD i 0):=zAq u32D E 0 i h
theorem zYo(n:Nat)(hn:n<=32)(E:List Nat)(hE:E.length<=64)(hl:∀e∈E,e<2^n):Pure Ai 108 [.agg [iD (n:Nat), .row (E.map u32D) E.length]] [] (iD 0):=by
 have hbe:=below_c n hn;refine zF zAx mixed Tryz.func108 rfl<|vAu<|zA<|vA<|vew [] [(3,Ac)] (aI_ (decide ((n:Int)<0)=Ac/\aO_))<|vF ((n:Int)>(32:Int))<|vK<|zA<|vA<|ve (aW_)<|vF ((Aa E:Int)>(64:Int))<|vK<|zA<|vA<|ve (aW_)<|zJ<|zK (λ(i:Nat)=>fr 31 [(1,Ar 0 0),(18,Ad (Ae u32D E)<|Aa E),(19,iD (Aa E:Int)),(20,iD (i:Int))]) (λ(i:Nat)=>[grB (iD (n:Nat))<|.row (E.map u32D) E.length]) (λ(i:Nat)=>E.length-i) (λ(i:Nat)=>i<=E.length) 0 ?_ ?_ ?_
 ·omega
 ·refine vk 1
 intro i h1;rcases AC i E.length with h3|h3
 ·have hmem:E.getD i 0∈E:=zBj E i h3;have hlt:=hl _ hmem;have hhd:=hd_u E i h3;have hz:=andn_lt hlt;refine vAu<|zA<|vT ((i:Int)<↑(Aa E))<|vKB<|vA<|vr 1 (ix ↑i ↑(Aa E) (Ae u32D E≠[])) ?_ ⟨(by omega),⟨(by omega),(by exact zAc)⟩⟩;refine vp 22 i (Ae u32D E)<|vr 1 (0<Aa (Ag i<|Ae u32D E))<|vsh 23 hhd<|veT<|vA<|vr 3 (aO_)<|vc hbe<|vrT 1<|vs 28 (Al<|Aq Ah<|AH Ah (↑(AF (Ao 32 (↑(Az E i 0):Int)&&&~~~Ao 32 (↑((2:Nat)^n-1):Int))):Int)) (dig<|AF<|BitVec.ofNat 32 0) (hd:=by simp(disch:=omega) only[zAu,hz])<|veT<|vf<|zT<|zD<|vN<|zB rfl<|vr 2 (i6 (↑i+1))<|vnil<|zC<|⟨i+1,by omega,by omega,?_⟩;refine vk 1
 refine vAu<|zA<|vF ((i:Int)<↑(Aa E))<|vZ2<|vAe<|zE<|vret (True)<|.inr rfl
def andn(e v:Nat):Nat:=(Ao 32 ((e:Nat):Int)&&&~~~Ao 32 ((2^v:Nat):Int)).toNat
theorem zWn(e v:Nat):andn e v<4294967296:=BitVec.isLt _
def adU(e m v:Nat):Nat:=if e.testBit v then m|||andn e v else m
def nbE(E:List Nat)(v:Nat):Nat:=E.foldl (λm e=>adU e m v) 0
theorem nbE_32:∀(E:List Nat)(v:Nat),nbE E v<4294967296:=λE v=>by
 have key:∀(E:List Nat)(m:Nat),m<4294967296->E.foldl (λm e=>adU e m v) m<4294967296:=by
  intro E;induction E with
  |nil=>exact λm h=>h
  |cons e E ih=>
   intro m h;rw[BT];refine ih _ ?_;unfold adU;split
   ·exact zQj h (zWn e v)
   exact h
 exact key E 0 (by omega)
theorem nbE_snoc(E:List Nat)(e v:Nat):nbE (E++[e]) v=adU e (nbE E v) v:=by
 grind [nbE]
def adL(E:List Nat)(e j:Nat):List D:=(Ak 32).map λv=>u32D (if v<j then adU e (nbE E v) v else nbE E v)
def adR(E:List Nat):List D:=(Ak 32).map λv=>u32D (nbE E v)
theorem adL_zero(E:List Nat)(e:Nat):adL E e 0=adR E:=AW λv _=>by rw[if_neg (by omega)]
theorem adL_hd(E:List Nat)(e j:Nat)(h:j<32):((adL E e j).drop j).headD .unk=u32D (nbE E j):=by
 unfold adL;simp_all
theorem adL_set(E:List Nat)(e j:Nat)(h:j<32):(adL E e j).set j (u32D (adU e (nbE E j) j))=adL E e (j+1):=by
 unfold adL;apply List.ext_getElem?;grind
theorem adL_no(E:List Nat)(e j:Nat)(h:e.testBit j=Ac):adL E e (j+1)=adL E e j:=AW λu _=>by
 by_cases h1:u<j
 ·rw[if_pos h1,if_pos (by omega)]
 rw[if_neg h1];by_cases h2:u=j
 ·subst h2;rw[if_pos (by omega)];unfold adU;rw[if_neg (by rw[h];decide)]
 rw[if_neg (by omega)]
theorem adL_all{E:List Nat}(h:e<2^n):adL E e n=adR (E++[e]):=AW λv _=>by
 rw[nbE_snoc];by_cases h1:v<n
 ·rw[if_pos h1]
 rw[if_neg h1];unfold adU;rw[if_neg (by rw[B6 (By h (AZ (by omega) (by omega)))];decide)]
theorem adL_len(E:List Nat)(e j:Nat):(adL E e j).length=32:=by simp[adL]
abbrev gaB(l:List D):Bk:=⟨l,144,0,Ac,Ac, .plain⟩
theorem adj_c(n:Nat)(hn:n<=32)(E:List Nat)(hE:E.length<=64)(hl:∀e∈E,e<2^n):Pure Ai 132 [.agg [iD (n:Nat), .row (E.map u32D) E.length]] [] (.agg ((Ak 32).map λv=>u32D (nbE E v))):=by
 refine zF zAx mixed Tryz.func132 rfl<|vAu<|vAe<|zA<|vA<|ve (aW_)<|zJ<|zK (λ(i:Nat)=>fr 36 [(1,Ar 0 0),(2,Ar 1 0),(3,Ar 2 0),(8,Ad (Ae u32D E)<|Aa E),(9,iD (Aa E:Int)),(10,iD (i:Int))]) (λ(i:Nat)=>[grB (iD (n:Nat))<|.row (E.map u32D) E.length,gaB<|adR [],gaB<|adR<|E.take i]) (λ(i:Nat)=>E.length-i) (λ(i:Nat)=>i<=E.length) 0 ?_ ?_ ?_
 ·omega
 ·refine vk 3
 intro i h1;rcases AC i E.length with h3|h3
 ·have hmem:E.getD i 0∈E:=zBj E i h3;have hhd:=hd_u E i h3;have hlt:=hl _ hmem;have htk:E.take (i+1)=E.take i++[E.getD i 0]:=by rw[A7 h3,AB,Aw h3];rfl
  generalize E.getD i 0=e at*;refine vAu<|zA<|vT ((i:Int)<↑(Aa E))<|vKB<|vA<|vr 1 (ix ↑i ↑(Aa E) (Ae u32D E≠[])) ?_ ⟨(by omega),⟨(by omega),(by exact zAc)⟩⟩;refine vp 12 i (Ae u32D E)<|vr 1 (0<Aa (Ag i<|Ae u32D E))<|vsh 13 hhd<|veT<|vA<|ve (aO_)<|zJ<|zK (λ(j:Nat)=>fr 36 [(1,Ar 0 0),(2,Ar 1 0),(3,Ar 2 0),(5,dig e),(8,Ad (Ae u32D E)<|Aa E),(9,iD<|Aa E),(10,iD i),(15,iD n),(16,iD j)]) (λ(j:Nat)=>[grB (iD (n:Nat))<|.row (E.map u32D) E.length,gaB<|adR [],gaB<|adL (E.take i) e j]) (λ(j:Nat)=>n-j) (λ(j:Nat)=>j<=n) 0 ?_ ?_ ?_
  ·omega
  ·rw[adL_zero];refine vk 3
  intro j h2;rcases AC j n with h4|h4
  ·have h5:j<32:=by omega
   have h7:=nbE_32 (E.take i) j;have h8:=zQj h7 (zWn e j);have he32:e<4294967296:=By hlt (AZ (by omega) hn);have hdj:=adL_hd (E.take i) e j h5;have hll:=adL_len (E.take i) e j;have hor:(Ao 32 ((nbE (E.take i) j:Nat):Int)|||Ao 32 (((Ao 32 ((e:Nat):Int)&&&~~~Ao 32 ((2^j:Nat):Int)).toNat:Nat):Int)).toNat=nbE (E.take i) j|||andn e j:=zNb h7 (zWn e j);focus
    refine vAu<|zA<|vT ((j:Int)<↑n)<|vKB<|vAe<|vA<|vr 3 ((0:Int)<=(j:Int))<|vs 21 (Al<|Aq Ah<|BL (e:Int) ((2:Int)^min (Ap (j:Int)) 32)) (dig (e>>>j)) (hd:=by simp(disch:=omega) only[AX,zDw])<|vrT 1<|vs 22 (Al<|Aq Ah<|AH Ah (↑(AF (Ao 32 (↑(e>>>j):Int)&&&Ao 32 (1:Int))):Int)) (dig<|AF (Ao 32 (↑(e>>>j):Int)&&&Ao 32 (1:Int))) (hd:=by simp(disch:=omega) only[zAu])<|vrT 1<|vs 23 (bD ((↑(AF (Ao 32 (↑(e>>>j):Int)&&&Ao 32 (1:Int))):Int)==(1:Int))) (bD<|BM e j) (hd:=by simp(disch:=omega) only[zWe])<|veT<|zA5 (t:=BM e j) (by kernel_rfl) (λhc=>?_)<|λhc=>?_;refine vd [0,1,3,4,5,6,2,7,8,9]<|vr 2 ((0:Int)<=(j:Int)/\(j:Int)<↑(32:Nat))<|vo 25 2 j<|vr 3 ((0:Int)<=(j:Int))<|vs 29 (Al<|Aq Ah<|AH Ah ((1:Int)*(2:Int)^min (Ap (j:Int)) 32)) (dig ((2:Nat)^j)) (hd:=by simp(disch:=omega) only[AX,zDx])<|vrT 1<|vs 30 (Al<|Aq Ah<|AH Ah (↑(AF (Ao 32 (e:Int)&&&~~~Ao 32 (↑((2:Nat)^j):Int))):Int)) (dig<|AF (Ao 32 (e:Int)&&&~~~Ao 32 (↑((2:Nat)^j):Int))) (hd:=by simp(disch:=omega) only[zAu])<|vr 1 (0<Aa (Ag j<|AU<|gaB<|adL (Aj i E) e j))<|vsh 26 hdj<|vrT 1<|vs 31 (Al<|Aq Ah<|AH Ah (↑(AF (Ao 32 (↑(nbE (Aj i E) j):Int)|||Ao 32 (↑(AF (Ao 32 (e:Int)&&&~~~Ao 32 (↑((2:Nat)^j):Int))):Int))):Int)) (dig (nbE (Aj i E) j|||andn e j)) (hd:=by simp(disch:=omega) only[zAu,hor])<|vr 1 ((0:Int)<=(j:Int)/\(j:Int)<↑(32:Nat))<|vo 32 2 j<|vr 1 (Br (gaB<|adL (Aj i E) e j)=Ac/\Ab=Ab/\1=1/\j+1<=32)<|vnil<|zD<|vN<|zB rfl<|vr 2 (i6 (↑j+1))<|vnil<|zC ?_;rotate_left;refine zT<|zD<|vN<|zB rfl<|vr 2 (i6 (↑j+1))<|vnil<|zC ?_;rotate_left
   ·have hc2:e.testBit j=true:=by assumption
    have hset:=adL_set (E.take i) e j h5;unfold adU at hset;rw[if_pos hc2]at hset;refine⟨j+1,by omega,by omega,?_⟩;rw[<-hset];refine vk 3
   have hc2:e.testBit j=false:=by assumption
   refine⟨j+1,by omega,by omega,?_⟩;rw[adL_no _ _ _ hc2];refine vk 3
  obtain rfl:j=n:=by omega
  rw[adL_all hlt,<-htk];refine vAu<|zA<|vF ((j:Int)<↑j)<|vY2<|zD<|vN<|zB rfl<|vr 2 (i6 (↑i+1))<|vnil<|zC<|⟨i+1,by omega,by omega,?_⟩;refine vk 3
 obtain rfl:i=E.length:=by omega
 rw[A8];refine vAu<|zA<|vF ((Aa E:Int)<↑(Aa E))<|vZ2<|vA<|ve (32<=32/\Ac=Ac/\Ab=Ab/\32=32/\32<=32)<|zE<|vret (32<=32)<|.inr rfl
theorem adR_get(E:List Nat)(j:Nat)(h:j<32):(adR E).getD j .unk=u32D (nbE E j):=by
 grind [adR,BS]
theorem nbrs_c(n v:Nat)(hn:n<=32)(hv:v<n)(E:List Nat)(hE:E.length<=64)(hl:∀e∈E,e<2^n):Pure Ai 109 [.agg [iD (n:Nat), .row (E.map u32D) E.length],iD (v:Nat)] [] (u32D (nbE E v)):=by
 have hck:=zYo n hn E hE hl;have had:=adj_c n hn E hE hl;have hhd:=adR_get E v (by omega);have hal:(adR E).length=32:=by simp[adR]
 change Pure _ _ _ _ (.agg (adR E))at had;generalize adR E=l at had hhd hal;refine zF zAx mixed Tryz.func109 rfl<|vAu<|zA<|vA<|vr 1 (2<=2)<|vc (hck)<|vew [] [(7,Ac)] (True/\decide ((v:Int)<0)=Ac/\aO_)<|vF ((v:Int)>=(n:Int))<|vK<|vA<|vr 1 (2<=2)<|vc (had)<|vr 2 (ix (v:Int) (↑(32:Nat):Int) (Ap (v:Int)*1<Aa l))<|vs 21 (Az l (Ap (v:Int)*1) Uk) (u32D<|nbE E v)<|veT<|zE<|vret (True)<|.inr rfl
theorem cfree_c(n f:Nat)(hn:n<=32)(hf:f<=n)(E:List Nat)(hE:E.length<=64)(hl:∀e∈E,e<2^n):Pure Ai 70 [.agg [iD (n:Nat), .row (E.map u32D) E.length],iD (f:Nat)] [] (iD 0):=by
 have hck:=zYo n hn E hE hl;refine zF zAx mixed Tryz.func70 rfl<|vAu<|zA<|vA<|vr 1 (2<=2)<|vc (hck)<|veT<|vAe<|vf<|vK<|zA<|vA<|vew [] [(2,Ac)] (decide ((f:Int)<0)=Ac/\aO_)<|vF ((f:Int)>(n:Int))<|vK<|vAe<|zE<|vret (True)<|.inr rfl
def eaL(E:List Nat)(i:Nat):List D:=(Ak 32).map λv=>u32D (if v<i then nbE E v else 0)
theorem eaL_set(E:List Nat)(i:Nat)(h:i<32):(eaL E i).set i (u32D (nbE E i))=eaL E (i+1):=by
 unfold eaL;apply List.ext_getElem?;grind
theorem eadj_c(n:Nat)(hn:n<=32)(E:List Nat)(hE:E.length<=64)(hl:∀e∈E,e<2^n):Pure Ai 71 [.agg [iD (n:Nat), .row (E.map u32D) E.length]] [] (.agg (eaL E n)):=by
 refine zF zAx mixed Tryz.func71 rfl<|vAu<|vAe<|zA<|vA<|ve (aO_)<|zJ<|zK (λ(i:Nat)=>fr 17 [(1,Ar 0 0),(2,Ar 1 0),(3,Ar 2 0),(6,iD (n:Int)),(7,iD (i:Int))]) (λ(i:Nat)=>[grB (iD (n:Nat))<|.row (E.map u32D) E.length,gaB<|eaL E 0,gaB<|eaL E i]) (λ(i:Nat)=>n-i) (λ(i:Nat)=>i<=n) 0 ?_ ?_ ?_
 ·omega
 ·refine vk 3
 intro i h1;rcases AC i n with h3|h3
 ·have hnb:=nbrs_c n i hn h3 E hE hl;have hset:=eaL_set E i (by omega);refine vAu<|zA<|vT ((i:Int)<↑n)<|vKB<|vAe<|zB rfl<|vr 3 (2<=2)<|vc hnb<|vr 1 ((0:Int)<=(i:Int)/\(i:Int)<↑(32:Nat))<|vo 14 2 i<|vr 1 (Br (gaB<|eaL E i)=Ac/\Ab=Ab/\1=1/\i+1<=32)<|vnil<|zD<|vN<|zB rfl<|vr 2 (i6 (↑i+1))<|vnil<|zC<|⟨i+1,by omega,by omega,?_⟩;rw[<-hset];refine vk 3
 obtain rfl:i=n:=by omega
 refine vAu<|zA<|vF ((i:Int)<↑i)<|vZ2<|vA<|ve (32<=32/\Br (gaB<|eaL E 0)=Ac/\Ab=Ab/\32=32/\32<=32)<|zE<|vret (32<=32)<|.inr rfl
abbrev iaB(l:List D):Bk:=⟨l,143,0,Ac,Ac, .plain⟩
abbrev bgE(l:List D):Bk:=⟨l,99,3,Ab,Ac, .plain⟩
abbrev bgK(v k:Nat)(p:Int):Bk:=⟨[iD (v:Nat),u32D k,iD p],99,0,Ac,Ac, .plain⟩
theorem rep32:B7 32 (iD 0)=fA 32 λ_=>iD 0:=fA_rep _
theorem ebags_c(n f:Nat)(hn:n<=32)(E:List Nat)(hE:E.length<=64)(hl:∀e∈E,e<2^n)(P:List Nat)(hf:P.length+f=n)(hP:∀v∈P,f<=v/\v<n)(hnd:P.Nodup)(nb:Nat->Nat)(hnb:nb=λv=>if v<n then nbE E v else 0):Pure Ai 31 [.agg [iD (n:Nat), .row (E.map u32D) E.length],iD (f:Nat), .row (nsD P) P.length] [] (.tup [.row ((Ak n).flatMap λv=>bgC (bagE n (ordL f P) nb v)) n,iD 0]):=by
 have hcf:=cfree_c n f hn (by omega) E hE hl;have had:=eadj_c n hn E hE hl;have hea:eaL E n=fA 32 λv=>u32D (nb v):=by subst hnb;rfl
 rw[hea]at had;have hal:(fA 32 λv=>u32D (nb v)).length=32:=zEy;have hsa:=setAt_rep (.val (.int .u32 0)) hal;simp only[B7]at hsa;generalize hg:(fA 32 λv=>u32D (nb v))=l0 at*;have hb32:∀v,nb v<4294967296:=λv=>by
  grind [only,nbE_32]
 have hms:∀i,msk (P.take i)<4294967296:=λi=>zSi λv hv=>by have:=(hP v (BF hv)).2;omega
 refine zF zAx mixed Tryz.func31 rfl<|vAu<|zA<|vA<|vr 2 (2<=2)<|vc (hcf)<|veT<|vAe<|vf<|vK<|vAe<|zA<|vAe<|zJ<|zK (λ(i:Nat)=>fr 155 [(1,iD (f:Int)),(2,Ad (nsD P)<|Aa P),(3,Ar 0 0),(9,u32D<|msk<|Aj i P),(28,Ad (nsD P)<|Aa P),(29,iD (Aa P:Int)),(30,iD (i:Int))]) (λ(i:Nat)=>[grB (iD (n:Nat))<|.row (E.map u32D) E.length]) (λ(i:Nat)=>P.length-i) (λ(i:Nat)=>i<=P.length) 0 ?_ ?_ ?_
 ·omega
 ·refine vk 1
 intro i h1;rcases AC i P.length with h3|h3
 ·have h4:=hP _ (zBj P i h3);have h5:=zEd (by omega:P.getD i 0<32);have h6:=zQj (hms i) h5;have h7:=hms i;have h8:(msk (P.take i)).testBit (P.getD i 0)=false:=by
   grind [zD0,Bj,Aw,List.getElem_inj]
  have hbt:=zQp P i h3;have hhd:=zBr P i h3;generalize P.getD i 0=v at*;refine vAu<|zA<|vT ((i:Int)<↑(Aa P))<|vKB<|vA<|vr 1 (ix ↑i ↑(Aa P) (nsD P≠[])) ?_ ⟨(by omega),⟨(by omega),(by exact zAc)⟩⟩;refine vp 32 i (nsD P)<|vr 1 (0<Aa (Ag i<|nsD P))<|vsh 33 hhd<|veT<|zA<|vA<|vw 13 [] [(3,Ac),(9,Ac)] (decide ((v:Int)<↑f)=Ac/\True/\0<2/\decide ((v:Int)>=(n:Int))=Ac/\(0:Int)<=(v:Int))<|vs 46 (Al<|Aq Ah<|BL (↑(msk<|Aj i P):Int) ((2:Int)^min (Ap (v:Int)) 32)) (dig (msk (Aj i P)>>>v)) (hd:=by simp(disch:=omega) only[AX,zDw])<|vrT 1<|vs 47 (Al<|Aq Ah<|AH Ah (↑(AF (Ao 32 (↑(msk (Aj i P)>>>v):Int)&&&Ao 32 (1:Int))):Int)) (dig<|AF (Ao 32 (↑(msk (Aj i P)>>>v):Int)&&&Ao 32 (1:Int))) (hd:=by simp(disch:=omega) only[zAu])<|vrT 1<|vs 48 (bD ((↑(AF (Ao 32 (↑(msk (Aj i P)>>>v):Int)&&&Ao 32 (1:Int))):Int)==(1:Int))) (bD Ac) (hd:=by simp(disch:=omega) only[zWe,h8])<|veT<|vf<|vK<|zB rfl<|vr 3 ((0:Int)<=(v:Int))<|vs 52 (Al<|Aq Ah<|AH Ah ((1:Int)*(2:Int)^min (Ap (v:Int)) 32)) (dig ((2:Nat)^v)) (hd:=by simp(disch:=omega) only[AX,zDx])<|vrT 1<|vs 53 (Al<|Aq Ah<|AH Ah (↑(AF (Ao 32 (↑(msk<|Aj i P):Int)|||Ao 32 (↑((2:Nat)^v):Int))):Int)) (dig (msk (Aj i P)|||(2:Nat)^v)) (hd:=by simp(disch:=omega) only[zNb,zAu])<|vrT 1<|vnil<|zD<|vN<|zB rfl<|vr 2 (i6 (↑i+1))<|vnil<|zC<|⟨i+1,by omega,by omega,?_⟩;rw[hbt];refine vk 1
 obtain rfl:i=P.length:=by omega
 have hcp:setAt (B7 32 (iD 0)) 0 (Aj (min P.length 32) (nsD P))=fA 32 λu=>iD ((if u<P.length then P.getD u 0 else 0:Nat):Int):=by
  rw[rep32,zYu,B5 (by omega),Bc (by simp)];grind
 simp only[B7]at hcp;have hO:=zQi (f:=f) hf;have hol:∀u,u<P.length->(ordL f P).getD u 0=P.getD u 0:=λu hu=>by
  grind [ordL,CR]
 have hor:∀j,j<f->(ordL f P).getD (P.length+j) 0=f-1-j:=λj hj=>by
  grind [ordL,CQ,Nat.add_sub_cancel_left,B8,BS]
 have hoL:=zVd hf hP;have hoN:=zVc hP hnd;have hOm:∀j,j<n->(ordL f P).getD j 0∈ordL f P:=λj hj=>zBj _ _ (by omega);have hix:∀j,j<n->(ordL f P).idxOf ((ordL f P).getD j 0)=j:=λj hj=>by
  grind
 have hxi:∀v,v<n->(ordL f P).idxOf v<n/\(ordL f P).getD ((ordL f P).idxOf v) 0=v:=λv hv=>by
  have h1:=zGl hoN hO hoL v hv;grind
 have hst:(fA 32 λu=>iD ((if u<P.length then P.getD u 0 else 0:Nat):Int))=fA 32 λu=>iD ((oI P.length (ordL f P) 0 u:Nat):Int):=zB8 λu _=>by
  grind [oI]
 rw[hst]at hcp;clear hst;generalize hOO:ordL f P=O at*;have hz:=rep32;simp only[B7]at hz;refine vAu<|zA<|vF ((Aa P:Int)<↑(Aa P))<|vZ2<|zA<|vA<|ve (aI_ (i6 ((n:Int)-(f:Int))/\True))<|zEz (t:=(Aa P:Int)!=(n:Int)-(f:Int)) (by kernel_rfl) (by simpa using by omega)<|vK<|vAe<|vA<|vr 3 ((True/\True/\0<1/\32<=32/\32<=maxLen)/\Ac=Ac/\Ac=Ac/\0<1/\3=3/\Aa (nsD P)=Aa P*1/\32<=32)<|vb 1 (AL (setAt [iD 0,iD 0,iD 0,iD 0,iD 0,iD 0,iD 0,iD 0,iD 0,iD 0,iD 0,iD 0,iD 0,iD 0,iD 0,iD 0,iD 0,iD 0,iD 0,iD 0,iD 0,iD 0,iD 0,iD 0,iD 0,iD 0,iD 0,iD 0,iD 0,iD 0,iD 0,iD 0] 0<|Aj (min (Aa P) 32*1)<|nsD P) 143 0 Ac Ac AD) (AL (fA 32 λ(u:Nat)=>iD (↑(oI (Aa P) O 0 u):Int)) 143 0 Ac Ac AD) (hd:=by simp(disch:=omega) only[Nat.mul_one,hcp])<|veT<|zA<|vAe<|zJ<|zK (λ(i:Nat)=>fr 155 [(1,iD f),(2,Ad (nsD P)<|Aa P),(3,Ar 0 0),(12,Ar 1 0),(13,Ar 2 0),(65,iD f),(66,iD i)]) (λ(i:Nat)=>[grB (iD (n:Nat))<|.row (E.map u32D) E.length,iaB (fA 32 λu=>iD ((oI P.length O i u:Nat):Int)),iaB (fA 32 λ_=>iD 0)]) (λ(i:Nat)=>f-i) (λ(i:Nat)=>i<=f) 0 ?_ ?_ ?_
 ·omega
 ·rw[<-hz];refine vk 3
 intro i h1;rcases AC i f with h3|h3
 ·have hset:(fA 32 λu=>iD ((oI P.length O i u:Nat):Int)).set (P.length+i) (iD ((f:Int)-1-(i:Int)))=fA 32 λu=>iD ((oI P.length O (i+1) u:Nat):Int):=by
   rw[zEx];refine zB8 λu _=>?_;unfold oI;by_cases h:u=P.length+i;all_goals grind
  refine vAu<|zA<|vT ((i:Int)<↑f)<|vKB<|vAe<|zB rfl<|vr 9 (i6 ((Aa P:Int)+(i:Int))/\i6 (↑f-1)/\i6 ((f:Int)-(1:Int)-(i:Int))/\(0:Int)<=(Aa P:Int)+(i:Int)/\(Aa P:Int)+(i:Int)<↑(32:Nat))<|vo 77 1 (Ap ((Aa P:Int)+(i:Int)))<|vr 1 (Br (iaB (fA 32 λ(u:Nat)=>iD (↑(oI (Aa P) O i u):Int)))=Ac/\Ab=Ab/\1=1/\Ap ((Aa P:Int)+(i:Int))+1<=32)<|vnil<|zD<|vN<|zB rfl<|vr 2 (i6 (↑i+1))<|vnil<|zC<|⟨i+1,by omega,by omega,?_⟩;rw[<-hset];refine vk 3
 obtain rfl:i=f:=by omega
 have hall:(fA 32 λu=>iD ((oI P.length O i u:Nat):Int))=fA 32 λu=>iD ((O.getD u 0:Nat):Int):=zB8 λu _=>by
  unfold oI;grind
 rw[hall];have hz2:(fA 32 λ_=>iD 0)=fA 32 λu=>iD ((pI O 0 u:Nat):Int):=zB8 λu _=>by unfold pI;rw[if_neg (by omega)];rfl
 rw[hz2];refine vAu<|zA<|vF ((i:Int)<↑i)<|vZ2<|zA<|vA<|ve (aO_)<|zJ<|zK (λ(j:Nat)=>fr 155 [(3,Ar 0 0),(12,Ar 1 0),(13,Ar 2 0),(80,iD n),(81,iD j)]) (λ(j:Nat)=>[grB (iD (n:Nat))<|.row (E.map u32D) E.length,iaB (fA 32 λu=>iD ((O.getD u 0:Nat):Int)),iaB (fA 32 λu=>iD ((pI O j u:Nat):Int))]) (λ(j:Nat)=>n-j) (λ(j:Nat)=>j<=n) 0 ?_ ?_ ?_
 ·omega
 ·refine vk 3
 intro j h2;rcases AC j n with h4|h4
 ·have hv:=hoL _ (hOm j h4);have hhd:=zD7 (g:=λu=>iD ((O.getD u 0:Nat):Int)) (N:=32) (by omega:j<32);have hset:(fA 32 λu=>iD ((pI O j u:Nat):Int)).set (O.getD j 0) (iD (j:Nat))=fA 32 λu=>iD ((pI O (j+1) u:Nat):Int):=by
   rw[zEx];refine zB8 λu _=>?_;unfold pI;by_cases h:u=O.getD j 0
   ·grind
   rw[if_neg h];by_cases h2:O.idxOf u<j;all_goals grind
  generalize O.getD j 0=v at*;refine vAu<|zA<|vT ((j:Int)<↑n)<|vKB<|vAe<|zB rfl<|vr 2 ((0:Int)<=(j:Int)/\(j:Int)<↑(32:Nat))<|vo 85 1 j<|vr 1 (0<Aa (Ag j<|AU<|iaB (fA 32 λ(u:Nat)=>iD ↑(Az O u 0)))) (vsh 86 hhd<|vr 2 ((0:Int)<=(v:Int)/\(v:Int)<↑(32:Nat))<|vo 88 2 v<|vr 1 (Br (iaB (fA 32 λ(u:Nat)=>iD ↑(pI O j u)))=Ac/\Ab=Ab/\1=1/\v+1<=32)<|vnil<|zD<|vN<|zB rfl<|vr 2 (i6 (↑j+1)) ?_) (by exact zCd (by omega));refine vnil<|zC<|⟨j+1,by omega,by omega,?_⟩;rw[<-hset];refine vk 3
 obtain rfl:j=n:=by omega
 refine vAu<|zA<|vF ((j:Int)<↑j)<|vZ2<|vA<|vr 1 (2<=2)<|vc had<|vr 2 (Ac=Ac/\Ab=Ab/\Aa (cellsOf<|Ay l0)=32/\32<=32)<|vb 3 (AL (setAt [Al<|Aq Ah 0,Al<|Aq Ah 0,Al<|Aq Ah 0,Al<|Aq Ah 0,Al<|Aq Ah 0,Al<|Aq Ah 0,Al<|Aq Ah 0,Al<|Aq Ah 0,Al<|Aq Ah 0,Al<|Aq Ah 0,Al<|Aq Ah 0,Al<|Aq Ah 0,Al<|Aq Ah 0,Al<|Aq Ah 0,Al<|Aq Ah 0,Al<|Aq Ah 0,Al<|Aq Ah 0,Al<|Aq Ah 0,Al<|Aq Ah 0,Al<|Aq Ah 0,Al<|Aq Ah 0,Al<|Aq Ah 0,Al<|Aq Ah 0,Al<|Aq Ah 0,Al<|Aq Ah 0,Al<|Aq Ah 0,Al<|Aq Ah 0,Al<|Aq Ah 0,Al<|Aq Ah 0,Al<|Aq Ah 0,Al<|Aq Ah 0,Al<|Aq Ah 0] 0<|cellsOf<|Ay l0) 144 0 Ac Ac AD) (AL l0 144 0 Ac Ac AD)<|veT<|vA<|vr 3 (aI_ ((0:Int)<=(j:Int)/\(j:Int)<=↑j/\(↑(24:Nat):Int)*(j:Int)<=(281474976710656:Int)/\(j:Int)<=(281474976710656:Int)/\0<3/\3=3))<|vb 4 (AL (repL (Ap (j:Int)) [iD 0,Al<|Aq Ah 0,iD 0]) 99 3 Ab Ac<|kdOf Ac) (AL (As (λ(x:Nat)=>[iD 0,Al<|Aq Ah 0,iD 0])<|Ak j) 99 3 Ab Ac<|kdOf Ac) (hd:=by simp(disch:=omega) only[AX,repL_fl])<|veT<|zA<|vA<|ve (aO_)<|zJ ?_;have hbz:(Ak j).flatMap (λ_=>[iD 0, .val (.int .u32 0),iD 0])=(Ak j).flatMap (bI (bagE j O nb) O 0):=by
  refine congrArg (λg=>(Ak j).flatMap g) (funext λu=>?_);grind [bI]
 rw[hbz,<-hg];have hpl:(fA 32 λu=>iD ((pI O j u:Nat):Int))=fA 32 λu=>iD ((pI O j u:Nat):Int):=rfl;refine zK (λ(i:Nat)=>fr 155 [(3,Ar 0 0),(12,Ar 1 0),(13,Ar 2 0),(16,Ar 3 0),(17,Ax 4 0 j (j*3) Ab),(96,iD j),(97,iD i)]) (λ(i:Nat)=>[grB (iD (j:Nat))<|.row (E.map u32D) E.length,iaB (fA 32 λu=>iD ((O.getD u 0:Nat):Int)),iaB (fA 32 λu=>iD ((pI O j u:Nat):Int)),gaB (fA 32 λu=>u32D (nbT j O nb i u)),bgE<|(Ak j).flatMap<|bI (bagE j O nb) O i]) (λ(i:Nat)=>j-i) (λ(i:Nat)=>i<=j) 0 ?_ ?_ ?_
 ·omega
 ·refine vk 5
 clear hsa hal had hea hg l0;intro i h1;rcases AC i j with h3|h3
 ·have hv:=hoL _ (hOm i h3);have hhd:=zD7 (g:=λu=>iD ((O.getD u 0:Nat):Int)) (N:=32) (by omega:i<32);have hpi:∀u,u<j->pI O j u=O.idxOf u:=λu hu=>by unfold pI;rw[if_pos (hxi u hu).1]
  have hid:=hix i h3;have hT:=zMh (n:=j) (O:=O) hb32 i;have hT1:nbT j O nb (i+1)=nbJ (nbT j O nb i (O.getD i 0)) (O.getD i 0) j (nbT j O nb i):=rfl;have hbg:bagE j O nb (O.getD i 0)=⟨O.getD i 0,nbT j O nb i (O.getD i 0),pz (parJ (nbT j O nb i (O.getD i 0)) (λu=>O.idxOf u) j)⟩:=by unfold bagE;rw[hid]
  generalize nbT j O nb i=T at*;generalize O.getD i 0=v at*;have hhn:=zD7 (g:=λu=>u32D (T u)) (N:=32) (by omega:v<32);refine vAu<|zA<|vT ((i:Int)<↑j)<|vKB<|vAe<|vA<|vr 2 ((0:Int)<=(i:Int)/\(i:Int)<↑(32:Nat))<|vo 101 1 i<|vr 1 (0<Aa (Ag i<|AU<|iaB (fA 32 λ(u:Nat)=>iD ↑(Az O u 0)))) (vsh 102 hhd<|veT<|vA<|vr 3 ((0:Int)<=(v:Int)/\(v:Int)<↑(32:Nat))<|vo 105 3 v<|vr 1 (0<Aa (Ag v<|AU<|gaB (fA 32 λ(u:Nat)=>u32D (T u)))) (vsh 106 hhn<|ve (((1=1/\1<=3/\1=1/\2<=3/\1=1/\3<=3/\True)/\Ab=Ab)/\Ac=Ac/\Ab=Ab/\3=3/\3<=3) ?_) (by exact zCd (by omega))) (by exact zCd (by omega));refine zA<|vA<|ve (aO_)<|zJ ?_;have hkv:=hT v;generalize hk:T v=key at*;refine zK (λ(q:Nat)=>fr 155 [(3,Ar 0 0),(12,Ar 1 0),(13,Ar 2 0),(16,Ar 3 0),(17,Ax 4 0 j (j*3) Ab),(19,iD v),(20,Ar 5 0),(96,iD j),(97,iD i),(109,iD j),(110,iD q)]) (λ(q:Nat)=>[grB (iD (j:Nat))<|.row (E.map u32D) E.length,iaB (fA 32 λu=>iD ((O.getD u 0:Nat):Int)),iaB (fA 32 λu=>iD ((pI O j u:Nat):Int)),gaB (fA 32 λu=>u32D (nbJ key v q T u)),bgE<|(Ak j).flatMap<|bI (bagE j O nb) O i,bgK v key<|pz<|parJ key (λu=>O.idxOf u) q]) (λ(q:Nat)=>j-q) (λ(q:Nat)=>q<=j) 0 ?_ ?_ ?_
  ·omega
  ·rw[nbJ_zero];refine vk 6
  intro q h5;rcases AC q j with h6|h6
  ·have hhp:=zD7 (g:=λu=>iD ((pI O j u:Nat):Int)) (N:=32) (by omega:q<32);have hhq:=zD7 (g:=λu=>u32D (nbJ key v q T u)) (N:=32) (by omega:q<32);have hTq:nbJ key v q T q=T q:=by unfold nbJ;rw[if_neg (by omega)]
   rw[hTq]at hhq;rw[hpi q h6]at hhp;have hq2:=zEd (by omega:q<32);have hv2:=zEd (by omega:v<32);have hqv:=zQj hq2 hv2;have hqk:=zQj (hT q) hkv;have han:=andm_32 (T q|||key) (2^q|||2^v);have hq32:=hT q;by_cases hb:key.testBit q=Ab
   ·have hset:(fA 32 λu=>u32D (nbJ key v q T u)).set q (u32D (andm (T q|||key) (2^q|||2^v)))=fA 32 λu=>u32D (nbJ key v (q+1) T u):=by
     rw[zEx];refine zB8 λu _=>?_;rw[nbJ_succ hb];split<;>rfl
    unfold andm at hset han;cases hp:parJ key (λu=>O.idxOf u) q with
    |none=>
     have hp1:parJ key (λu=>O.idxOf u) (q+1)=AA q:=by rw[parJ,if_pos hb,hp]
     refine vAu<|zA<|vT ((q:Int)<↑j)<|vKB<|vAe<|zA<|vA<|vr 4 (aI_ ((0:Int)<=(q:Int)))<|vs 116 (Al<|Aq Ah<|BL (key:Int) ((2:Int)^min (Ap (q:Int)) 32)) (dig (key>>>q)) (hd:=by simp(disch:=omega) only[AX,zDw])<|vrT 1<|vs 117 (Al<|Aq Ah<|AH Ah (↑(AF (Ao 32 (↑(key>>>q):Int)&&&Ao 32 (1:Int))):Int)) (dig<|AF (Ao 32 (↑(key>>>q):Int)&&&Ao 32 (1:Int))) (hd:=by simp(disch:=omega) only[zAu])<|vrT 1<|vs 118 (bD ((↑(AF (Ao 32 (↑(key>>>q):Int)&&&Ao 32 (1:Int))):Int)==(0:Int))) (bD Ac) (hd:=by simp(disch:=omega) only[bit_b0,Bool.not_true,hb])<|veT<|vf<|vK<|zA<|zA<|vd [0,1,2,3,4,5,7,6,8,9,10,11,12]<|ve (aW_)<|vt<|zB rfl<|ve (True/\Br (bgK v key<|pz AT)=Ac/\Ab=Ab/\1=1/\3<=3)<|vd [0,1,2,4,7,8,9,10,11,3,5,6,12,13,14]<|vr 3 ((0:Int)<=(q:Int)/\(q:Int)<↑(32:Nat))<|vo 136 3 q<|vr 3 (True/\(0:Int)<=(q:Int))<|vs 142 (Al<|Aq Ah<|AH Ah ((1:Int)*(2:Int)^min (Ap (q:Int)) 32)) (dig ((2:Nat)^q)) (hd:=by simp(disch:=omega) only[AX,zDx])<|vr 2 ((0:Int)<=(v:Int))<|vs 144 (Al<|Aq Ah<|AH Ah ((1:Int)*(2:Int)^min (Ap (v:Int)) 32)) (dig ((2:Nat)^v)) (hd:=by simp(disch:=omega) only[AX,zDx])<|vrT 1<|vs 145 (Al<|Aq Ah<|AH Ah (↑(AF (Ao 32 (↑((2:Nat)^q):Int)|||Ao 32 (↑((2:Nat)^v):Int))):Int)) (dig ((2:Nat)^q|||(2:Nat)^v)) (hd:=by simp(disch:=omega) only[zNb,zAu])<|vr 1 (0<Aa (Ag q<|AU<|gaB (fA 32 λ(u:Nat)=>u32D (nbJ key v q T u)))) (vsh 137 hhq<|vr 2 (0<2/\True)<|vs 140 (Al<|Aq Ah<|AH Ah (↑(AF (Ao 32 (↑(T q):Int)|||Ao 32 (key:Int))):Int)) (dig (T q|||key)) (hd:=by simp(disch:=omega) only[zNb,zAu])<|vrT 1<|vs 146 (Al<|Aq Ah<|AH Ah (↑(AF (Ao 32 (↑(T q|||key):Int)&&&~~~Ao 32 (↑((2:Nat)^q|||(2:Nat)^v):Int))):Int)) (dig<|AF (Ao 32 (↑(T q|||key):Int)&&&~~~Ao 32 (↑((2:Nat)^q|||(2:Nat)^v):Int))) (hd:=by simp(disch:=omega) only[zAu])<|vr 1 ((0:Int)<=(q:Int)/\(q:Int)<↑(32:Nat))<|vo 147 3 q<|vr 1 (Br (gaB (fA 32 λ(u:Nat)=>u32D (nbJ key v q T u)))=Ac/\Ab=Ab/\1=1/\q+1<=32)<|vnil<|zD<|zC ?_) (by exact zCd (by omega));refine zCi<|zB rfl<|vr 2 (i6 (↑q+1))<|vnil<|zC<|⟨q+1,by omega,by omega,?_⟩;rw[hp1,<-hset];refine vk 6
    | some p=>
     obtain⟨p1,p2⟩:=zL8 hp;have hhr:=zD7 (g:=λu=>iD ((pI O j u:Nat):Int)) (N:=32) (by omega:p<32);rw[hpi p (by omega)]at hhr;have hpz:pz (AA p)=((p:Nat):Int):=rfl;rw[hpz];focus
      refine vAu<|zA<|vT ((q:Int)<↑j)<|vKB<|vAe<|zA<|vA<|vr 4 (aI_ ((0:Int)<=(q:Int)))<|vs 116 (Al<|Aq Ah<|BL (key:Int) ((2:Int)^min (Ap (q:Int)) 32)) (dig (key>>>q)) (hd:=by simp(disch:=omega) only[AX,zDw])<|vrT 1<|vs 117 (Al<|Aq Ah<|AH Ah (↑(AF (Ao 32 (↑(key>>>q):Int)&&&Ao 32 (1:Int))):Int)) (dig<|AF (Ao 32 (↑(key>>>q):Int)&&&Ao 32 (1:Int))) (hd:=by simp(disch:=omega) only[zAu])<|vrT 1<|vs 118 (bD ((↑(AF (Ao 32 (↑(key>>>q):Int)&&&Ao 32 (1:Int))):Int)==(0:Int))) (bD Ac) (hd:=by simp(disch:=omega) only[bit_b0,Bool.not_true,hb])<|veT<|vf<|vK<|zA<|zA<|vd [0,1,2,3,4,5,7,6,8,9,10,11,12]<|vw 6 [] [(3,Ac)] (aP_ (decide ((p:Int)<0)=Ac/\(0:Int)<=(q:Int)/\(q:Int)<↑(32:Nat)))<|vo 124 2 q<|vr 2 (True/\0<Aa (Ag q<|AU<|iaB (fA 32 λ(u:Nat)=>iD ↑(pI O j u)))) (vsh 125 hhp<|vr 2 (0<1/\(0:Int)<=(p:Int)/\(p:Int)<↑(32:Nat))<|vo 128 2 p<|vr 1 (0<Aa (Ag p<|AU<|iaB (fA 32 λ(u:Nat)=>iD ↑(pI O j u)))) (vsh 129 hhr<|veT ?_) (by exact zCd (by omega))) ⟨trivial,(by exact zCd (by omega))⟩;refine vcD ((↑(List.idxOf q O):Int)<(↑(List.idxOf p O):Int)) (λhc=>?_)<|λhc=>?_;refine zB rfl<|ve (True/\Br (bgK v key (p:Int))=Ac/\Ab=Ab/\1=1/\3<=3)<|vd [0,1,2,4,7,8,9,10,11,3,5,6,12,13,14]<|vr 3 ((0:Int)<=(q:Int)/\(q:Int)<↑(32:Nat))<|vo 136 3 q<|vr 3 (True/\(0:Int)<=(q:Int))<|vs 142 (Al<|Aq Ah<|AH Ah ((1:Int)*(2:Int)^min (Ap (q:Int)) 32)) (dig ((2:Nat)^q)) (hd:=by simp(disch:=omega) only[AX,zDx])<|vr 2 ((0:Int)<=(v:Int))<|vs 144 (Al<|Aq Ah<|AH Ah ((1:Int)*(2:Int)^min (Ap (v:Int)) 32)) (dig ((2:Nat)^v)) (hd:=by simp(disch:=omega) only[AX,zDx])<|vrT 1<|vs 145 (Al<|Aq Ah<|AH Ah (↑(AF (Ao 32 (↑((2:Nat)^q):Int)|||Ao 32 (↑((2:Nat)^v):Int))):Int)) (dig ((2:Nat)^q|||(2:Nat)^v)) (hd:=by simp(disch:=omega) only[zNb,zAu])<|vr 1 (0<Aa (Ag q<|AU<|gaB (fA 32 λ(u:Nat)=>u32D (nbJ key v q T u)))) (vsh 137 hhq<|vr 2 (0<2/\True) ?_) (by exact zCd (by omega));refine vs 140 (Al<|Aq Ah<|AH Ah (↑(AF (Ao 32 (↑(T q):Int)|||Ao 32 (key:Int))):Int)) (dig (T q|||key)) (hd:=by simp(disch:=omega) only[zNb,zAu])<|vrT 1<|vs 146 (Al<|Aq Ah<|AH Ah (↑(AF (Ao 32 (↑(T q|||key):Int)&&&~~~Ao 32 (↑((2:Nat)^q|||(2:Nat)^v):Int))):Int)) (dig<|AF (Ao 32 (↑(T q|||key):Int)&&&~~~Ao 32 (↑((2:Nat)^q|||(2:Nat)^v):Int))) (hd:=by simp(disch:=omega) only[zAu])<|vr 1 ((0:Int)<=(q:Int)/\(q:Int)<↑(32:Nat))<|vo 147 3 q<|vr 1 (Br (gaB (fA 32 λ(u:Nat)=>u32D (nbJ key v q T u)))=Ac/\Ab=Ab/\1=1/\q+1<=32)<|vnil<|zD<|vN<|zB rfl<|vr 2 (i6 (↑q+1))<|vnil<|zC ?_;rotate_left;refine vK<|vd [0,1,2,4,7,8,9,10,11,3,5,6,12,13,14]<|vr 3 ((0:Int)<=(q:Int)/\(q:Int)<↑(32:Nat))<|vo 136 3 q<|vr 3 (True/\(0:Int)<=(q:Int))<|vs 142 (Al<|Aq Ah<|AH Ah ((1:Int)*(2:Int)^min (Ap (q:Int)) 32)) (dig ((2:Nat)^q)) (hd:=by simp(disch:=omega) only[AX,zDx])<|vr 2 ((0:Int)<=(v:Int))<|vs 144 (Al<|Aq Ah<|AH Ah ((1:Int)*(2:Int)^min (Ap (v:Int)) 32)) (dig ((2:Nat)^v)) (hd:=by simp(disch:=omega) only[AX,zDx])<|vrT 1<|vs 145 (Al<|Aq Ah<|AH Ah (↑(AF (Ao 32 (↑((2:Nat)^q):Int)|||Ao 32 (↑((2:Nat)^v):Int))):Int)) (dig ((2:Nat)^q|||(2:Nat)^v)) (hd:=by simp(disch:=omega) only[zNb,zAu])<|vr 1 (0<Aa (Ag q<|AU<|gaB (fA 32 λ(u:Nat)=>u32D (nbJ key v q T u)))) (vsh 137 hhq ?_) (by exact zCd (by omega));refine vr 2 (0<2/\True)<|vs 140 (Al<|Aq Ah<|AH Ah (↑(AF (Ao 32 (↑(T q):Int)|||Ao 32 (key:Int))):Int)) (dig (T q|||key)) (hd:=by simp(disch:=omega) only[zNb,zAu])<|vrT 1<|vs 146 (Al<|Aq Ah<|AH Ah (↑(AF (Ao 32 (↑(T q|||key):Int)&&&~~~Ao 32 (↑((2:Nat)^q|||(2:Nat)^v):Int))):Int)) (dig<|AF (Ao 32 (↑(T q|||key):Int)&&&~~~Ao 32 (↑((2:Nat)^q|||(2:Nat)^v):Int))) (hd:=by simp(disch:=omega) only[zAu])<|vr 1 ((0:Int)<=(q:Int)/\(q:Int)<↑(32:Nat))<|vo 147 3 q<|vr 1 (Br (gaB (fA 32 λ(u:Nat)=>u32D (nbJ key v q T u)))=Ac/\Ab=Ab/\1=1/\q+1<=32)<|vnil<|zD<|vN<|zB rfl<|vr 2 (i6 (↑q+1))<|vnil<|zC ?_;rotate_left
     ·have hp1:parJ key (λu=>O.idxOf u) (q+1)=AA q:=by
       grind [parJ]
      refine⟨q+1,by omega,by omega,?_⟩;rw[hp1,<-hset];refine vk 6
     have hp1:parJ key (λu=>O.idxOf u) (q+1)=AA p:=by
      grind [parJ]
     refine⟨q+1,by omega,by omega,?_⟩;rw[hp1,<-hset];refine vk 6
   have hb0:key.testBit q=false:=by simpa using hb
   have hp1:parJ key (λu=>O.idxOf u) (q+1)=parJ key (λu=>O.idxOf u) q:=by rw[parJ,if_neg hb]
   refine vAu<|zA<|vT ((q:Int)<↑j)<|vKB<|vAe<|zA<|vA<|vr 4 (aI_ ((0:Int)<=(q:Int)))<|vs 116 (Al<|Aq Ah<|BL (key:Int) ((2:Int)^min (Ap (q:Int)) 32)) (dig (key>>>q)) (hd:=by simp(disch:=omega) only[AX,zDw])<|vrT 1<|vs 117 (Al<|Aq Ah<|AH Ah (↑(AF (Ao 32 (↑(key>>>q):Int)&&&Ao 32 (1:Int))):Int)) (dig<|AF (Ao 32 (↑(key>>>q):Int)&&&Ao 32 (1:Int))) (hd:=by simp(disch:=omega) only[zAu])<|vrT 1<|vs 118 (bD ((↑(AF (Ao 32 (↑(key>>>q):Int)&&&Ao 32 (1:Int))):Int)==(0:Int))) (bD Ab) (hd:=by simp(disch:=omega) only[bit_b0,Bool.not_false,hb0])<|veT<|vt<|vZ<|zB rfl<|vr 2 (i6 (↑q+1))<|vnil<|zC<|⟨q+1,by omega,by omega,?_⟩;rw[hp1,nbJ_no hb0];refine vk 6
  obtain rfl:q=j:=by omega
  have hbs:setAt ((Ak q).flatMap (bI (bagE q O nb) O i)) (v*3) [iD (v:Nat),u32D key,iD (pz (parJ key (λu=>O.idxOf u) q))]=(Ak q).flatMap (bI (bagE q O nb) O (i+1)):=by
   rw[fl_set (bI_len _ _ _) rfl hv];refine congrArg (λg=>(Ak q).flatMap g) (funext λu=>?_);by_cases hu:u=v
   ·grind [bI]
   rw[if_neg hu];unfold bI;by_cases h7:O.idxOf u<i;all_goals grind
  have hln:v*3+3<=((Ak q).flatMap (bI (bagE q O nb) O i)).length:=by
   rw[zDn (bI_len _ _ _),B8];omega
  simp only[setAt]at hbs;refine vAu<|zA<|vF ((q:Int)<↑q)<|vZ2<|zB rfl<|vr 4 (3<=3/\(0:Int)<=(v:Int)/\(v:Int)<↑q)<|vo0 152 4 (v*3)<|vr 1 (Br (bgE<|As (bI (bagE q O nb) O i)<|Ak q)=Ac/\Ab=Ab/\3=3/\v*3+3<=Aa (AU<|bgE<|As (bI (bagE q O nb) O i)<|Ak q)/\¬4∈[])<|vnil<|zD<|vN<|zB rfl<|vr 2 (i6 (↑i+1))<|vnil<|zC<|⟨i+1,by omega,by omega,?_⟩;rw[<-hbs,hT1];refine vk 5
 obtain rfl:i=j:=by omega
 have hbl:(Ak i).flatMap (bI (bagE i O nb) O i)=(Ak i).flatMap λv=>bgC (bagE i O nb v):=by
  rw[Ck,Ck];refine congrArg List.flatten (AW λv hv=>?_);grind [bI]
 have hbt:((Ak i).flatMap λv=>bgC (bagE i O nb v)).take (i*3)=(Ak i).flatMap λv=>bgC (bagE i O nb v):=zPd (c:=3) (λ_=>rfl) _ _ (by simp);rw[hbl];refine vAu<|zA<|vF ((i:Int)<↑i)<|vZ2<|vAe<|zE<|zBm (True) (Bw [Ad (Aj (i*3)<|Ag 0<|AU<|bgE<|As (λ(v:Nat)=>bgC (bagE i O nb v))<|Ak i) i,iD 0]) (Bw [Ad (As (λ(v:Nat)=>bgC (bagE i O nb v))<|Ak i) i,Al<|Aq Bx 0]) (.inr rfl) (by simp(disch:=omega) only[A1,hbt]) rfl
structure Bal(b:Bd)(VT:Nat->List Rw)(TT:Nat->List (Rw×Nat)):Prop where
 n:b.n<=1000
 f:b.f<=b.n
 d:b.desc.length=b.f
 L:b.L.length=b.n
 R:b.R.length=b.n
 E:b.E=b.A.map λa=>msk a.1
 P:b.P.length+b.f=b.n
 P2:∀v∈b.P,b.f<=v/\v<b.n
 P3:b.P.Nodup
 A:b.A.length<=1000
 Av:∀a∈b.A,a.1.length<=1000/\(∀v∈a.1,v<32)/\a.2.length<=65536
 k:∀c∈b.L,c.k<4294967296
 V:∀v,v<b.n->(b.R.getD v Af).1.length<=1000/\0<(b.R.getD v Af).1.length/\∀u∈(b.R.getD v Af).1,u<32
 r:∀v,v<b.n->∀x∈(b.R.getD v Af).2,x.length=(b.R.getD v Af).1.length/\(∀u∈x,Vs u)/\x.all vok=Ab
 rl:∀v,v<b.n->(b.R.getD v Af).2.length<=65536
 S:∀v,v<b.n->∀x∈(b.R.getD v Af).2,∀i,i<=(chV b v).length->Sm (wtL b.f VT TT x ((chV b v).take i))
 S1:∀v,v<b.n->∀p∈TT v,Sm p.2
 T:∀v,v<b.n->Sm (sumW (λx=>wtL b.f VT TT x (chV b v)) (b.R.getD v Af).2)
 Rt:∀i,i<=b.n->Sm (rtL b.L b.f VT TT i)
 vt:∀v,b.f<=v->v<b.n->VT v=redK (λx=>wtL b.f VT TT x (chV b v)) (keyC b v) (b.R.getD v Af).2
 tt:∀v,v<b.f->TT v=totL (grpL (b.desc.getD v Ac) (λx=>wtL b.f VT TT x (chV b v)) (b.R.getD v Af).2)
 o1:∀i,i<b.P.length->∀c∈chV b (b.P.getD i 0),c.1∈b.P.take i
 o2:∀v,v<b.f->∀c∈chV b v,c.1<b.f->v<c.1
def gvT(P:List Nat)(VT:Nat->List Rw)(i c:Nat):D:=if c∈P.take i then zHq (VT c)else .val (.map AT)
def gtT(f:Nat)(TT:Nat->List (Rw×Nat))(j c:Nat):D:=if f<=c+j/\c<f then zGv (TT c)else .val (.map AT)
def guT(f:Nat)(U:Nat->List Bu)(j c:Nat):D:=if f<=c+j/\c<f then busD (U c)else .val (.slice AT 0 0)
abbrev buk(b:Bd)(VT:Nat->List Rw)(TT:Nat->List (Rw×Nat))(v:Nat):List Bu:=grpL (b.desc.getD v Ac) (λx=>wtL b.f VT TT x (chV b v)) (b.R.getD v Af).2
theorem gvT_ref{P:List Nat}{VT:Nat->List Rw}:refs j (gvT P VT i c)=false:=by unfold gvT;split<;>rfl
theorem gtT_ref{TT:Nat->List (Rw×Nat)}:refs j (gtT f TT i c)=false:=by unfold gtT;split<;>rfl
section
variable{b:Bd}{VT:Nat->List Rw}{TT:Nat->List (Rw×Nat)}(h:Bal b VT TT)
include h
theorem Bal.mem(h1:b.f<=v)(h2:v<b.n):v∈b.P:=by
 have hO:=zQi (f:=b.f) h.P;have hm:=zGl (zVc h.P2 h.P3) hO (zVd h.P h.P2) v h2;rcases A0.1 hm with hm|hm
 ·exact hm
 simp at hm;omega
theorem Bal.bok(hv:v<b.n)(hgv:∀c∈chV b v,b.f<=c.1->c.1∈b.P.take i)(hgt:∀c∈chV b v,c.1<b.f->b.f<=c.1+j)(hne:∀c∈chV b v,c.1≠v):Bok b v (gvT b.P VT i) (gtT b.f TT j) VT TT where
 n:=h.n
 vn:=hv
 L:=h.L
 R:=h.R
 k:=h.k
 V:=(h.V v hv).1
 V2:=(h.V v hv).2.2
 r x hx:=⟨(h.r v hv x hx).1,(h.r v hv x hx).2.1⟩
 rl:=h.rl v hv
 hv c hc hf:=if_pos (hgv c hc hf)
 ht c hc hf:=if_pos ⟨hgt c hc hf,hf⟩
 ne:=hne
 S:=h.S v hv
 S1 c hc:=h.S1 c.1 (by rw[<-h.L];exact(zHc hc).1)
 gw c _ j _:=gvT_ref
 tw c _ j _:=gtT_ref
theorem Bal.bokP(hi:i<b.P.length):Bok b (b.P.getD i 0) (gvT b.P VT i) (gtT b.f TT 0) VT TT:=by
 have hm:=zBj b.P i hi;have h1:=h.P2 _ hm;refine h.bok h1.2 (λc hc _=>h.o1 i hi c hc) (λc hc hf=>?_) (λc hc e=>?_)
 ·have:=(h.P2 _ (BF (h.o1 i hi c hc))).1
  omega
 have h2:=h.o1 i hi c hc;rw[e]at h2;obtain⟨j,hj,e2⟩:=Bj h2;have hji:j<i:=by simp at hj;omega
 rw[List.getElem_take,AB,Aw hi]at e2
 have:=(List.getElem_inj h.P3).1 e2
 omega
theorem Bal.bokF(hj:j<b.f):Bok b (b.f-1-j) (gvT b.P VT b.P.length) (gtT b.f TT j) VT TT:=by
 have hf:=h.f;refine h.bok (by omega) (λc hc hcf=>?_) (λc hc hcf=>?_) (λc hc e=>?_)
 ·rw[A8];exact h.mem hcf (by rw[<-h.L];exact(zHc hc).1)
 ·have:=h.o2 _ (by omega) c hc hcf
  omega
 have:=h.o2 _ (by omega) c hc (by omega)
 omega
end
theorem fA_le{g g':Nat->D}(h:∀i,LeD (g i) (g' i)):LeL (fA n g) (fA n g'):=by
 unfold fA;induction Ak n with
 |nil=>exact .nil
 |cons a l ih=>exact .cons (h a) ih
def Tbd:Par:=⟨λf=>f==51||f==52||f==53,λ_ _=>AT,λ_=>Ac,λ_=>Ac,λt=>t==170||t==177⟩
theorem Tbd_ok:zA9 Ai Tbd:=by intro t n f h;cases h
abbrev inpN(b:Bd):D:= .agg [iD (b.n:Nat),iD (b.f:Nat), .row (b.desc.map bD) b.desc.length, .row (nsD b.P) b.P.length, .row (b.A.flatMap atR) b.A.length]
abbrev gB2(n m:Nat):Bk:=⟨[iD (n:Nat), .osl 3 0 m m Ab],77,0,Ac,Ac, .plain⟩
def zDq(R:List (List Nat×List Rw)):Nat:=(R.map λa=>a.2.length).sum
theorem zZw(R:List (List Nat×List Rw))(i:Nat)(h:i<R.length):zDq (R.take (i+1))=zDq (R.take i)+(R.getD i Af).2.length:=by
 grind [zDq,A7,Aw]
set_option maxHeartbeats 4000000 in
theorem build_c(b:Bd)(VT:Nat->List Rw)(TT:Nat->List (Rw×Nat))(S:Nat)(h:Bal b VT TT)
  (hck:Pure Ai 16 [inpN b] [] (iD 0))
  (heb:Pure Ai 31 [.agg [iD (b.n:Nat), .row (b.E.map u32D) b.E.length],iD (b.f:Nat), .row (nsD b.P) b.P.length] [] (.tup [.row (b.L.flatMap bgC) b.L.length,iD 0]))
  (hall:Pure Ai 32 [iD (b.n:Nat), .row (b.L.flatMap bgC) b.L.length, .row (b.A.flatMap atR) b.A.length] [] (.tup [.row (b.R.flatMap atR) b.R.length,iD ((S:Nat):Int),iD 0]))
  (hSb:S+zDq b.R<=9000000000000000000):
  Pure Ai 15 [inpN b] [] (.tup [ixD b.desc (b.L.take b.f) (λc=>if totB b VT TT=0 then[]else buk b VT TT c) (totB b VT TT),iD ((S+zDq b.R:Nat):Int),iD 0]):=by
 have hac:∀a:List Nat×List Rw,(atR a).length=3:=λ_=>rfl;have hAl:=h.A;refine zF Tbd_ok mixed Tryz.func15 rfl<|vAu<|zA<|vA<|vr 1 (5<=5)<|vc (hck)<|veT<|vAe<|vf<|vK<|vA<|vr 5 (True/\0<5/\((1=1/\1<=2/\True)/\Ab=Ab)/\Ac=Ac/\Ab=Ab/\2=2/\2<=2)<|vnil<|zC<|vnn (fr 159 [(1,Ar 0 0),(2,Ar 1 0),(3,iD 0),(4,iD 0),(5,iD 0),(6,Ar 2 0),(27,bD Ac),(30,Ar 0 0),(31,iD (↑(Au b):Int)),(32,Ay [iD (↑(Au b):Int),nl])]) [AL [iD (↑(Au b):Int),iD (↑(Am b):Int),Ad (Ae bD<|AS b)<|Aa<|AS b,Ad (nsD<|AI b)<|Aa<|AI b,Ad (As atR<|AK b)<|Aa<|AK b] 31 0 Ac Ac AD,AL [nl,nl,nl,nl,nl] 46 0 Ac Ac AD,AL [iD (↑(Au b):Int),nl] 77 0 Ac Ac AD]<|zB2 (Weak.nilC (j:=2) (i:=1) (ej:=grB (iD (b.n:Nat)) nl1) (uuB []) rfl rfl rfl rfl) ?_;refine zA<|vAs<|ve (aW_)<|zJ<|zK (λ(i:Nat)=>fr 159 [(1,Ar 0 0),(2,Ar 1 0),(3,iD 0),(4,iD 0),(6,Ar 2 0),(34,(q21_ b)),(35,iD (Aa (AK b):Int)),(36,iD i)]) (λ(i:Nat)=>[blI b,blX,gB2 b.n i,uuB ((b.A.take i).map λa=>msk a.1)]) (λ(i:Nat)=>b.A.length-i) (λ(i:Nat)=>i<=b.A.length) 0 ?_ ?_ ?_
 ·omega
 ·refine vk 4
 intro i h1;rcases AC i b.A.length with h3|h3
 ·have hg2:=zC0 hac b.A i h3;have hle:=zFw hac b.A i h3;have hne:=zDe hac (by decide) b.A;have hmem:b.A.getD i Af∈b.A:=by rw[AB,Aw h3];exact AR h3
  obtain⟨a1,a2,a3⟩:=h.Av _ hmem;have htk:b.A.take (i+1)=b.A.take i++[b.A.getD i Af]:=zEl b.A i h3;have hcl:((b.A.take i).map λa=>msk a.1).length=i:=by simp;omega
  generalize b.A.getD i Af=a at*;have huu:uuB ((b.A.take (i+1)).map λa=>msk a.1)=⟨((b.A.take i).map λa=>msk a.1).map u32D++[u32D (msk a.1)],36,1,Ab,Ac, .plain⟩:=by rw[htk];simp
  refine vAu<|zA<|vT ((i:Int)<(Aa (AK b):Int))<|vKB<|vA<|vr 2 (ix ↑i (Aa (AK b):Int) (As atR (AK b)≠[])/\3<=Aa (Ag (i*3)<|As atR<|AK b))<|vs 39 (Ay<|Aj 3<|Ag (i*3)<|As atR<|AK b) (Ay<|atR a)<|ve (a0_)<|vAe<|zA<|vA<|ve (a5_)<|zJ<|zK (λ(j:Nat)=>fr 159 [(1,Ar 0 0),(2,Ar 1 0),(3,iD 0),(4,iD 0),(6,Ar 2 0),(9,u32D<|msk<|Aj j<|AO a),(34,(q21_ b)),(35,iD (Aa (AK b):Int)),(36,iD i),(41,Ad (nsD<|AO a)<|Aa<|AO a),(42,iD (Aa (AO a):Int)),(43,iD j)]) (λ(j:Nat)=>[blI b,blX,gB2 b.n i,uuB ((b.A.take i).map λa=>msk a.1),atK a]) (λ(j:Nat)=>a.1.length-j) (λ(j:Nat)=>j<=a.1.length) 0 ?_ ?_ ?_
  ·omega
  ·refine vk 5
  intro j h2;have hlt:∀j,msk (a.1.take j)<4294967296:=λj=>zSi λv hv=>a2 v (BF hv);rcases AC j a.1.length with h4|h4
  ·have h5:=a2 _ (zBj a.1 j h4);have h6:=zEd h5;have h7:=zQj (hlt j) h6;have h8:=hlt j;refine vAu<|zA<|vT ((j:Int)<(Aa (AO a):Int))<|vKB<|vA<|vr 1 (ix ↑j (Aa (AO a):Int) (nsD (AO a)≠[])) ?_ ⟨(by omega),⟨(by omega),(by exact zAc)⟩⟩;refine vp 45 j (nsD<|AO a)<|vr 1 (0<Aa (Ag j<|nsD<|AO a))<|vs 46 (A9 (Ag j<|nsD<|AO a) Uk) (iD (↑(Az (AO a) j 0):Int)) (hd:=by simp(disch:=omega) only[zBr])<|veT<|zB rfl<|vr 3 ((0:Int)<=(↑(Az (AO a) j 0):Int))<|vs 49 (Al<|Aq Ah<|AH Ah ((1:Int)*(2:Int)^min (Ap (↑(Az (AO a) j 0):Int)) 32)) (dig ((2:Nat)^Az (AO a) j 0)) (hd:=by simp(disch:=omega) only[AX,zDx])<|vrT 1<|vs 50 (Al<|Aq Ah<|AH Ah (↑(AF (Ao 32 (↑(msk<|Aj j<|AO a):Int)|||Ao 32 (↑((2:Nat)^Az (AO a) j 0):Int))):Int)) (dig (msk (Aj j<|AO a)|||(2:Nat)^Az (AO a) j 0)) (hd:=by simp(disch:=omega) only[zNb,zAu])<|vrT 1<|vnil<|zD<|vN<|zB rfl<|vr 2 (i6 (↑j+1))<|vnil<|zC<|⟨j+1,by omega,by omega,?_⟩;rw[zQp a.1 j h4];refine vk 5
  obtain rfl:j=a.1.length:=by omega
  rw[A8];refine vAu<|zA<|vF ((Aa (AO a):Int)<(Aa (AO a):Int))<|vZ2<|zB rfl<|vr 7 (True/\0<1/\((1=1/\1<=1/\True)/\0<1/\1=1/\1<=16777216/\1<=9223372036854775807)/\(Bk.arr (uuB<|Ae (λ(a:List Nat×List Rw)=>msk (AO a))<|Aj i<|AK b)=Ab/\Aa (AU<|uuB<|Ae (λ(a:List Nat×List Rw)=>msk (AO a))<|Aj i<|AK b)=i*1/\i=i*1/\Bk.ty (uuB<|Ae (λ(a:List Nat×List Rw)=>msk (AO a))<|Aj i<|AK b)=36/\Bk.sz (uuB<|Ae (λ(a:List Nat×List Rw)=>msk (AO a))<|Aj i<|AK b)=1/\1=1/\0<1/\0<4/\36=36/\(i+1)*4<=140737488355328/\1=1/\Ba (Bl<|uuB<|Ae (λ(a:List Nat×List Rw)=>msk (AO a))<|Aj i<|AK b)=Ac/\(Ac=Ac\/Bb (Bl<|uuB<|Ae (λ(a:List Nat×List Rw)=>msk (AO a))<|Aj i<|AK b)=Ab))/\True/\Ac=Ac/\Ab=Ab/\1=1/\2<=2)<|vb 2 (AL [iD ↑(Au b),Ax 3 0 (i+1) ((i+1)*1) Ab] 77 0 Ac Ac AD) (AL [iD ↑(Au b),Ax 3 0 (i+1) (i+1) Ab] 77 0 Ac Ac AD)<|vnil<|zD<|vN<|zB rfl<|vr 2 (i6 (↑i+1))<|vnil<|zC<|⟨i+1,by omega,by omega,?_⟩;rw[huu];refine vk 4
 have hiA:i=b.A.length:=by omega
 rw[hiA,A8,<-h.E];have hEl:b.A.length=b.E.length:=by rw[h.E,AN]
 have hEt:(b.E.map u32D).take b.A.length=b.E.map u32D:=Bc (by rw[AN];omega);rw[<-hEl]at heb;refine vAu<|zA<|vF ((Aa (AK b):Int)<(Aa (AK b):Int))<|vZ2<|vA<|vr 5 (2<=2/\True/\0<4/\True/\0<2)<|vcl [Ay [iD ↑(Au b),Ad (Aj (Aa<|AK b)<|Ag 0<|AU<|uuB<|Bd.E b)<|Aa<|AK b],iD ↑(Am b),Ad (nsD<|AI b)<|Aa<|AI b] [Ay [iD ↑(Au b),Ad (Ae u32D<|Bd.E b)<|Aa<|AK b],iD ↑(Am b),Ad (nsD<|AI b)<|Aa<|AI b] (LeL.of_eq (by simp(disch:=omega) only[A1,hEt])) (by exact heb)<|ve (a4_)<|zA<|vAe<|vf<|vK<|vA<|vr 5 (True/\0<5/\True/\0<1)<|vc hall<|ve (0<3/\1<3/\2<3)<|zA<|vAe<|vf<|zT<|zC<|vnn (fr 159 [(1,Ar 0 0),(2,Ar 1 0),(3,iD 0),(4,iD 0),(12,Ad (As bgC<|AP b)<|Aa<|AP b),(13,iD 0),(14,Ad (As atR<|AM b)<|Aa<|AM b),(15,iD S),(83,bD Ac)]) [blI b,blX,gB2 (Au b)<|Aa<|AK b,AL (Ae u32D<|Bd.E b) (36:TypeId) 1 Ab Ab AD] ?_;have hRl:=h.R;have hbn:=h.n;refine zCi<|zA<|vAu<|zJ<|zK (λ(i:Nat)=>fr 159 [(1,Ar 0 0),(2,Ar 1 0),(3,iD 0),(4,iD 0),(12,(q17_ b)),(14,(q16_ b)),(15,iD (↑(S+zDq (Aj i<|AM b)):Int)),(86,(q16_ b)),(87,iD (Aa (AM b):Int)),(88,iD i)]) (λ(i:Nat)=>[blI b,blX,blG b,blE b]) (λ(i:Nat)=>b.R.length-i) (λ(i:Nat)=>i<=b.R.length) 0 ?_ ?_ ?_
 ·omega
 ·refine vk 4
 intro j h2;rcases AC j b.R.length with h3'|h3'
 ·have hg2:=zC0 hac b.R j h3';have hle:=zFw hac b.R j h3';have hne:=zDe hac (by decide) b.R;have hsu:=zZw b.R j h3';have hbd:zDq (b.R.take j)+(b.R.getD j Af).2.length<=zDq b.R:=by
   grind [zDq,Cl]
  generalize b.R.getD j Af=a at*;have hlen:=zKj (a.1.length:Nat) (a.2.map rowV) a.2.length;refine vAu<|zA<|vT ((j:Int)<(Aa (AM b):Int))<|vKB<|vA<|vr 2 (ix ↑j (Aa (AM b):Int) (As atR (AM b)≠[])/\3<=Aa (Ag (j*3)<|As atR<|AM b))<|vs 91 (Ay<|Aj 3<|Ag (j*3)<|As atR<|AM b) (Ay<|atR a)<|ve (a0_)<|zB rfl<|vr 3 (True/\2<=2)<|vc hlen<|vr 2 (i6 ((↑(S+zDq (Aj j<|AM b)):Int)+(Aa (Prod.snd a):Int)))<|vnil<|zD<|vN<|zB rfl<|vr 2 (i6 (↑j+1))<|vnil<|zC<|⟨j+1,h3',by omega,?_⟩;rw[hsu,show((S+(zDq (b.R.take j)+a.2.length):Nat):Int)=((S+zDq (b.R.take j):Nat):Int)+((a.2.length:Nat):Int) by omega];refine vk 4
 have hjR:j=b.R.length:=by omega
 rw[hjR,A8];have hz1:repL b.n [.val (.map AT)]=fA b.n (gvT b.P VT 0):=by
  grind [zT6,zB8,gvT]
 have hz2:repL b.n [.val (.map AT)]=fA b.n (gtT b.f TT 0):=by
  grind [zT6,zB8,gtT]
 have hz3:repL b.f [.val (.slice AT 0 0)]=fA b.f (guT b.f (buk b VT TT) 0):=by
  grind [zT6,zB8,guT]
 have hbf:=h.f;have hPl:=h.P;refine vAu<|zA<|vF ((Aa (AM b):Int)<(Aa (AM b):Int))<|vZ2<|vA<|ve (5<=5/\((5=5/\5<=10/\1=1/\6<=10/\1=1/\7<=10/\True)/\Ab=Ab)/\Ac=Ac/\Ab=Ab/\10=10/\10<=10)<|zA<|zA6 [0,3,1,2,6,4,5] [(7,[(4,100000),(5,6)],[8,9])] rfl ?_;refine vr 7 (True/\True/\0<5/\((0:Int)<=(↑(Au b):Int)/\(↑(Au b):Int)<=(↑(Au b):Int)/\(↑(8:Nat):Int)*(↑(Au b):Int)<=(281474976710656:Int)/\(↑(Au b):Int)<=(281474976710656:Int)/\a7_)/\True/\0<5/\(0:Int)<=(↑(Au b):Int)/\(↑(Au b):Int)<=(↑(Au b):Int)/\(↑(8:Nat):Int)*(↑(Au b):Int)<=(281474976710656:Int)/\(↑(Au b):Int)<=(281474976710656:Int)/\a7_)<|vnil<|zBy rfl rfl<|vr 1 (Ac=Ac/\Ab=Ab/\1=1/\8<=10)<|vb 4 (AL [iD ↑(Au b),iD ↑(Am b),Ad (Ae bD<|AS b)<|Aa<|AS b,Ad (nsD<|AI b)<|Aa<|AI b,Ad (As atR<|AK b)<|Aa<|AK b,Ad (As bgC<|AP b)<|Aa<|AP b,Ad (As atR<|AM b)<|Aa<|AM b,Ax 5 0 (Ap (↑(Au b):Int)) (Ap (↑(Au b):Int)*1) Ab,nl,nl] 120 0 Ac Ac AD) (AL [iD ↑(Au b),iD ↑(Am b),Ad (Ae bD<|AS b)<|Aa<|AS b,Ad (nsD<|AI b)<|Aa<|AI b,Ad (As atR<|AK b)<|Aa<|AK b,Ad (As bgC<|AP b)<|Aa<|AP b,Ad (As atR<|AM b)<|Aa<|AM b,Ax 5 0 (Au b) (Au b) Ab,nl,nl] 120 0 Ac Ac AD)<|vnil ?_;refine zEg (C:=0<5/\AA (iD ↑(Au b))=AA (A9 [iD ↑(Au b),iD ↑(Am b),(q19_ b),(q20_ b),(q21_ b)] Uk)/\((0:Int)<=(↑(Au b):Int)/\(↑(Au b):Int)<=(↑(Au b):Int)/\(↑(8:Nat):Int)*(↑(Au b):Int)<=(281474976710656:Int)/\(↑(Au b):Int)<=(281474976710656:Int)/\0<1/\1=1)/\AA (Ax 6 0 (Ap (↑(Au b):Int)) (Ap (↑(Au b):Int)*1) Ab)=AA (Ax 6 0 (Ap (↑(Au b):Int)) (Ap (↑(Au b):Int)*1) Ab)/\eqDL (repL (Au b) [Al (Value.map AT)]) (repL (Ap (↑(Au b):Int)) [Al (Value.map AT)])/\177=177/\1=1/\Ab=Ab/\(kdOf Ab)=kdOf Ab) ⟨(by omega),(by kernel_rfl),(by omega),(by kernel_rfl),rfl,(by kernel_rfl),(by kernel_rfl),(by kernel_rfl),(by kernel_rfl)⟩ ?_;refine vr 2 (True/\Ac=Ac/\Ab=Ab/\1=1/\9<=10)<|vb 4 (AL [iD ↑(Au b),iD ↑(Am b),Ad (Ae bD<|AS b)<|Aa<|AS b,Ad (nsD<|AI b)<|Aa<|AI b,Ad (As atR<|AK b)<|Aa<|AK b,Ad (As bgC<|AP b)<|Aa<|AP b,Ad (As atR<|AM b)<|Aa<|AM b,Ax 5 0 (Au b) (Au b) Ab,Ax 6 0 (Ap (↑(Au b):Int)) (Ap (↑(Au b):Int)*1) Ab,nl] 120 0 Ac Ac AD) (AL [iD ↑(Au b),iD ↑(Am b),Ad (Ae bD<|AS b)<|Aa<|AS b,Ad (nsD<|AI b)<|Aa<|AI b,Ad (As atR<|AK b)<|Aa<|AK b,Ad (As bgC<|AP b)<|Aa<|AP b,Ad (As atR<|AM b)<|Aa<|AM b,Ax 5 0 (Au b) (Au b) Ab,Ax 6 0 (Au b) (Au b) Ab,nl] 120 0 Ac Ac AD) ?_;refine vnil<|zBv<|vN<|vA<|vr 3 (True/\0<4/\(0:Int)<=(↑(Am b):Int)/\(↑(Am b):Int)<=(↑(Am b):Int)/\(↑(24:Nat):Int)*(↑(Am b):Int)<=(281474976710656:Int)/\(↑(Am b):Int)<=(281474976710656:Int)/\a7_)<|vb 7 (AL (repL (Ap (↑(Am b):Int)) [nl]) 88 1 Ab Ac<|kdOf Ac) (AL (fA (Am b)<|guT (Am b) (buk b VT TT) 0) 88 1 Ab Ac<|kdOf Ac)<|vr 2 (a2_)<|vb 4 (AL [iD ↑(Au b),iD ↑(Am b),Ad (Ae bD<|AS b)<|Aa<|AS b,Ad (nsD<|AI b)<|Aa<|AI b,Ad (As atR<|AK b)<|Aa<|AK b,Ad (As bgC<|AP b)<|Aa<|AP b,Ad (As atR<|AM b)<|Aa<|AM b,Ax 5 0 (Au b) (Au b) Ab,Ax 6 0 (Au b) (Au b) Ab,Ax 7 0 (Ap (↑(Am b):Int)) (Ap (↑(Am b):Int)*1) Ab] 120 0 Ac Ac AD) (AL [iD ↑(Au b),iD ↑(Am b),Ad (Ae bD<|AS b)<|Aa<|AS b,Ad (nsD<|AI b)<|Aa<|AI b,Ad (As atR<|AK b)<|Aa<|AK b,Ad (As bgC<|AP b)<|Aa<|AP b,Ad (As atR<|AM b)<|Aa<|AM b,Ax 5 0 (Au b) (Au b) Ab,Ax 6 0 (Au b) (Au b) Ab,Ax 7 0 (Am b) (Am b) Ab] 120 0 Ac Ac AD)<|veT<|zA<|vA<|ve (aO_)<|zJ<|zK (λ(i:Nat)=>fr 159 [(1,Ar 0 0),(2,Ar 1 0),(3,iD 0),(4,iD 0),(12,(q17_ b)),(15,iD (↑(S+zDq (AM b)):Int)),(18,Ar 4 0),(115,(q20_ b)),(116,iD (Aa (AI b):Int)),(117,iD i)]) (λ(i:Nat)=>[blI b,blX,blG b,blE b,blB b,blV<|fA b.n<|gvT b.P VT i,blT<|fA b.n<|gtT b.f TT 0,blU<|fA b.f<|guT b.f (buk b VT TT) 0]) (λ(i:Nat)=>b.P.length-i) (λ(i:Nat)=>i<=b.P.length) 0 ?_ ?_ ?_
 ·omega
 ·rw[<-hz1,<-hz2];refine vk 8
 intro p h4;rcases AC p b.P.length with h5|h5
 ·have hhd:=zBr b.P p h5;have hpm:=h.P2 _ (zBj b.P p h5);have hre:=reduce_c b (b.P.getD p 0) (gvT b.P VT p) (gtT b.f TT 0) VT TT (h.bokP h5) (fA b.f (guT b.f (buk b VT TT) 0));rw[<-h.vt _ hpm.1 hpm.2]at hre;have hgs:(fA b.n λc=>if c=b.P.getD p 0 then zHq (VT (b.P.getD p 0))else gvT b.P VT p c)=fA b.n (gvT b.P VT (p+1)):=by
   refine zB8 λc _=>?_;grind [A7,Aw,gvT,AY]
  rw[hgs]at hre;refine vAu<|zA<|vT ((p:Int)<(Aa (AI b):Int))<|vKB<|vA<|vr 1 (ix ↑p (Aa (AI b):Int) (nsD (AI b)≠[])) ?_ ⟨(by omega),⟨(by omega),(by exact zAc)⟩⟩;refine vp 119 p (nsD<|AI b)<|vr 1 (0<Aa (Ag p<|nsD<|AI b))<|vsh 120 hhd<|veT<|zB rfl<|vrT 1<|vnt [blI b,blX,blG b,blE b,blB b,blV<|fA (Au b)<|gvT (AI b) VT p,blT<|fA (Au b)<|gtT (Am b) TT 0,blU<|fA (Am b)<|guT (Am b) (buk b VT TT) 0]<|zZ [] [] [Ar 4 0,iD (↑(Az (AI b) p 0):Int)] [Ar 4 0,iD (↑(Az (AI b) p 0):Int)] (BU _) (by exact hre) ?_;refine vnil<|zD<|vN<|zB rfl<|v0s<|vr 2 (i6 (↑p+1))<|vnil<|zC<|⟨p+1,h5,by omega,?_⟩;refine vk 8
 have hpP:p=b.P.length:=by omega
 rw[hpP];refine vAu<|zA<|vF ((Aa (AI b):Int)<(Aa (AI b):Int))<|vZ2<|zA<|vA<|ve (True/\0<4)<|zJ<|zK (λ(i:Nat)=>fr 159 [(1,Ar 0 0),(2,Ar 1 0),(12,(q17_ b)),(15,iD (↑(S+zDq (AM b)):Int)),(18,Ar 4 0),(125,iD ↑(Am b)),(126,iD i)]) (λ(i:Nat)=>[blI b,blX,blG b,blE b,blB b,blV<|fA b.n<|gvT b.P VT b.P.length,blT<|fA b.n<|gtT b.f TT i,blU<|fA b.f<|guT b.f (buk b VT TT) i]) (λ(i:Nat)=>b.f-i) (λ(i:Nat)=>i<=b.f) 0 ?_ ?_ ?_
 ·omega
 ·refine vk 8
 intro q h6;rcases AC q b.f with h7|h7
 ·have hvn:b.f-1-q<b.n:=by omega
  have hgr:=group_c b (b.f-1-q) (gvT b.P VT b.P.length) (gtT b.f TT q) (guT b.f (buk b VT TT) q) VT TT (h.bokF h7) (by omega) h.d (h.V _ hvn).2.1 (λx hx=>(h.r _ hvn x hx).2.2) (h.T _ hvn);rw[<-h.tt _ (by omega)]at hgr;have hg1:(fA b.n λc=>if c=b.f-1-q then zGv (TT (b.f-1-q))else gtT b.f TT q c)=fA b.n (gtT b.f TT (q+1)):=by
   refine zB8 λc _=>?_;grind [gtT]
  have hg2:(fA b.f λc=>if c=b.f-1-q then busD (buk b VT TT (b.f-1-q))else guT b.f (buk b VT TT) q c)=fA b.f (guT b.f (buk b VT TT) (q+1)):=by
   refine zB8 λc _=>?_;grind [guT]
  rw[hg1,hg2]at hgr;have hvi:((b.f:Int)-1-(q:Int))=((b.f-1-q:Nat):Int):=by omega
  refine vAu<|zA<|vT ((q:Int)<↑(Am b))<|vKB<|vAe<|vA<|vr 5 (True/\0<4/\i6 (↑(Am b)-1)/\i6 ((↑(Am b):Int)-(1:Int)-(q:Int)))<|vs 133 (iD ((↑(Am b):Int)-(1:Int)-(q:Int))) (iD ↑(Am b-1-q))<|vnt [blI b,blX,blG b,blE b,blB b,blV<|fA (Au b)<|gvT (AI b) VT<|Aa<|AI b,blT<|fA (Au b)<|gtT (Am b) TT q,blU<|fA (Am b)<|guT (Am b) (buk b VT TT) q]<|zZ [] [] [Ar 4 0,iD ↑(Am b-1-q)] [Ar 4 0,iD ↑(Am b-1-q)] (BU _) (by exact hgr) ?_;refine v0s<|veT<|vAe<|vf<|zT<|zD<|vN<|zB rfl<|vr 2 (i6 (↑q+1))<|vnil<|zC<|⟨q+1,h7,by omega,?_⟩;refine vk 8
 have hqf:q=b.f:=by omega
 rw[hqf];have htot:=total_c b (gvT b.P VT b.P.length) (gtT b.f TT b.f) VT TT (fA b.f (guT b.f (buk b VT TT) b.f)) h.n h.L h.A (λa ha=>(h.Av a ha).2.2) (λv hv hf _=>if_pos (by rw[A8];exact h.mem hf hv)) (λv hv hf _=>if_pos ⟨by omega,hf⟩) h.Rt h.S1 (λc _ j _=>gvT_ref) (λc _ j _=>gtT_ref);have hLn:=h.L;have hlt:(b.L.take b.f).length=b.f:=by rw[Bq,h.L];omega
 have hfl:(b.L.flatMap bgC).take (b.f*3)=(b.L.take b.f).flatMap bgC:=fl_take (c:=3) (λ_=>rfl) b.L b.f;have hU:∀c,c<b.f->(buk b VT TT c).length<=1000000/\∀u∈buk b VT TT c,u.Ok:=λc hc=>by
  have hcn:c<b.n:=by omega
  have hrc:=h.r c hcn;have hVc:=(h.V c hcn).1;obtain⟨q1,q2⟩:=zMs (desc:=b.desc.getD c Ac) (w:=λx=>wtL b.f VT TT x (chV b c)) (Q:=λk=>k.length<=1000/\∀u∈k,Vs u) (b.R.getD c Af).2 λx hx=>by
   grind
  exact⟨AG q1 (by have:=h.rl c hcn;omega),λu hu=>⟨by have:=(q2 u hu).q.1;omega,(q2 u hu).q.2⟩⟩
 generalize totB b VT TT=tot at*;rcases B9 tot with ht|ht
 ·have hdl0:dg tot=[]:=by subst ht;simp[dg]
  have hz4:repL b.f [.val (.slice AT 0 0)]=fA b.f λ_=> .val (.slice AT 0 0):=zT6 _ _;have htk:(fA b.f λ_=> .val (.slice AT 0 0)).take b.f=fA b.f λ_=> .val (.slice AT 0 0):=Bc (by rw[zEy];exact AE _);have hasm:Pure Ai 54 [.row (b.desc.map bD) b.desc.length, .row ((b.L.take b.f).flatMap bgC) b.f, .row (fA b.f λ_=> .val (.slice AT 0 0)) b.f,natD tot] [] (ixD b.desc (b.L.take b.f) (λc=>if tot=0 then[]else buk b VT TT c) tot):=by
   have h0:=zPn b.desc (b.L.take b.f) (λc=>if tot=0 then[]else buk b VT TT c) tot (by rw[h.d];omega) (by omega) (λc hc=>by rw[if_pos ht];exact⟨by simp,λu hu=>by cases hu⟩);rw[hlt]at h0;refine Pure.le (args':=_) h0 (.cons (.refl _) (.cons (.refl _) (.cons ?_ (.cons (.refl _) .nil))));rw[h.d];refine LeD.row (fA_le λc=>?_);rw[if_pos ht];exact Cm
  refine vAu<|zA<|vF ((↑(Am b):Int)<↑(Am b))<|vZ2<|vA<|vnt [blI b,blX,blG b,blE b,blB b,blV<|fA (Au b)<|gvT (AI b) VT<|Aa<|AI b,blT<|fA (Au b)<|gtT (Am b) TT<|Am b,blU<|fA (Am b)<|guT (Am b) (buk b VT TT)<|Am b]<|zZ [] [] [Ar 4 0] [Ar 4 0] (BU _) (by exact htot) ?_;refine v0s<|veT<|zA<|vAe<|zFv (t:=(Aa (dg tot):Int)==(0:Int)) (by kernel_rfl) (by simpa using by omega)<|zB rfl<|vr 3 (True/\0<4/\(0:Int)<=(↑(Am b):Int)/\(↑(Am b):Int)<=(↑(Am b):Int)/\(↑(24:Nat):Int)*(↑(Am b):Int)<=(281474976710656:Int)/\(↑(Am b):Int)<=(281474976710656:Int)/\a7_)<|vb 8 (AL (repL (Ap (↑(Am b):Int)) [nl]) 88 1 Ab Ac<|kdOf Ac) (AL (fA (Am b) λ(x:Nat)=>nl) 88 1 Ab Ac<|kdOf Ac) (hd:=by simp(disch:=omega) only[AX,hz4])<|vr 2 (a2_)<|vb 4 (AL [iD ↑(Au b),iD ↑(Am b),Ad (Ae bD<|AS b)<|Aa<|AS b,Ad (nsD<|AI b)<|Aa<|AI b,Ad (As atR<|AK b)<|Aa<|AK b,Ad (As bgC<|AP b)<|Aa<|AP b,Ad (As atR<|AM b)<|Aa<|AM b,Ax 5 0 (Au b) (Au b) Ab,Ax 6 0 (Au b) (Au b) Ab,Ax 8 0 (Ap (↑(Am b):Int)) (Ap (↑(Am b):Int)*1) Ab] 120 0 Ac Ac AD) (AL [iD ↑(Au b),iD ↑(Am b),Ad (Ae bD<|AS b)<|Aa<|AS b,Ad (nsD<|AI b)<|Aa<|AI b,Ad (As atR<|AK b)<|Aa<|AK b,Ad (As bgC<|AP b)<|Aa<|AP b,Ad (As atR<|AM b)<|Aa<|AM b,Ax 5 0 (Au b) (Au b) Ab,Ax 6 0 (Au b) (Au b) Ab,Ax 8 0 (Am b) (Am b) Ab] 120 0 Ac Ac AD) ?_;refine veT<|zA<|vd [0,2,3,6,8,10,1,4,5,7,9,11,12,13]<|vr 9 (True/\True/\True/\0<3/\0<4/\True/\(0:Int)<=(↑(Am b):Int)/\True/\0<3/\0<=Ap (↑(Am b):Int)/\Ap (↑(Am b):Int)<=Aa (AP b)/\Ap (↑(Am b):Int)=Ap (↑(Am b):Int))<|vs 153 (Ad (Aj ((Ap (↑(Am b):Int)-0)*3)<|Ag 0<|As bgC<|AP b) (Ap (↑(Am b):Int)-0)) (Ad (As bgC<|Aj (Am b)<|AP b)<|Am b)<|vr 1 (0<1)<|vcl [Ad (Ae bD<|AS b)<|Aa<|AS b,Ad (As bgC<|Aj (Am b)<|AP b)<|Am b,Ad (Aj (Am b)<|Ag 0 (fA (Am b) λ(x:Nat)=>nl))<|Am b,natD tot] [Ad (Ae bD<|AS b)<|Aa<|AS b,Ad (As bgC<|Aj (Am b)<|AP b)<|Am b,Ad (fA (Am b) λ(x:Nat)=>nl)<|Am b,natD tot] (LeL.of_eq (by simp(disch:=omega) only[A1,htk])) (by exact hasm)<|ve (aU_)<|zE<|vret (5<=5)<|.inr rfl
 have hdp:=zYw ht;have hgu:fA b.f (guT b.f (buk b VT TT) b.f)=fA b.f λc=>busD (buk b VT TT c):=zB8 λc hc=>if_pos ⟨by omega,hc⟩;have htk:(fA b.f λc=>busD (buk b VT TT c)).take b.f=fA b.f λc=>busD (buk b VT TT c):=Bc (by rw[zEy];exact AE _);rw[hgu]at htot⊢;have hasm:Pure Ai 54 [.row (b.desc.map bD) b.desc.length, .row ((b.L.take b.f).flatMap bgC) b.f, .row (fA b.f λc=>busD (buk b VT TT c)) b.f,natD tot] [] (ixD b.desc (b.L.take b.f) (λc=>if tot=0 then[]else buk b VT TT c) tot):=by
  have h0:=zPn b.desc (b.L.take b.f) (buk b VT TT) tot (by rw[h.d];omega) (by omega) (λc hc=>hU c (by rw[<-h.d];exact hc));have e:(λc=>if tot=0 then[]else buk b VT TT c)=buk b VT TT:=funext λc=>if_neg (by omega);rw[e];rw[hlt]at h0;have hd:=h.d;grind
 refine vAu<|zA<|vF ((↑(Am b):Int)<↑(Am b))<|vZ2<|vA<|vnt [blI b,blX,blG b,blE b,blB b,blV<|fA (Au b)<|gvT (AI b) VT<|Aa<|AI b,blT<|fA (Au b)<|gtT (Am b) TT<|Am b,blU (fA (Am b) λ(c:Nat)=>busD (buk b VT TT c))]<|zZ [] [] [Ar 4 0] [Ar 4 0] (BU _) (by exact htot) ?_;refine v0s<|veT<|zA<|vAe<|vEf ((Aa (dg tot):Int)) ((0:Int))<|vK<|zA<|vd [0,2,3,6,8,10,1,4,5,7,9,11,12,13]<|vr 9 (True/\True/\True/\0<3/\0<4/\True/\(0:Int)<=(↑(Am b):Int)/\True/\0<3/\0<=Ap (↑(Am b):Int)/\Ap (↑(Am b):Int)<=Aa (AP b)/\Ap (↑(Am b):Int)=Ap (↑(Am b):Int))<|vs 153 (Ad (Aj ((Ap (↑(Am b):Int)-0)*3)<|Ag 0<|As bgC<|AP b) (Ap (↑(Am b):Int)-0)) (Ad (As bgC<|Aj (Am b)<|AP b)<|Am b)<|vr 1 (0<1)<|vcl [Ad (Ae bD<|AS b)<|Aa<|AS b,Ad (As bgC<|Aj (Am b)<|AP b)<|Am b,Ad (Aj (Am b)<|Ag 0 (fA (Am b) λ(c:Nat)=>busD (buk b VT TT c)))<|Am b,natD tot] [Ad (Ae bD<|AS b)<|Aa<|AS b,Ad (As bgC<|Aj (Am b)<|AP b)<|Am b,Ad (fA (Am b) λ(c:Nat)=>busD (buk b VT TT c))<|Am b,natD tot] (LeL.of_eq (by simp(disch:=omega) only[A1,htk])) (by exact hasm)<|ve (aU_)<|zE<|vret (5<=5)<|.inr rfl
end
theorem zVh{E:List Nat}(hE:∀e∈E,e<4294967296)(hv:v<32)(w:Nat):(nbE E v).testBit w=E.any λe=>e.testBit v&&(e.testBit w&&decide (w≠v)):=by
 have key:∀(E:List Nat)(m:Nat),(∀e∈E,e<4294967296)->(E.foldl (λm e=>adU e m v) m).testBit w=(m.testBit w||E.any λe=>e.testBit v&&(e.testBit w&&decide (w≠v))):=by
  intro E;induction E with
  |nil=>intro m _;simp
  | cons e E ih=>
   intro m h;rw[BT,ih _ λx hx=>h x (Bf _ hx),List.any_cons,<-Bool.or_assoc];congr 1;unfold adU;split
   ·rename_i hb;have e2:andn e v=andm e (2^v):=rfl;rw[Nat.testBit_or,e2,zZe (h e (Bm ..)) (zEd hv),Nat.testBit_two_pow,hb,Bool.true_and];grind
   grind
 have:=key E 0 hE
 rw[Nat.zero_testBit,Bool.false_or]at this;exact this
structure Nbk(n:Nat)(O:List Nat)(i:Nat)(nb:Nat->Nat):Prop where
 b:∀u,nb u<4294967296
 r:∀u w,u<n->i<=O.idxOf u->(nb u).testBit w=Ab->w<n/\i<=O.idxOf w/\w≠u
 s:∀u w,u<n->w<n->i<=O.idxOf u->i<=O.idxOf w->(nb u).testBit w=(nb w).testBit u
structure Ook(n:Nat)(O:List Nat):Prop where
 n32:n<=32
 len:O.length=n
 lt:∀v∈O,v<n
 nd:O.Nodup
theorem Ook.at{O:List Nat}(h:Ook n O)(hi:i<n):O.getD i 0<n/\O.idxOf (O.getD i 0)=i:=by
 have hl:=h.len;refine⟨h.lt _ (zBj O i (by omega)),?_⟩;rw[AB,Aw (by omega),B_];exact h.nd.idxOf_getElem i (by omega)
theorem Ook.ix{O:List Nat}(h:Ook n O)(hv:v<n):O.idxOf v<n/\O.getD (O.idxOf v) 0=v:=by
 have h1:=zGl h.nd h.len h.lt v hv;have h2:=List.idxOf_lt_length_iff.2 h1;refine⟨by rw[<-h.len];exact h2,?_⟩;grind
theorem Ook.inj{O:List Nat}(h:Ook n O)(hu:u<n)(hv:v<n)(e:O.idxOf u=O.idxOf v):u=v:=by
 rw[<-(h.ix hu).2,<-(h.ix hv).2,e]
variable{w:Nat}
theorem zMi{key:Nat}{nb:Nat->Nat}(hn:n<=32)(hu:u<n)(hv:v<n)(hb:nb u<4294967296)(hk:key<4294967296):(nbJ key v n nb u).testBit w=if key.testBit u=Ab then(((nb u).testBit w||key.testBit w)&&(decide (w≠u)&&decide (w≠v)))else(nb u).testBit w:=by
 grind [nbJ,zZe,zQj,zEd]
theorem Nbk.step{O:List Nat}{nb:Nat->Nat}(hO:Ook n O)(hi:i<n)(h:Nbk n O i nb):Nbk n O (i+1) (nbJ (nb (O.getD i 0)) (O.getD i 0) n nb):=by
 obtain⟨v1,v2⟩:=hO.at hi;generalize O.getD i 0=v at*;have hne:∀u,u<n->i+1<=O.idxOf u->u≠v:=λu _ h1 e=>by rw[e,v2]at h1;omega
 have hgt:∀w,w<n->i<=O.idxOf w->w≠v->i+1<=O.idxOf w:=λw hw h1 h2=>by
  rcases AC i (O.idxOf w)with h3|h3
  ·exact h3
  exact absurd (hO.inj hw v1 (by omega)) h2
 refine⟨nbJ_32 h.b,λu w hu h1 hb=>?_,λu w hu hw h1 h2=>?_⟩
 ·rw[zMi hO.n32 hu v1 (h.b u) (h.b v)]at hb;split at hb
  ·rename_i hk;simp only[BG,Ca,decide_eq_true_eq]at hb;obtain⟨hb,h3,h4⟩:=hb;rcases hb with hb|hb
   ·obtain⟨q1,q2,q3⟩:=h.r u w hu (by omega) hb;grind
   obtain⟨q1,q2,q3⟩:=h.r v w v1 (by omega) hb;grind
  rename_i hk;obtain⟨q1,q2,q3⟩:=h.r u w hu (by omega) hb;refine⟨q1,hgt w q1 q2 λe=>?_,q3⟩;subst e;rw[h.s u w hu q1 (by omega) q2]at hb;exact hk hb
 rw[zMi hO.n32 hu v1 (h.b u) (h.b v),zMi hO.n32 hw v1 (h.b w) (h.b v),h.s u w hu hw (by omega) (by omega)];grind
theorem Nbk.all{n:Nat}{O:List Nat}{nb:Nat->Nat}(hO:Ook n O)(h:Nbk n O 0 nb):∀i,i<=n->Nbk n O i (nbT n O nb i)
 |0,_=>h
 |i+1,hi=>(Nbk.all hO h i (by omega)).step hO (by omega)
structure Bgk(n:Nat)(O:List Nat)(g:Nat->Bg):Prop where
 v:∀c,(g c).v=c
 k:∀c,(g c).k<4294967296
 r:∀c w,c<n->(g c).k.testBit w=Ab->w<n/\O.idxOf c<O.idxOf w
 p:∀c (v:Nat),c<n->(g c).p=(v:Int)->(g c).k.testBit v=Ab/\∀w,(g c).k.testBit w=Ab->O.idxOf v<=O.idxOf w
 q:∀c,c<n->(g c).p<0->(g c).k=0
 pz:∀c,c<n->(g c).p=-1\/∃v:Nat,(g c).p=(v:Int)/\v<n
theorem zQh{key:Nat}{pl:Nat->Nat}:∀{j:Nat},(parJ key pl j=AT->∀w,w<j->key.testBit w=Ac)/\∀p,parJ key pl j=AA p->∀w,w<j->key.testBit w=Ab->pl p<=pl w
 |0=>⟨λ_ w h=>by omega,λp h=>by cases h⟩
 |j+1=>by
  obtain⟨i1,i2⟩:=zQh (key:=key) (pl:=pl) (j:=j);rw[parJ];grind
theorem zWh{O:List Nat}{nb:Nat->Nat}(hO:Ook n O)(h:Nbk n O 0 nb):Bgk n O (bagE n O nb):=by
 have hk:∀c,c<n->∀w,(nbT n O nb (O.idxOf c) c).testBit w=Ab->w<n/\O.idxOf c<O.idxOf w:=λc hc w hw=>by
  have hi:=(hO.ix hc).1;obtain⟨q1,q2,q3⟩:=(h.all hO _ (by omega)).r c w hc (AE _) hw;refine⟨q1,?_⟩;rcases AC (O.idxOf c) (O.idxOf w)with h3|h3
  ·exact h3
  exact absurd (hO.inj q1 hc (by omega)) q3
 refine⟨λc=>rfl,λc=>zMh h.b _ _,λc w hc hw=>hk c hc w hw,λc v hc hp=>?_,λc hc hp=>?_,λc hc=>?_⟩
 ·unfold bagE at hp⊢;dsimp only at hp⊢;cases e:parJ (nbT n O nb (O.idxOf c) c) (λu=>O.idxOf u) n with
  |none=>rw[e]at hp;simp only[Go.Proofs.YtjcofbkhoeockaaGreatDoor.pz]at hp;omega
  |some p=>
   rw[e]at hp;simp only[Go.Proofs.YtjcofbkhoeockaaGreatDoor.pz]at hp;obtain rfl:p=v:=by omega
   grind [zL8,zQh]
 ·unfold bagE at hp⊢;dsimp only at hp⊢;cases e:parJ (nbT n O nb (O.idxOf c) c) (λu=>O.idxOf u) n with
  |none=>
   apply Nat.eq_of_testBit_eq;grind [nbT,zQh]
  |some p=>rw[e]at hp;simp only[Go.Proofs.YtjcofbkhoeockaaGreatDoor.pz]at hp;omega
 unfold bagE;dsimp only;cases e:parJ (nbT n O nb (O.idxOf c) c) (λu=>O.idxOf u) n with
 |none=>exact .inl rfl
 |some p=>exact .inr ⟨p,rfl,(zL8 e).1⟩
theorem zX0{O E:List Nat}(hn:n<=32)(hE:∀e∈E,e<2^n):Nbk n O 0 λv=>if v<n then nbE E v else 0:=by
 have hE2:∀e∈E,e<4294967296:=λe he=>By (hE e he) (AZ (n:=2) (by omega) hn);refine⟨λu=>?_,λu w hu _ hb=>?_,λu w hu hw _ _=>?_⟩
 ·grind [nbE,nbE_32]
 ·rw[if_pos hu,zVh hE2 (by omega),BV]at hb;obtain⟨e,he,hb⟩:=hb;simp only[BG,decide_eq_true_eq]at hb;refine⟨?_,Bv _,hb.2.2⟩;grind [AC,B6,By,AZ]
 grind [zVh,Bool.and_comm]
theorem jn_all(Q:Va->Prop)(hao:AOk (mkP s A))(hR:∀a∈A,∀r∈a.2,r.length=a.1.length/\∀v∈r,Q v):∀x∈jn (mkP s A),x.length=(zAf s).length/\∀v∈x,Q v:=λx hx=>by
 obtain⟨h1,h2⟩:=((zHb hao).2 x).1 hx;refine⟨h1,λv hv=>?_⟩;obtain⟨w,hw,rfl⟩:=Bj hv;obtain⟨a,ha,hm⟩:=hao.v.cov w (by omega);have h3:=h2 a ha;have ha2:a<A.length:=by
  have:(mkP s A).A.length=A.length:=AN _;omega
 have hpa:(mkP s A).A.getD a Af=zBb s (A.getD a Af):=zEp s A ha2;rw[hpa]at h3;obtain⟨q,hq,e⟩:=AJ.1 (mem_relR.1 h3);have hmem:x[w]∈prj (mkP s A).vs a 0 x:=AJ.2 ⟨w,AV.2 ⟨hm,by simp⟩,by rw[AB,Aw hw];rfl⟩;rw[<-e]at hmem;have hA:A.getD a Af∈A:=by rw[AB,Aw ha2];exact AR ha2
 obtain⟨q1,q2⟩:=hR _ hA q hq;obtain⟨c,hc,e2⟩:=AJ.1 hmem;have hc2:=zKa _ _ c hc;rw[<-e2];refine q2 _ ?_;rw[AB,Aw (by omega:c<q.length)];exact AR _
theorem zN7{α:Type}[DecidableEq α]:∀{L M:List α},L.Nodup->(∀x∈L,x∈M)->L.length<=M.length
 |[],_,_,_=>Bv _
 |a::L,M,hn,h=>by
  obtain⟨h1,h2⟩:=Co.1 hn;have ha:=h a (Bm ..)
  have:=zN7 (L:=L) (M:=M.erase a) h2 λx hx=>(List.mem_erase_of_ne (λe=>h1 (by rw[<-e];exact hx))).2 (h x (Bf _ hx))
  grind
def cart{α:Type}:List (List α)->List (List α)
 |[]=>[[]]
 |l::ls=>l.flatMap λa=>(cart ls).map (a::·)
theorem zY4{α:Type}:∀ls:List (List α),(cart ls).length=(ls.map (·.length)).foldr (· *·) 1
 |[]=>rfl
 |l::ls=>by
  rw[cart,Bz,BW,<-zY4 ls];induction l<;>grind
theorem zY3{α β:Type}(f:β->α)(L:β->List α):∀B:List β,(∀a∈B,f a∈L a)->B.map f∈cart (B.map L)
 |[],_=>by simp[cart]
 |a::B,h=>by
  rw[Bz,Bz,cart,BA];exact⟨f a,h a (Bm ..),AJ.2 ⟨_,zY3 f L B λb hb=>h b (Bf _ hb),rfl⟩⟩
theorem zVb{β:Type}(f g:β->Nat):∀B:List β,(∀a∈B,f a<=g a)->(B.map f).foldr (· *·) 1<=(B.map g).foldr (· *·) 1
 |[],_=>AE _
 |a::B,h=>by
  rw[Bz,Bz,BW,BW];exact Cp (h a (Bm ..)) (zVb f g B λb hb=>h b (Bf _ hb))
def combs(A:List (List Nat×List Rw)):Nat:=(A.map λa=>max 1 a.2.length).foldr (· *·) 1
theorem jn_len(hao:AOk (mkP s A)):(jn (mkP s A)).length<=combs A:=by
 have hsp:=zHb hao;generalize hm:mkP s A=m at*;let code:Rw->List Rw:=λx=>(Ak m.A.length).map λa=>prj m.vs a 0 x;have hnd:(jn m).Nodup:=(hsp.1).imp λ{a b} h e=>by
  grind [zBq]
 have hinj:∀x y,x∈jn m->y∈jn m->code x=code y->x=y:=λx y hx hy e=>by
  obtain⟨x1,_⟩:=(hsp.2 x).1 hx;obtain⟨y1,_⟩:=(hsp.2 y).1 hy;apply BX (by omega);intro w h1 h2;obtain⟨a,ha,hmem⟩:=hao.v.cov w (by omega);have e2:prj m.vs a 0 x=prj m.vs a 0 y:=by
   have:=congrArg (λl=>l.getD a []) e
   grind
  have:=List.map_inj_left.1 e2 w (AV.2 ⟨hmem,by simp⟩)
  grind
 have hnd2:((jn m).map code).Nodup:=by
  rw[BH,BK];exact hnd.imp_of_mem λ{x y} hx hy hne e=>hne (hinj x y hx hy e)
 have h1:=zN7 (M:=cart ((Ak m.A.length).map λa=>(m.A.getD a Af).2)) hnd2 λz hz=>by
  grind [zY3]
 rw[AN,zY4,A4]at h1;refine AG h1 ?_;have e:(Ak m.A.length).map ((λl:List Rw=>l.length)∘λa=>(m.A.getD a Af).2)=m.A.map λa=>a.2.length:=by
  apply BX (by simp);grind
 rw[e,<-hm];show((A.map (zBb s)).map λa=>a.2.length).foldr (· *·) 1<=_;rw[A4];exact zVb _ _ A λa _=>AG (zK6 s a) (Nat.le_max_right _ _)
abbrev Tbs:=(Nat->List Rw)×(Nat->List (Rw×Nat))
def tabS(b:Bd)(v:Nat)(p:Tbs):Tbs:=(λc=>if c=v then redK (λx=>wtL b.f p.1 p.2 x (chV b v)) (keyC b v) (b.R.getD v Af).2 else p.1 c,λc=>if c=v then totL (grpL (b.desc.getD v Ac) (λx=>wtL b.f p.1 p.2 x (chV b v)) (b.R.getD v Af).2)else p.2 c)
def tab(b:Bd)(O:List Nat):Nat->Tbs
 |0=>(λ_=>[],λ_=>[])
 |i+1=>tabS b (O.getD i 0) (tab b O i)
theorem wtL_ext{V V':Nat->List Rw}{T T':Nat->List (Rw×Nat)}{x:Rw}{ch:List (Nat×List Nat)}(h:∀c∈ch,V c.1=V' c.1/\T c.1=T' c.1):wtL f V T x ch=wtL f V' T' x ch:=by
 grind [wtL,AW,wone]
section
variable{b:Bd}{O:List Nat}(hO:Ook b.n O)(hch:∀ v, v < b.n->∀ c ∈ chV b v, c.1 < b.n ∧ O.idxOf c.1 < O.idxOf v)
include hO
theorem zNt(hc:c<b.n)(h:O.idxOf c<i)(hij:i<=j)(hj:j<=b.n):(tab b O j).1 c=(tab b O i).1 c/\(tab b O j).2 c=(tab b O i).2 c:=by
 induction j with
 |zero=>omega
 | succ j ih=>
  rcases AC j i with h1|h1
  ·grind
  have hne:c≠O.getD j 0:=λe=>by
   have:=(hO.at (show j<b.n by omega)).2
   rw[<-e]at this;omega
  grind [tab,tabS,only]
include hch
theorem tab_eq(hv:v<b.n):(tab b O b.n).1 v=redK (λx=>wtL b.f (tab b O b.n).1 (tab b O b.n).2 x (chV b v)) (keyC b v) (b.R.getD v Af).2/\(tab b O b.n).2 v=totL (grpL (b.desc.getD v Ac) (λx=>wtL b.f (tab b O b.n).1 (tab b O b.n).2 x (chV b v)) (b.R.getD v Af).2):=by
 obtain⟨h1,h2⟩:=hO.ix hv;obtain⟨e1,e2⟩:=zNt hO hv (Nat.lt_succ_self (O.idxOf v)) (Nat.succ_le_of_lt h1) (AE _);have e3:(λx=>wtL b.f (tab b O b.n).1 (tab b O b.n).2 x (chV b v))=λx=>wtL b.f (tab b O (O.idxOf v)).1 (tab b O (O.idxOf v)).2 x (chV b v):=funext λx=>wtL_ext λc hc=>by
  obtain⟨c1,c2⟩:=hch v hv c hc;exact zNt hO c1 c2 (by omega) (AE _)
 simp_all [tab,tabS,only]
end
def exB:Nat->Nat
 |0=>1
 |i+1=>1+(i+1)*exB i
theorem zQ4(h:i<=j):exB i<=exB j:=by
 induction h with
 |refl=>exact AE _
 |step _ ih=>
  grind [AG,exB,Nat.succ_mul]
theorem zVv{B:Nat}(hB:1<=B):∀(l:List Nat)(a:Nat),(∀x∈l,x<=B)->l.foldl (· *·) a<=a*B^l.length
 |[],a,_=>by simp
 |x::l,a,h=>by
  rw[BT];refine AG (zVv hB l (a*x) λy hy=>h y (Bf _ hy)) ?_;rw[BN,Cb,Cq (B^l.length) B,<-Cc];simp_all [BO,Cr,Bm]
theorem zTx{w:Rw->Nat}{M:Nat}:∀l:List Rw,(∀x∈l,w x<=M)->sumW w l<=l.length*M
 |[],_=>by simp[sumW]
 |x::l,h=>by
  have:=zTx l λy hy=>h y (Bf _ hy)
  grind [Bm,sumW,BN,Nat.succ_mul]
variable{r:List Va}{p:List Va×Nat}
theorem tput_mem{K:List (List Va×Nat)}(h:p∈tput K r w):p=(r,w)\/p∈K:=by
 grind [tput,List.mem_or_eq_of_mem_set,AY]
theorem totL_mem:∀l:List Bu,p∈totL l->∃b∈l,p=(b.key,b.t.tot):=by
 have key:∀(l:List Bu)(K:List (List Va×Nat)),p∈l.foldl (λK b=>tput K b.key b.t.tot) K->p∈K\/∃b∈l,p=(b.key,b.t.tot):=by
  intro l;induction l with
  |nil=>exact λK h=> .inl h
  |cons b l ih=>
   intro K h;rw[BT]at h;rcases ih _ h with h|⟨u,hu,h⟩;all_goals grind [tput_mem,Bm,Bf]
 intro l h;rcases key l [] h with h|h
 ·cases h
 exact h
theorem dg_pow:∀(k n:Nat),n<4294967296^k->(dg n).length<=k
 |0,n,h=>by
  simp_all [Nat.pow_zero,dg]
 | k+1,n,h=>by
  rw[dg];split
  ·simp
  rw[BN]
  have:=dg_pow k (n/4294967296) (by rw[Cb]at h;exact Nat.div_lt_of_lt_mul (by rw[Cq];exact h))
  omega
theorem b32_pow(k:Nat):4294967296^k=2^(32*k):=by rw[Nat.pow_mul]
variable{k:Nat}
theorem dg_exp(h:n<=2^e)(he:e<32*k):(dg n).length<=k:=by
 refine dg_pow k n ?_;rw[b32_pow];exact Nat.lt_of_le_of_lt h (Nat.pow_lt_pow_right (by omega) he)
theorem Sm.pow(h:n<=2^e)(he:e<32000):Sm n:=dg_exp h he
theorem zE6(e:Nat):1<=2^e:=Nat.one_le_two_pow
section
variable{b:Bd}{O:List Nat}(hO:Ook b.n O)(hch:∀ v, v < b.n->∀ c ∈ chV b v, c.1 < b.n ∧ O.idxOf c.1 < O.idxOf v)(hnd:∀ v, v < b.n->((chV b v).map (·.1)).Nodup)
 {V : Nat → List Rw} {T : Nat → List (Rw × Nat)} (hT : ∀ v, v < b.n → T v = totL (grpL (b.desc.getD v Ac) (fun x => wtL b.f V T x (chV b v)) (b.R.getD v Af).2)) (hl : ∀ v, v < b.n → (b.R.getD v Af).2.length ≤ 65536)
include hO hch hnd
theorem ch_few(hv:v<b.n):(chV b v).length<=O.idxOf v:=by
 have h1:((chV b v).map λc=>O.idxOf c.1).Nodup:=by
  have e:(chV b v).map (λc=>O.idxOf c.1)=((chV b v).map (·.1)).map λu=>O.idxOf u:=by rw[A4];rfl
  rw[e,BH,BK];exact(hnd v hv).imp_of_mem λ{x y} hx hy hne e=>by
   obtain⟨c,hc,rfl⟩:=AJ.1 hx;obtain⟨d,hd,rfl⟩:=AJ.1 hy;exact hne (hO.inj (hch v hv c hc).1 (hch v hv d hd).1 e)
 have:=zGb (n:=O.idxOf v) h1 λx hx=>by
  grind
 rwa[AN]at this
theorem wt_le(hv:v<b.n)(E:Nat)(hE:∀c∈chV b v,∀p∈T c.1,p.2<=2^E)(x:Rw)(i:Nat):wtL b.f V T x ((chV b v).take i)<=2^(O.idxOf v*E):=by
 unfold wtL;have h1:=zVv (zE6 E) (((chV b v).take i).map (wone b.f V T x)) 1 λy hy=>by
  obtain⟨c,hc,rfl⟩:=AJ.1 hy;unfold wone;split
  ·cases e:tlk (T c.1) (zM x c.2)with
   |none=>simp
   |some w=>
    grind [tlk,CS,BF,CT]
  grind
 rw[Cd,AN,<-Nat.pow_mul]at h1;grind [AG,AZ,Cq,BO,ch_few]
include hT hl
theorem tab_le:∀(i v:Nat),v<b.n->O.idxOf v=i->∀p∈T v,p.2<=2^(16*exB i):=λi=>by
 induction i using Nat.strongRecOn with
 | _ i ih=>
  intro v hv hi p hp;rw[hT v hv]at hp;obtain⟨u,hu,rfl⟩:=totL_mem _ hp;have h1:=((zMs (Q:=λ_=>True) (b.R.getD v Af).2 λ_ _=>trivial).2 u hu).s;refine AG h1 ?_;have hw:∀x∈(b.R.getD v Af).2,wtL b.f V T x (chV b v)<=2^(16*(exB i-1)):=λx _=>by
   have:=wt_le (V:=V) hO hch hnd hv (16*exB (i-1)) (λc hc p hp=>by
    obtain⟨c1,c2⟩:=hch v hv c hc;refine AG (ih _ (by omega) c.1 c1 rfl p hp) (AZ (by omega) (Cr _ (zQ4 (by omega))))) x (chV b v).length
   rw[A8,hi]at this;refine AG this (AZ (by omega) ?_);cases i with
   |zero=>simp
   |succ i=>
    rw[exB,Nat.add_sub_cancel,Nat.add_sub_cancel_left,<-Cc,Cq (i+1) 16,Cc];exact AE _
  refine AG (zTx _ hw) ?_;refine AG (BO _ (hl v hv)) ?_;have e:(65536:Nat)=2^16:=rfl;rw[e,<-Nat.pow_add];refine AZ (by omega) ?_;have:1<=exB i:=zQ4 (Bv i);omega
end
structure Inp where
 n:Nat
 f:Nat
 desc:List Bool
 P:List Nat
 A:List (List Nat×List Rw)
structure Inp.Ok(I:Inp):Prop where
 n:I.n<=6
 f:I.f<=I.n
 d:I.desc.length=I.f
 P:I.P.length+I.f=I.n
 P2:∀v∈I.P,I.f<=v/\v<I.n
 P3:I.P.Nodup
 A:I.A.length<=5
 V:Vok I.n I.A.length λi=>(I.A.getD i Af).1
 R:∀a∈I.A,a.2.length<=10/\Rsc a.2/\∀r∈a.2,r.length=a.1.length/\∀v∈r,vok v=Ab/\Vs v
 C:combs I.A<=5000
abbrev Inp.O(I:Inp):List Nat:=ordL I.f I.P
abbrev Inp.E(I:Inp):List Nat:=I.A.map λa=>msk a.1
abbrev Inp.nb(I:Inp):Nat->Nat:=λv=>if v<I.n then nbE I.E v else 0
abbrev Inp.bag(I:Inp):Nat->Bg:=bagE I.n I.O I.nb
abbrev Inp.L(I:Inp):List Bg:=(Ak I.n).map I.bag
abbrev Inp.R(I:Inp):List (List Nat×List Rw):=I.L.map (matA I.A)
abbrev Inp.b(I:Inp):Bd:=⟨I.n,I.f,I.desc,I.P,I.A,I.L,I.R,I.E⟩
abbrev Inp.VT(I:Inp):Nat->List Rw:=(tab I.b I.O I.n).1
abbrev Inp.TT(I:Inp):Nat->List (Rw×Nat):=(tab I.b I.O I.n).2
theorem cE_ok:∀na:Fin 6,∀k:Fin 7,(na.val+1)*cE na.val 16 k.val+1<=100000000000000000:=by decide
section
variable{I:Inp}(h:I.Ok)
include h
theorem Inp.ook:Ook I.n I.O:=⟨by have:=h.n;omega,zQi h.P,zVd h.P h.P2,zVc h.P2 h.P3⟩
theorem Inp.Elt:∀e∈I.E,e<2^I.n:=λe he=>by
 obtain⟨a,ha,rfl⟩:=AJ.1 he;obtain⟨_,h2⟩:=zNr h.V a ha;refine zQ8 λv hv=>?_;rw[zD0,decide_eq_false_iff_not];intro hm
 have:=h2 v hm
 omega
theorem Inp.bok:Bgk I.n I.O I.bag:=zWh (Inp.ook h) (zX0 (by have:=h.n;omega) (Inp.Elt h))
omit h in
theorem Inp.Lat(hv:v<I.n):I.L.getD v Af=I.bag v:=by
 grind
omit h in
theorem Inp.Rat(hv:v<I.n):I.R.getD v Af=matA I.A (I.bag v):=by
 grind
theorem Inp.bits(hv:v<I.n):(bgS (I.bag v)).testBit w=((I.bag v).k.testBit w||decide (w=v)):=by
 rw[bgS,(Inp.bok h).v,Nat.testBit_or,Nat.testBit_two_pow];grind
theorem Inp.bits_n(hv:v<I.n)(hw:(bgS (I.bag v)).testBit w=Ab):w<I.n:=by
 rw[Inp.bits h hv,Ca,decide_eq_true_eq]at hw;rcases hw with hw|rfl
 ·exact((Inp.bok h).r v w hv hw).1
 exact hv
theorem Inp.memn(hv:v<I.n):w∈zAf (bgS (I.bag v))↔(bgS (I.bag v)).testBit w=true:=by
 unfold zAf;rw[AV,AQ]
 have:=h.n
 exact⟨λhh=>hh.2,λhh=>⟨by have:=Inp.bits_n h hv hh;omega,hh⟩⟩
theorem Inp.mem_len(hv:v<I.n):0<(zAf (bgS (I.bag v))).length/\(zAf (bgS (I.bag v))).length<=I.n:=by
 constructor
 ·refine List.length_pos_of_mem ((Inp.memn h hv (w:=v)).2 ?_);rw[Inp.bits h hv];simp
 exact zGb (Ct.filter _) λw hw=>Inp.bits_n h hv ((Inp.memn h hv).1 hw)
theorem Inp.s32(hv:v<I.n):bgS (I.bag v)<4294967296/\bgS (I.bag v)>>>I.n=0:=by
 have hn:=h.n;have h1:bgS (I.bag v)<2^I.n:=zQ8 λw hw=>by
  cases e:(bgS (I.bag v)).testBit w with
  |false=>rfl
  |true=>have:=Inp.bits_n h hv e;omega
 exact⟨By h1 (AZ (n:=2) (by omega) (by omega:I.n<=32)),by rw[Nat.shiftRight_eq_div_pow];exact Nat.div_eq_of_lt h1⟩
theorem Inp.rows10:∀a∈I.A,a.2.length<=65536:=λa ha=>by have:=(h.R a ha).1;omega
theorem Inp.aok(hv:v<I.n):AOk (mkP (bgS (I.bag v)) I.A):=part_ok (by have:=h.n;omega:I.n<=32) (Inp.s32 h hv).2 (by have:=h.A;omega) h.V (Inp.rows10 h)
theorem Inp.jlen(hv:v<I.n):(jn (mkP (bgS (I.bag v)) I.A)).length<=5000:=AG (jn_len (Inp.aok h hv)) h.C
theorem Inp.jall(hv:v<I.n):∀x∈jn (mkP (bgS (I.bag v)) I.A),x.length=(zAf (bgS (I.bag v))).length/\∀u∈x,vok u=Ab/\Vs u:=jn_all (λu=>vok u=Ab/\Vs u) (Inp.aok h hv) λa ha r hr=>(h.R a ha).2.2 r hr
theorem Inp.par(hv:v<I.n)(hc:c<I.n)(hp:(I.bag c).p=(v:Int)):I.O.idxOf c<I.O.idxOf v:=((Inp.bok h).r c v hc ((Inp.bok h).p c v hc hp).1).2
theorem Inp.chs(hv:v<I.n):∀c∈chV I.b v,c.1<I.n/\I.O.idxOf c.1<I.O.idxOf v:=λc hc=>by
 obtain⟨h1,h2,_⟩:=zHc hc;have h1:c.1<I.n:=by simpa using h1
 rw[Inp.Lat h1]at h2;exact⟨h1,Inp.par h hv h1 h2⟩
omit h in
theorem Inp.chn(v:Nat):((chV I.b v).map (·.1)).Nodup:=by
 unfold chV chI;grind [A4,zBc,List.map_id,Ct.filter]
theorem Inp.ixP(hi:i<I.P.length):I.O.idxOf (I.P.getD i 0)=i:=by
 have hl:=h.P;have h1:=(Inp.ook h).at (i:=i) (by omega);simp_all [Inp.O,ordL,AB,CR]
theorem Inp.ixF(hv:v<I.f):I.O.idxOf v=I.P.length+(I.f-1-v):=by
 have hl:=h.P;have h1:=(Inp.ook h).at (i:=I.P.length+(I.f-1-v)) (by omega);have e:I.O.getD (I.P.length+(I.f-1-v)) 0=v:=by
  unfold Inp.O ordL;grind
 rw[e]at h1;exact h1.2
theorem Inp.take{c i:Nat}(hc:c<I.n)(hi:I.O.idxOf c<i)(hil:i<=I.P.length):c∈I.P.take i:=by
 have h1:=((Inp.ook h).ix hc).2;generalize I.O.idxOf c=j at*;have h2:I.P.getD j 0=c:=by
  rw[<-h1];unfold Inp.O ordL;grind
 grind [Aw,CU]
theorem Inp.teq(hv:v<I.n):I.VT v=redK (λx=>wtL I.f I.VT I.TT x (chV I.b v)) (keyC I.b v) (I.b.R.getD v Af).2/\I.TT v=totL (grpL (I.desc.getD v Ac) (λx=>wtL I.f I.VT I.TT x (chV I.b v)) (I.b.R.getD v Af).2):=tab_eq (b:=I.b) (O:=I.O) (Inp.ook h) (λv hv=>Inp.chs h hv) hv
theorem Inp.tle(he:e=5216)(hv:v<I.n):∀p∈I.TT v,p.2<=2^e:=λp hp=>by
 have hn:=h.n;have h1:=tab_le (b:=I.b) (O:=I.O) (V:=I.VT) (T:=I.TT) (Inp.ook h) (λv hv=>Inp.chs h hv) (λv _=>Inp.chn v) (λv hv=>(Inp.teq h hv).2) (λv hv=>by
  show(I.R.getD v Af).2.length<=_;rw[Inp.Rat hv]
  have:=Inp.jlen h hv
  show(jn _).length<=_;omega) (I.O.idxOf v) v hv rfl p hp
 refine AG h1 (AZ (by omega) ?_);have h2:=((Inp.ook h).ix hv).1;have h3:=zQ4 (show I.O.idxOf v<=5 by omega);have h4:exB 5=326:=by decide
 omega
theorem Inp.wle(he:e=5216)(hv:v<I.n)(x:Rw)(i:Nat):wtL I.f I.VT I.TT x ((chV I.b v).take i)<=2^(5*e):=by
 have hn:=h.n;have h1:=wt_le (b:=I.b) (O:=I.O) (V:=I.VT) (T:=I.TT) (Inp.ook h) (λv hv=>Inp.chs h hv) (λv _=>Inp.chn v) hv e (λc hc=>Inp.tle h he (Inp.chs h hv c hc).1) x i;have h2:=((Inp.ook h).ix hv).1;grind [AG,AZ,BO]
theorem Inp.bal:Bal I.b I.VT I.TT where
 n:=by have:=h.n;show I.n<=_;omega
 f:=h.f
 d:=h.d
 L:=by simp
 R:=by simp
 E:=rfl
 P:=h.P
 P2:=h.P2
 P3:=h.P3
 A:=by have:=h.A;show I.A.length<=_;omega
 Av a ha:=by
  obtain⟨h1,h2⟩:=zNr h.V a ha
  have h3:=zHg (n:=I.n) 0 h1 λw hw=>⟨Bv _,h2 w hw⟩
  have hn:=h.n
  exact⟨by omega,λv hv=>by have:=h2 v hv;omega,Inp.rows10 h a ha⟩
 k c hc:=by
  obtain⟨v,hv,rfl⟩:=AJ.1 hc
  exact(Inp.bok h).k v
 V v hv:=by
  have hv:v<I.n:=hv
  have hn:=h.n
  rw[show I.b.R=I.R from rfl,Inp.Rat hv]
  obtain⟨h1,h2⟩:=Inp.mem_len h hv
  exact⟨by show(zAf _).length<=_;omega,h1,λu hu=>by have:=Inp.bits_n h hv ((Inp.memn h hv).1 hu);omega⟩
 r v hv x hx:=by
  have hv:v<I.n:=hv
  rw[show I.b.R=I.R from rfl,Inp.Rat hv]at hx⊢
  obtain⟨h1,h2⟩:=Inp.jall h hv x hx
  exact⟨h1,λu hu=>(h2 u hu).2,Bi.2 λu hu=>(h2 u hu).1⟩
 rl v hv:=by
  have hv:v<I.n:=hv
  rw[show I.b.R=I.R from rfl,Inp.Rat hv]
  have:=Inp.jlen h hv
  show(jn _).length<=_
  omega
 S v hv x hx i hi:=by
  obtain⟨e,he⟩:∃e,e=5216:=⟨_,rfl⟩
  exact Sm.pow (Inp.wle h he hv x i) (by omega)
 S1 v hv p hp:=by
  obtain⟨e,he⟩:∃e,e=5216:=⟨_,rfl⟩
  exact Sm.pow (Inp.tle h he hv p hp) (by omega)
 T v hv:=by
  have hv:v<I.n:=hv
  obtain⟨e,he⟩:∃e,e=5216:=⟨_,rfl⟩
  have h1:=zTx (w:=λx=>wtL I.b.f I.VT I.TT x (chV I.b v)) (M:=2^(5*e)) (I.b.R.getD v Af).2 λx _=>by
   have h1:=Inp.wle h he hv x (chV I.b v).length
   rwa[A8]at h1
  have h3:(I.b.R.getD v Af).2.length<=2^16:=by
   rw[show I.b.R=I.R from rfl,Inp.Rat hv]
   have:=Inp.jlen h hv
   show(jn _).length<=_
   omega
  refine Sm.pow (e:=16+5*e) (AG h1 ?_) (by omega)
  rw[Nat.pow_add]
  exact BO _ h3
 Rt i hi:=by
  have hi:i<=I.n:=hi
  have hn:=h.n
  obtain⟨e,he⟩:∃e,e=5216:=⟨_,rfl⟩
  have h1:=zVv (zE6 e) ((Ak i).map (rone I.b.L I.b.f I.VT I.TT)) 1 λy hy=>by
   obtain⟨c,hc,rfl⟩:=AJ.1 hy
   have hc:=AQ.1 hc
   unfold rone
   split
   ·exact zE6 _
   split
   ·cases e2:tlk (I.TT c) []with
    |none=>simp
    |some w=>
     unfold tlk at e2
     obtain⟨q,q1,q2⟩:=CS.1 e2
     rw[B_,<-q2]
     exact Inp.tle h he (by omega) q (CT q1)
   split
   ·exact Bv _
   exact zE6 _
  rw[Cd,<-Nat.pow_mul,AN,B8]at h1
  refine Sm.pow (e:=e*i) h1 ?_
  have:e*i<=e*6:=Cr _ (by omega)
  omega
 vt v _ hv:=(Inp.teq h hv).1
 tt v hv:=(Inp.teq h (by have:=h.f;have hv:v<I.f:=hv;omega)).2
 o1 i hi c hc:=by
  have hi:i<I.P.length:=hi
  have h1:=h.P2 _ (zBj I.P i hi)
  obtain⟨h2,h3⟩:=Inp.chs h h1.2 c hc
  rw[Inp.ixP h hi]at h3
  exact Inp.take h h2 h3 (by omega)
 o2 v hv c hc hcf:=by
  have hv:v<I.f:=hv
  have hcf:c.1<I.f:=hcf
  have hf:=h.f
  obtain⟨h2,h3⟩:=Inp.chs h (show v<I.n by omega) c hc
  rw[Inp.ixF h hv,Inp.ixF h hcf]at h3
  omega
end
abbrev Inp.tot(I:Inp):Nat:=totB I.b I.VT I.TT
abbrev Inp.U(I:Inp)(c:Nat):List Bu:=if I.tot=0 then[]else buk I.b I.VT I.TT c
abbrev Inp.ix(I:Inp):D:=ixD I.desc (I.L.take I.f) I.U I.tot
section
variable{I:Inp}(h:I.Ok)
include h
theorem Inp.bags_c:Pure Ai 31 [.agg [iD (I.n:Nat), .row (I.E.map u32D) I.E.length],iD (I.f:Nat), .row (nsD I.P) I.P.length] [] (.tup [.row (I.L.flatMap bgC) I.L.length,iD 0]):=by
 have hn:=h.n;have h1:=ebags_c I.n I.f (by omega) I.E (by rw[AN];have:=h.A;omega) (Inp.Elt h) I.P h.P h.P2 h.P3 I.nb rfl;grind [B3]
theorem Inp.mat(hv:v<I.n):∃z:Nat,z<=big/\Pure Ai 72 [iD (I.n:Nat),u32D (bgS (I.bag v)), .row (I.A.flatMap atR) I.A.length] [] (.tup [.agg (atR (matA I.A (I.bag v))),iD ((stpA (bgS (I.bag v)) I.A+z+(jn (mkP (bgS (I.bag v)) I.A)).length:Nat):Int),iD 0]):=by
 have hn:=h.n;have hA:=h.A;obtain⟨s1,s2⟩:=Inp.s32 h hv;obtain⟨m1,m2⟩:=Inp.mem_len h hv;have hj:=Inp.jlen h hv;exact mat_c I.n (bgS (I.bag v)) I.A (by omega) s1 s2 (by omega) h.V (Inp.rows10 h) (λa ha r hr=>⟨((h.R a ha).2.2 r hr).1,Bi.2 λu hu=>(((h.R a ha).2.2 r hr).2 u hu).1⟩) m1 16 (λa ha=>by have:=(h.R a ha).1;omega) (cE_ok ⟨I.A.length,by omega⟩ ⟨_,by omega⟩) (by omega)
theorem Inp.stp:stpA (bgS (I.bag v)) I.A<=50:=by
 have h1:=zPy (s:=bgS (I.bag v)) (B:=10) (A:=I.A) λa ha=>(h.R a ha).1;have h2:=h.A;omega
theorem Inp.all:∃S:Nat,S+zDq I.R<=1000000000000000000/\Pure Ai 32 [iD (I.n:Nat), .row (I.L.flatMap bgC) I.L.length, .row (I.A.flatMap atR) I.A.length] [] (.tup [.row (I.R.flatMap atR) I.R.length,iD ((S:Nat):Int),iD 0]):=by
 have hn:=h.n;let z:Bg->Nat:=λb=>if hb:b.v<I.n then BI (Inp.mat h hb)else 0
 have hzb:∀v (hv:v<I.n),z (I.bag v)=BI (Inp.mat h hv):=λv hv=>by
  show(if hb:(I.bag v).v<I.n then BI (Inp.mat h hb)else 0)=_;rw[dif_pos (show(I.bag v).v<I.n from hv)];rfl
 have hz1:∀b,z b<=big:=λb=>by
  grind
 have hL:∀b∈I.L,∃v,v<I.n/\b=I.bag v:=λb hb=>by
  grind
 have hsum:∀l:List Bg,(∀b∈l,b∈I.L)->totS I.A z l<=l.length*(big+5050)/\zDq (l.map (matA I.A))<=l.length*5000:=λl=>by
  induction l with
  |nil=>intro _;simp[totS,zDq]
  |cons b l ih=>
   intro hl;obtain⟨i1,i2⟩:=ih λc hc=>hl c (Bf _ hc);obtain⟨v,hv,rfl⟩:=hL b (hl b (Bm ..));have h1:=Inp.stp h (v:=v);have h2:=hz1 (I.bag v);have h3:=Inp.jlen h hv;have e1:totS I.A z (I.bag v::l)=(stpA (bgS (I.bag v)) I.A+z (I.bag v)+(jn (mkP (bgS (I.bag v)) I.A)).length)+totS I.A z l:=by simp[totS]
   have e2:zDq ((I.bag v::l).map (matA I.A))=(jn (mkP (bgS (I.bag v)) I.A)).length+zDq (l.map (matA I.A)):=by simp[zDq]
   grind
 have hLl:I.L.length=I.n:=by simp
 have hbig:big=100000000000000000:=rfl;have hall:=all_c I.n I.L I.A z (by omega) (λb hb=>by
  obtain⟨v,hv,rfl⟩:=hL b hb;exact⟨by show v<32;omega,(Inp.bok h).k v⟩) (λb hb=>by
  obtain⟨v,hv,rfl⟩:=hL b hb;rw[hzb v hv];exact(CE (Inp.mat h hv)).2) (λi hi=>by
  have:=(hsum (I.L.take i) λb hb=>BF hb).1
  refine AG this ?_;have h2:(I.L.take i).length*(big+5050)<=6*(big+5050):=BO _ (by rw[Bq];omega);omega)
 obtain⟨q1,q2⟩:=hsum I.L λb hb=>hb;refine⟨totS I.A z I.L,?_,?_⟩
 ·grind
 simp_all [Pure,matA,atR,AN,B3]
theorem Inp.build(hck:Pure Ai 16 [inpN I.b] [] (iD 0)):∃S:Nat,S+zDq I.R<=1000000000000000000/\Pure Ai 32 [iD (I.n:Nat), .row (I.L.flatMap bgC) I.L.length, .row (I.A.flatMap atR) I.A.length] [] (.tup [.row (I.R.flatMap atR) I.R.length,iD ((S:Nat):Int),iD 0])/\
  Pure Ai 15 [inpN I.b] [] (.tup [I.ix,iD ((S+zDq I.R:Nat):Int),iD 0]):=by
 obtain⟨S,h1,h2⟩:=Inp.all h;exact⟨S,h1,h2,build_c I.b I.VT I.TT S (Inp.bal h) hck (Inp.bags_c h) h2 (AG h1 (by omega))⟩
end
section
attribute [local irreducible] seqW awp zAd zAi zY Weak updS zAr retL Pure Acts rP setP setQ cP nP fr
set_option maxRecDepth 4096
def rofA(ar:Nat)(rows:List Rw):Int:=if 32<ar then 3 else rofE (ar:Nat) rows
theorem zXh(ar:Nat)(rows:List Rw)(n:Nat)(hn:rows.length=n)(hb:n<=2000000)(hl:∀r∈rows,r.length<=2000000):Pure Ai 48 [iD (ar:Nat), .row (rows.map rowV) n] [] (if rofA ar rows=0 then .tup [relD (ar:Nat) (relR rows),iD 0]else .tup [relZ,iD (rofA ar rows)]):=by
 by_cases h:32<ar
 ·unfold rofA;rw[if_pos h,if_neg (by decide)];have hnew:=newBad_c (ar:Nat) (.inr (by omega));refine zF zAx mixed Tryz.func48 rfl<|vAu<|vA<|vrT 1<|vc (hnew)<|ve (aM_)<|zA<|vAe<|vt<|vA<|ve (aZ_)<|zE<|zH<|vret (2<=2)<|.inr rfl
 grind [rofA,zXi]
structure Cs where
 n:Int
 f:Int
 desc:List Bool
 P:List Int
 V:List (List Int)
 R:List (List Rw)
abbrev zBn(l:List Int):D:= .row (l.map λz=>iD z) l.length
abbrev zCn(l:List Rw):D:= .row (l.map rowV) l.length
abbrev csC(c:Cs):List D:=[iD c.n,iD c.f, .row (c.desc.map bD) c.desc.length,zBn c.P, .row (c.V.map zBn) c.V.length, .row (c.R.map zCn) c.R.length]
abbrev csB(c:Cs):Bk:=⟨csC c,27,0,Ac,Ac, .plain⟩
structure Cs.Small(c:Cs):Prop where
 d:c.desc.length<=2000000
 P:c.P.length<=2000000
 V:c.V.length<=2000000
 R:c.R.length<=2000000
 v:∀l∈c.V,l.length<=2000000
 r:∀l∈c.R,l.length<=2000000/\∀x∈l,x.length<=2000000
def Cs.at(c:Cs)(i:Nat):At:=⟨c.V.getD i [],((c.V.getD i []).length:Nat),relR (c.R.getD i [])⟩
def Cs.ats(c:Cs)(m:Nat):List At:=(Ak m).map c.at
def Cs.err(c:Cs)(i:Nat):Int:=rofA (c.V.getD i []).length (c.R.getD i [])
abbrev inpK(c:Cs)(x:D):Bk:=⟨[iD c.n,iD c.f, .row (c.desc.map bD) c.desc.length,zBn c.P,x],31,0,Ac,Ac, .plain⟩
abbrev atsB(l:List At):Bk:=⟨l.flatMap atC,87,3,Ab,Ac, .plain⟩
abbrev inpZ:Bk:=⟨[iD 0,iD 0,nl0,nl0,nl0],31,0,Ac,Ac, .plain⟩
theorem Cs.ats_succ(c:Cs)(i:Nat):c.ats (i+1)=c.ats i++[c.at i]:=by
 grind [Cs.ats,Bp]
theorem Cs.ats_len(c:Cs)(i:Nat):(c.ats i).length=i:=by simp[Cs.ats]
abbrev q39_(x0:Cs):=Ad (Ae zBn (Cs.V x0)) (Aa (Cs.V x0))
abbrev q40_(x0:Cs):=Ad (Ae zCn (Cs.R x0)) (Aa (Cs.R x0))
theorem make_c(c:Cs)(h:c.Small):∃(m:Nat)(ok:Bool),m<=c.V.length/\m<=c.R.length/\(ok=Ab↔c.V.length=c.R.length/\∀i,i<c.V.length->c.err i=0)/\(ok=Ab->m=c.V.length)/\
  Pure Ai 12 [.agg (csC c)] [] (.tup [inpD c.n c.f c.desc c.P (c.ats m),bD ok]):=by
 obtain⟨m,hm1,hm2,hgood,hend⟩:∃m,m<=c.V.length/\m<=c.R.length/\(∀j,j<m->c.err j=0)/\((m=min c.V.length c.R.length)\/(m<c.V.length/\m<c.R.length/\c.err m≠0)):=by
  by_cases hb:∃p,p<min c.V.length c.R.length/\decide (c.err p≠0)=Ab
  ·obtain⟨p,hp,hpb,hmin⟩:=zDf (p:=λi=>decide (c.err i≠0)) hb;grind
  refine⟨min c.V.length c.R.length,by omega,by omega,λj hj=>?_, .inl rfl⟩;grind
 have hV:∀i,i<c.V.length->((c.V.map zBn).drop i).headD .unk=zBn (c.V.getD i []):=λi hi=>zAq zBn c.V [] i hi;have hR:∀i,i<c.R.length->((c.R.map zCn).drop i).headD .unk=zCn (c.R.getD i []):=λi hi=>zAq zCn c.R [] i hi;have hVn:0<c.V.length->c.V.map zBn≠[]:=λh=>zAc (h:=h);have hRn:0<c.R.length->c.R.map zCn≠[]:=λh=>zAc (h:=h);have hlV:=h.V;have hlR:=h.R;have hac:∀i,((c.ats i).flatMap atC).length=i*3:=λi=>by rw[zDn (c:=3) (λ_=>rfl),Cs.ats_len]
 have htk:∀i,((c.ats i).flatMap atC).take (i*3)=(c.ats i).flatMap atC:=λi=>Bc (by rw[hac];exact AE _);refine⟨m,decide (m=c.V.length/\c.V.length=c.R.length),hm1,hm2,?_,λhh=>(of_decide_eq_true hh).1,?_⟩
 ·grind
 rw[show inpD c.n c.f c.desc c.P (c.ats m)= .agg [iD c.n,iD c.f, .row (c.desc.map bD) c.desc.length,zBn c.P, .row ((c.ats m).flatMap atC) m]from congrArg (λk=>Ay [iD c.n,iD c.f, .row (c.desc.map bD) c.desc.length,zBn c.P, .row ((c.ats m).flatMap atC) k]) (Cs.ats_len c m)];refine zF zAx mixed Tryz.func12 rfl<|vAu<|vA<|vr 11 (True/\0<6/\True/\0<5/\True/\0<4/\True/\0<3/\((1=1/\1<=5/\1=1/\2<=5/\1=1/\3<=5/\1=1/\4<=5/\True)/\Ab=Ab)/\Ac=Ac/\Ab=Ab/\5=5/\5<=5)<|vnil<|zC<|vnn (fr 69 [(1,Ar 0 0),(2,Ar 1 0),(3,bD Ac),(4,Ar 2 0),(8,Ar 0 0),(9,iD<|Cs.n c),(10,Ar 0 1),(11,iD<|Cs.f c),(12,Ar 0 2),(13,Ad (Ae bD<|Cs.desc c)<|Aa<|Cs.desc c),(14,Ar 0 3),(15,Ad (Ae (λ(z:Int)=>iD z)<|Cs.P c)<|Aa<|Cs.P c),(16,Ay [iD<|Cs.n c,iD<|Cs.f c,Ad (Ae bD<|Cs.desc c)<|Aa<|Cs.desc c,Ad (Ae (λ(z:Int)=>iD z)<|Cs.P c)<|Aa<|Cs.P c,nl])]) [AL [iD<|Cs.n c,iD<|Cs.f c,Ad (Ae bD<|Cs.desc c)<|Aa<|Cs.desc c,Ad (Ae (λ(z:Int)=>iD z)<|Cs.P c)<|Aa<|Cs.P c,Ad (Ae zBn<|Cs.V c)<|Aa<|Cs.V c,Ad (Ae zCn<|Cs.R c)<|Aa<|Cs.R c] 27 0 Ac Ac AD,AL [iD 0,iD 0,nl,nl,nl] 31 0 Ac Ac AD,AL [iD<|Cs.n c,iD<|Cs.f c,Ad (Ae bD<|Cs.desc c)<|Aa<|Cs.desc c,Ad (Ae (λ(z:Int)=>iD z)<|Cs.P c)<|Aa<|Cs.P c,nl] 31 0 Ac Ac AD]<|zB2 (Weak.nilC (j:=2) (i:=4) (ej:=inpK c nl0) (atsB []) rfl rfl rfl rfl) ?_;refine zA<|vAu<|zJ<|zK (λ(i:Nat)=>fr 69 [(1,Ar 0 0),(2,Ar 1 0),(4,Ar 2 0),(5,iD i)]) (λ(i:Nat)=>[csB c,inpZ,inpK c<|.osl 3 0 i (i*3) Ab,atsB<|c.ats i]) (λ(i:Nat)=>m-i) (λ(i:Nat)=>i<=m) 0 ?_ ?_ ?_
 ·omega
 ·refine vk 4
 intro i h1;rcases AC i m with h2|h2
 ·have hv:=hV i (by omega);have hr:=hR i (by omega);have hvn:=hVn (by omega);have hrn:=hRn (by omega);have hac1:=hac i;have hrm:c.R.getD i []∈c.R:=by rw[AB,Aw (by omega)];exact AR _
  obtain⟨r1,r2⟩:=h.r _ hrm;have hof:=zXh (c.V.getD i []).length (c.R.getD i []) _ rfl r1 r2;have hok:rofA (c.V.getD i []).length (c.R.getD i [])=0:=hgood i h2;rw[if_pos hok]at hof;have hsu:atsB (c.ats (i+1))=⟨(c.ats i).flatMap atC++[zBn (c.V.getD i []),iD ((c.V.getD i []).length:Nat), .row ((relR (c.R.getD i [])).map rowV) (relR (c.R.getD i [])).length],87,3,Ab,Ac, .plain⟩:=by
   rw[Cs.ats_succ];show AL ((c.ats i++[c.at i]).flatMap atC) _ _ _ _ _=_;rw[<-fl_app];rfl
  refine zA<|vAs<|vew [] [(5,Ab)] (aI_ (decide ((i:Int)<(Aa (Cs.V c):Int))=Ab/\aW_))<|vT ((i:Int)<(Aa (Cs.R c):Int))<|vKB<|zA<|vd [0,2,6,8,1,3,4,5,7,9,10,11,12,13,14,15,16,17]<|vr 6 (True/\True/\0<2/\ix ↑i (Aa (Cs.V c):Int) (Ae zBn (Cs.V c)≠[]))<|vp 35 i (Ae zBn<|Cs.V c)<|vr 1 (0<Aa (Ag i<|Ae zBn<|Cs.V c))<|vsh 36 hv<|vr 3 (0<1/\ix ↑i (Aa (Cs.R c):Int) (Ae zCn (Cs.R c)≠[]))<|vp 41 i (Ae zCn<|Cs.R c)<|vr 1 (0<Aa (Ag i<|Ae zCn<|Cs.R c))<|vsh 42 hr<|vc hof<|ve (aM_)<|zA<|vAe<|vf<|vK<|vd [0,2,4,1,3,5,6,7,8,9,10,11,12]<|vr 6 (True/\True/\0<1/\0<2/\ix ↑i (Aa (Cs.V c):Int) (Ae zBn (Cs.V c)≠[]))<|vp 54 i (Ae zBn<|Cs.V c)<|vr 1 (0<Aa (Ag i<|Ae zBn<|Cs.V c))<|vsh 55 hv<|vr 6 (2<=2/\((1=1/\1<=3/\2=2/\3<=3/\True)/\Ab=Ab)/\((3=3/\3<=3/\True)/\0<3/\3=3/\3<=16777216/\1<=9223372036854775807)/\(Bk.arr (atsB<|Cs.ats c i)=Ab/\Aa (AU<|atsB<|Cs.ats c i)=i*3/\i*3=i*3/\Bk.ty (atsB<|Cs.ats c i)=87/\Bk.sz (atsB<|Cs.ats c i)=3/\3=3/\0<3/\0<56/\87=87/\(i+1)*56<=140737488355328/\3=3/\Ba (Bl<|atsB<|Cs.ats c i)=Ac/\(Ac=Ac\/Bb (Bl<|atsB<|Cs.ats c i)=Ab))/\True/\Ac=Ac/\Ab=Ab/\1=1/\5<=5)<|vnil<|zD<|vN<|zB rfl<|vr 3 (i6 (↑i+1))<|vnil<|zC<|⟨i+1,by omega,by omega,?_⟩;rw[hsu];refine vk 4
 obtain rfl:i=m:=by omega
 have htk1:=htk i;rcases hend with h3|⟨h3,h4,h5⟩
 ·have hb:decide (i=c.V.length/\c.V.length=c.R.length)=((c.V.length:Int)==(c.R.length:Int)):=by
   grind
  rw[hb];focus
   refine zA<|vAs<|vr 6 (aO_)<|vspD 22 ((i:Int)<(Aa (Cs.V c):Int)) (λhc=>?_)<|λhc=>?_;refine ve (aW_)<|vF ((i:Int)<(Aa (Cs.R c):Int))<|vZ2<|zA<|zA6 [1,4,0,2,3,5,6,7] [(8,[(2,100000),(3,100000),(5,100000),(6,100000),(7,100000)],[9])] rfl ?_;refine vr 8 (a1_)<|vnil<|zBy rfl rfl<|vr 1 (aU_)<|vnil ?_;refine zEg (C:=0<2/\AA ((q39_ c))=AA (A9 [(q39_ c),(q40_ c)] Uk)/\True/\AA (iD (Aa (Cs.V c):Int))=AA (iD (Aa (Cs.V c):Int))/\0<1/\AA ((q40_ c))=AA (A9 [(q40_ c)] Uk)/\True/\AA (iD (Aa (Cs.R c):Int))=AA (iD (Aa (Cs.R c):Int))/\True/\AA (bD ((Aa (Cs.V c):Int)==(Aa (Cs.R c):Int)))=AA (bD ((Aa (Cs.V c):Int)==(Aa (Cs.R c):Int)))) ⟨(by omega),(by kernel_rfl),trivial,(by kernel_rfl),(by omega),(by kernel_rfl),trivial,(by kernel_rfl),trivial,(by kernel_rfl)⟩ ?_;refine vrT 1<|vnil<|zBv<|vN<|zE<|zBm (5<=5) (Bw [Ay [iD<|Cs.n c,iD<|Cs.f c,Ad (Ae bD<|Cs.desc c)<|Aa<|Cs.desc c,Ad (Ae (λ(z:Int)=>iD z)<|Cs.P c)<|Aa<|Cs.P c,Ad (Aj (i*3)<|Ag 0<|AU<|atsB<|Cs.ats c i) i],bD ((Aa (Cs.V c):Int)==(Aa (Cs.R c):Int))]) (Bw [Ay [Al<|Aq Bx<|Cs.n c,Al<|Aq Bx<|Cs.f c,Ad (Ae bD<|Cs.desc c)<|Aa<|Cs.desc c,Ad (Ae (λ(z:Int)=>iD z)<|Cs.P c)<|Aa<|Cs.P c,Ad (As atC<|Cs.ats c i) i],Al<|BD ((Aa (Cs.V c):Int)==(Aa (Cs.R c):Int))]) (.inr rfl) (by simp(disch:=omega) only[A1,htk1]) rfl (hc:=by omega);refine veT<|vf<|vZ2<|zA<|zA6 [1,4,0,2,3,5,6,7] [(8,[(2,100000),(3,100000),(5,100000),(6,100000),(7,100000)],[9])] rfl ?_;refine vr 8 (a1_)<|vnil<|zBy rfl rfl<|vr 1 (aU_)<|vnil ?_;refine zEg (C:=0<2/\AA ((q39_ c))=AA (A9 [(q39_ c),(q40_ c)] Uk)/\True/\AA (iD (Aa (Cs.V c):Int))=AA (iD (Aa (Cs.V c):Int))/\0<1/\AA ((q40_ c))=AA (A9 [(q40_ c)] Uk)/\True/\AA (iD (Aa (Cs.R c):Int))=AA (iD (Aa (Cs.R c):Int))/\True/\AA (bD ((Aa (Cs.V c):Int)==(Aa (Cs.R c):Int)))=AA (bD ((Aa (Cs.V c):Int)==(Aa (Cs.R c):Int)))) ⟨(by omega),(by kernel_rfl),trivial,(by kernel_rfl),(by omega),(by kernel_rfl),trivial,(by kernel_rfl),trivial,(by kernel_rfl)⟩ ?_;refine vrT 1<|vnil<|zBv<|vN<|zE<|zBm (5<=5) (Bw [Ay [iD<|Cs.n c,iD<|Cs.f c,Ad (Ae bD<|Cs.desc c)<|Aa<|Cs.desc c,Ad (Ae (λ(z:Int)=>iD z)<|Cs.P c)<|Aa<|Cs.P c,Ad (Aj (i*3)<|Ag 0<|AU<|atsB<|Cs.ats c i) i],bD ((Aa (Cs.V c):Int)==(Aa (Cs.R c):Int))]) (Bw [Ay [Al<|Aq Bx<|Cs.n c,Al<|Aq Bx<|Cs.f c,Ad (Ae bD<|Cs.desc c)<|Aa<|Cs.desc c,Ad (Ae (λ(z:Int)=>iD z)<|Cs.P c)<|Aa<|Cs.P c,Ad (As atC<|Cs.ats c i) i],Al<|BD ((Aa (Cs.V c):Int)==(Aa (Cs.R c):Int))]) (.inr rfl) (by simp(disch:=omega) only[A1,htk1]) rfl (hc:=by omega)
 have hb:decide (i=c.V.length/\c.V.length=c.R.length)=false:=decide_eq_false (by omega);rw[hb];have hv:=hV i (by omega);have hr:=hR i (by omega);have hvn:=hVn (by omega);have hrn:=hRn (by omega);have hrm:c.R.getD i []∈c.R:=by rw[AB,Aw (by omega)];exact AR _
 obtain⟨r1,r2⟩:=h.r _ hrm;have hof:=zXh (c.V.getD i []).length (c.R.getD i []) _ rfl r1 r2;have hbad:¬rofA (c.V.getD i []).length (c.R.getD i [])=0:=h5;rw[if_neg hbad]at hof;generalize rofA (c.V.getD i []).length (c.R.getD i [])=e at*;refine zA<|vAs<|vew [] [(5,Ab)] (aI_ (decide ((i:Int)<(Aa (Cs.V c):Int))=Ab/\aW_))<|vT ((i:Int)<(Aa (Cs.R c):Int))<|vKB<|zA<|vd [0,2,6,8,1,3,4,5,7,9,10,11,12,13,14,15,16,17]<|vr 6 (True/\True/\0<2/\ix ↑i (Aa (Cs.V c):Int) (Ae zBn (Cs.V c)≠[]))<|vp 35 i (Ae zBn<|Cs.V c)<|vr 1 (0<Aa (Ag i<|Ae zBn<|Cs.V c))<|vsh 36 hv<|vr 3 (0<1/\ix ↑i (Aa (Cs.R c):Int) (Ae zCn (Cs.R c)≠[]))<|vp 41 i (Ae zCn<|Cs.R c)<|vr 1 (0<Aa (Ag i<|Ae zCn<|Cs.R c))<|vsh 42 hr<|vc hof<|ve (aM_)<|zA<|vAe<|zFv (t:=e !=(0:Int)) (by kernel_rfl) (by simpa using by omega) ?_;refine vA<|ve (a3_)<|zE<|zH<|zL<|zH<|zH<|zL<|zH<|zBm (5<=5) (Bw [Ay [iD<|Cs.n c,iD<|Cs.f c,Ad (Ae bD<|Cs.desc c)<|Aa<|Cs.desc c,Ad (Ae (λ(z:Int)=>iD z)<|Cs.P c)<|Aa<|Cs.P c,Ad (Aj (i*3)<|Ag 0<|AU<|atsB<|Cs.ats c i) i],bD Ac]) (Bw [Ay [Al<|Aq Bx<|Cs.n c,Al<|Aq Bx<|Cs.f c,Ad (Ae bD<|Cs.desc c)<|Aa<|Cs.desc c,Ad (Ae (λ(z:Int)=>iD z)<|Cs.P c)<|Aa<|Cs.P c,Ad (As atC<|Cs.ats c i) i],Al<|BD Ac]) (.inr rfl) (by simp(disch:=omega) only[A1,htk1]) rfl (hc:=by omega)
structure Cs.Few(c:Cs):Prop where
 R:c.R.length<=5
 V:c.V.length<=5
 d:c.desc.length<=10
 P:c.P.length<=10
 n:c.n<=6\/32<c.n
 r:∀l∈c.R,l.length<=10
 v:∀l∈c.V,l.length<=8
 C:(c.R.map λl=>max 1 l.length).foldl (· *·) 1<=5000
def mny(L:List (List Rw))(i:Nat):Nat:=((L.take i).map λl=>max 1 l.length).foldl (· *·) 1
theorem zX4(L:List (List Rw))(i:Nat)(h:i<L.length):mny L (i+1)=mny L i*max 1 (L.getD i []).length:=by
 grind [mny,A7,Aw]
theorem few_c(c:Cs)(h:c.Small):∃b:Bool,(b=Ab->c.Few)/\Pure Ai 13 [.agg (csC c)] [] (bD b):=by
 have hV:∀i,i<c.V.length->((c.V.map zBn).drop i).headD .unk=zBn (c.V.getD i []):=λi hi=>zAq zBn c.V [] i hi;have hR:∀i,i<c.R.length->((c.R.map zCn).drop i).headD .unk=zCn (c.R.getD i []):=λi hi=>zAq zCn c.R [] i hi;have hVn:0<c.V.length->c.V.map zBn≠[]:=λh=>zAc (h:=h);have hRn:0<c.R.length->c.R.map zCn≠[]:=λh=>zAc (h:=h);have hlV:=h.V;have hlR:=h.R;have hld:=h.d;obtain⟨m1,m2,hm1,hg1,hm2,hg2,hend⟩:∃m1 m2,m1<=min c.R.length 6/\(∀j,j<m1->(c.R.getD j []).length<=10)/\m2<=min c.V.length 6/\(∀j,j<m2->(c.V.getD j []).length<=8)/\((m1<min c.R.length 6/\10<(c.R.getD m1 []).length)\/(m1=min c.R.length 6/\(m2<min c.V.length 6/\8<(c.V.getD m2 []).length\/m2=min c.V.length 6))):=by
  by_cases h1:∃p,p<min c.R.length 6/\decide (10<(c.R.getD p []).length)=Ab
  ·obtain⟨p,hp,hpb,hmin⟩:=zDf (p:=λi=>decide (10<(c.R.getD i []).length)) h1;refine⟨p,0,by omega,λj hj=>?_,Bv _,λj hj=>by omega, .inl ⟨hp,by simpa using hpb⟩⟩;grind
  have hall:∀j,j<min c.R.length 6->(c.R.getD j []).length<=10:=λj hj=>Cu λhh=>h1 ⟨j,hj,decide_eq_true (by omega)⟩;by_cases h2:∃p,p<min c.V.length 6/\decide (8<(c.V.getD p []).length)=Ab
  ·obtain⟨p,hp,hpb,hmin⟩:=zDf (p:=λi=>decide (8<(c.V.getD i []).length)) h2;refine⟨_,p,AE _,hall,by omega,λj hj=>?_, .inr ⟨rfl, .inl ⟨hp,by simpa using hpb⟩⟩⟩;grind
  exact⟨_,_,AE _,hall,AE _,λj hj=>Cu λhh=>h2 ⟨j,hj,decide_eq_true (by omega)⟩, .inr ⟨rfl, .inr rfl⟩⟩
 have hmb:∀i,i<=m1->mny c.R i<=10^i:=λi=>by
  induction i with
  |zero=>intro _;exact AE _
  |succ i ih=>
   intro hi;rw[zX4 c.R i (by omega),Cb];exact Cp (ih (by omega)) (by have:=hg1 i (by omega);omega)
 have hm6:∀i,i<=m1->mny c.R i<=1000000:=λi hi=>AG (hmb i hi) (show 10^i<=10^6 from AZ (by omega) (by omega));have hone:mny c.R 0=1:=rfl;refine⟨decide (m1=min c.R.length 6/\mny c.R m1<=5000/\m2=min c.V.length 6/\c.R.length<=5/\c.V.length<=5/\c.desc.length<=10/\c.P.length<=10/\(c.n<=6\/32<c.n)),λhb=>?_,?_⟩
 ·obtain⟨b1,b2,b3,b4,b5,b6,b7,b8⟩:=of_decide_eq_true hb;refine⟨b4,b5,b6,b7,b8,λl hl=>?_,λl hl=>?_,?_⟩;all_goals grind [Bj,Aw,mny,A8]
 refine zF zAx mixed Tryz.func13 rfl<|vAu<|vAe<|zA<|vAe<|zJ<|zK (λ(i:Nat)=>fr 85 [(1,Ar 0 0),(3,iD (↑(mny (Cs.R c) i):Int)),(4,iD (i:Int))]) (λ(i:Nat)=>[csB c]) (λ(i:Nat)=>m1-i) (λ(i:Nat)=>i<=m1) 0 ?_ ?_ ?_
 ·omega
 ·rw[hone];refine vk 1
 intro i h1;rcases AC i m1 with h2|h2
 ·have hr:=hR i (by omega);have hrn:=hRn (by omega);have hg:=hg1 i h2;have hsu:=zX4 c.R i (by omega);have hmi2:=hm6 (i+1) (by omega);generalize c.R.getD i []=l at*;have hmx:(if((l.length:Nat):Int)>1 then((l.length:Nat):Int)else 1)=((max 1 l.length:Nat):Int):=by
   split<;>omega
  rw[hsu]at hmi2;refine zA<|vAs<|vew [] [(5,Ab)] (aP_ (decide ((i:Int)<(Aa (Cs.R c):Int))=Ab))<|vT ((i:Int)<(6:Int))<|vKB<|zA<|vA<|vr 4 (aP_ (ix ↑i (Aa (Cs.R c):Int) (Ae zCn (Cs.R c)≠[])))<|vp 20 i (Ae zCn<|Cs.R c)<|vr 1 (0<Aa (Ag i<|Ae zCn<|Cs.R c))<|vsh 21 hr<|veT<|vF ((Aa l:Int)>(10:Int))<|vK<|zB rfl<|vr 5 (aP_ (ix ↑i (Aa (Cs.R c):Int) (Ae zCn (Cs.R c)≠[])))<|vp 28 i (Ae zCn<|Cs.R c)<|vr 1 (0<Aa (Ag i<|Ae zCn<|Cs.R c))<|vsh 29 hr<|vrT 2<|vs 31 (iD (if(Aa l:Int)>(1:Int)then(Aa l:Int)else(1:Int))) (iD (↑(max 1<|Aa l):Int))<|vr 2 (i6 ((↑(mny (Cs.R c) i):Int)*(↑(max 1<|Aa l):Int)))<|vnil<|zD<|vN<|zB rfl<|vr 3 (i6 (↑i+1))<|vnil<|zC<|⟨i+1,by omega,by omega,?_⟩;rw[hsu,Int.natCast_mul];refine vk 1
 obtain rfl:i=m1:=by omega
 rcases hend with⟨h3,h4⟩|⟨h3,h4⟩
 ·rw[decide_eq_false (by omega)];have hr:=hR i (by omega);have hrn:=hRn (by omega);generalize c.R.getD i []=l at*;refine zA<|vAs<|vew [] [(5,Ab)] (aP_ (decide ((i:Int)<(Aa (Cs.R c):Int))=Ab))<|vT ((i:Int)<(6:Int))<|vKB<|zA<|vA<|vr 4 (aP_ (ix ↑i (Aa (Cs.R c):Int) (Ae zCn (Cs.R c)≠[])))<|vp 20 i (Ae zCn<|Cs.R c)<|vr 1 (0<Aa (Ag i<|Ae zCn<|Cs.R c))<|vsh 21 hr<|veT<|vT ((Aa l:Int)>(10:Int))<|vAe<|zE<|zH<|zL<|zH<|zH<|zL<|zH<|vret (True)<|.inr rfl
 have hmi:=hm6 i (AE _);generalize hmn:mny c.R i=mn at*;by_cases hm5:mn<=5000
 ·by_cases hcR:i<c.R.length
  ·refine zA<|vAs<|vew [] [(5,Ab)] (aP_ (decide ((i:Int)<(Aa (Cs.R c):Int))=Ab))<|vF ((i:Int)<(6:Int))<|vZ2<|zA<|vAe<|vF ((mn:Int)>(5000:Int))<|vK<|zA<|vAe<|zJ<|zK (λ(j:Nat)=>fr 85 [(1,Ar 0 0),(5,iD (j:Int))]) (λ(j:Nat)=>[csB c]) (λ(j:Nat)=>m2-j) (λ(j:Nat)=>j<=m2) 0 ?_ ?_ ?_
   ·omega
   ·refine vk 1
   intro j h5;rcases AC j m2 with h6|h6
   ·have hv:=hV j (by omega);have hvn:=hVn (by omega);have hg:=hg2 j h6;generalize c.V.getD j []=l at*;refine zA<|vAs<|vew [] [(5,Ab)] (aI_ (decide ((j:Int)<(Aa (Cs.V c):Int))=Ab))<|vT ((j:Int)<(6:Int))<|vKB<|vA<|vr 4 (aI_ (ix ↑j (Aa (Cs.V c):Int) (Ae zBn (Cs.V c)≠[])))<|vp 49 j (Ae zBn<|Cs.V c)<|vr 1 (0<Aa (Ag j<|Ae zBn<|Cs.V c))<|vsh 50 hv<|veT<|vF ((Aa l:Int)>(8:Int))<|zT<|zD<|vN<|zB rfl<|vr 3 (i6 (↑j+1))<|vnil<|zC<|⟨j+1,by omega,by omega,?_⟩;refine vk 1
   obtain rfl:j=m2:=by omega
   rcases h4 with⟨h7,h8⟩|h7
   ·rw[decide_eq_false (by omega)];have hv:=hV j (by omega);have hvn:=hVn (by omega);generalize c.V.getD j []=l at*;refine zA<|vAs<|vew [] [(5,Ab)] (aI_ (decide ((j:Int)<(Aa (Cs.V c):Int))=Ab))<|vT ((j:Int)<(6:Int))<|vKB<|vA<|vr 4 (aI_ (ix ↑j (Aa (Cs.V c):Int) (Ae zBn (Cs.V c)≠[])))<|vp 49 j (Ae zBn<|Cs.V c)<|vr 1 (0<Aa (Ag j<|Ae zBn<|Cs.V c))<|vsh 50 hv<|veT<|vT ((Aa l:Int)>(8:Int))<|vAe<|zE<|zL<|zH<|zH<|zL<|zH<|vret (True)<|.inr rfl
   rw[decide_eq_false (by omega)];by_cases hjV:j<c.V.length
   ·focus
     refine zA<|vAs<|vew [] [(5,Ab)] (aI_ (decide ((j:Int)<(Aa (Cs.V c):Int))=Ab))<|vF ((j:Int)<(6:Int))<|vZ2<|vA<|vr 4 (aY_)<|vspD 56 (Cs.n c<=(6:Int)) (λhc=>?_)<|λhc=>?_;refine vew [] [(14,Ac)] (aI_ (decide ((Aa (Cs.V c):Int)<=(5:Int))=Ac))<|zE<|vret (True)<|.inr rfl;refine vr 5 (aY_)<|vspD 61 (Cs.n c>(32:Int)) (λhc=>?_)<|λhc=>?_;refine vew [] [(14,Ac)] (aI_ (decide ((Aa (Cs.V c):Int)<=(5:Int))=Ac))<|zE<|vret (True)<|.inr rfl;refine veT<|zE<|vret (True)<|.inr rfl
   focus
    refine zA<|vAs<|vew [] [(5,Ac)] (aI_ (decide ((j:Int)<(Aa (Cs.V c):Int))=Ac))<|vf<|vZ2<|vA<|vr 4 (aY_)<|vspD 56 (Cs.n c<=(6:Int)) (λhc=>?_)<|λhc=>?_;refine vr 11 (aO_)<|vspD 67 ((Aa (Cs.V c):Int)<=(5:Int)) (λhc=>?_)<|λhc=>?_;refine vew [] [(20,Ac)] (aP_ (decide ((Aa (Cs.R c):Int)<=(5:Int))=Ac))<|zE<|vret (True)<|.inr rfl;refine veT<|zE<|vret (True)<|.inr rfl;refine vr 5 (aY_)<|vspD 61 (Cs.n c>(32:Int)) (λhc=>?_)<|λhc=>?_;refine vr 6 (aO_)<|vspD 67 ((Aa (Cs.V c):Int)<=(5:Int)) (λhc=>?_)<|λhc=>?_;refine vew [] [(20,Ac)] (aP_ (decide ((Aa (Cs.R c):Int)<=(5:Int))=Ac))<|zE<|vret (True)<|.inr rfl;refine veT<|zE<|vret (True)<|.inr rfl;refine veT<|zE<|vret (True)<|.inr rfl
  refine zA<|vAs<|vew [] [(5,Ac)] (aP_ (decide ((i:Int)<(Aa (Cs.R c):Int))=Ac))<|vf<|vZ2<|zA<|vAe<|vF ((mn:Int)>(5000:Int))<|vK<|zA<|vAe<|zJ<|zK (λ(j:Nat)=>fr 85 [(1,Ar 0 0),(5,iD (j:Int))]) (λ(j:Nat)=>[csB c]) (λ(j:Nat)=>m2-j) (λ(j:Nat)=>j<=m2) 0 ?_ ?_ ?_
  ·omega
  ·refine vk 1
  intro j h5;rcases AC j m2 with h6|h6
  ·have hv:=hV j (by omega);have hvn:=hVn (by omega);have hg:=hg2 j h6;generalize c.V.getD j []=l at*;refine zA<|vAs<|vew [] [(5,Ab)] (aI_ (decide ((j:Int)<(Aa (Cs.V c):Int))=Ab))<|vT ((j:Int)<(6:Int))<|vKB<|vA<|vr 4 (aI_ (ix ↑j (Aa (Cs.V c):Int) (Ae zBn (Cs.V c)≠[])))<|vp 49 j (Ae zBn<|Cs.V c)<|vr 1 (0<Aa (Ag j<|Ae zBn<|Cs.V c))<|vsh 50 hv<|veT<|vF ((Aa l:Int)>(8:Int))<|zT<|zD<|vN<|zB rfl<|vr 3 (i6 (↑j+1))<|vnil<|zC<|⟨j+1,by omega,by omega,?_⟩;refine vk 1
  obtain rfl:j=m2:=by omega
  rcases h4 with⟨h7,h8⟩|h7
  ·rw[decide_eq_false (by omega)];have hv:=hV j (by omega);have hvn:=hVn (by omega);generalize c.V.getD j []=l at*;refine zA<|vAs<|vew [] [(5,Ab)] (aI_ (decide ((j:Int)<(Aa (Cs.V c):Int))=Ab))<|vT ((j:Int)<(6:Int))<|vKB<|vA<|vr 4 (aI_ (ix ↑j (Aa (Cs.V c):Int) (Ae zBn (Cs.V c)≠[])))<|vp 49 j (Ae zBn<|Cs.V c)<|vr 1 (0<Aa (Ag j<|Ae zBn<|Cs.V c))<|vsh 50 hv<|veT<|vT ((Aa l:Int)>(8:Int))<|vAe<|zE<|zL<|zH<|zH<|zL<|zH<|vret (True)<|.inr rfl
  by_cases hjV:j<c.V.length
  ·rw[decide_eq_false (by omega)];focus
    refine zA<|vAs<|vew [] [(5,Ab)] (aI_ (decide ((j:Int)<(Aa (Cs.V c):Int))=Ab))<|vF ((j:Int)<(6:Int))<|vZ2<|vA<|vr 4 (aY_)<|vspD 56 (Cs.n c<=(6:Int)) (λhc=>?_)<|λhc=>?_;refine vew [] [(14,Ac)] (aI_ (decide ((Aa (Cs.V c):Int)<=(5:Int))=Ac))<|zE<|vret (True)<|.inr rfl;refine vr 5 (aY_)<|vspD 61 (Cs.n c>(32:Int)) (λhc=>?_)<|λhc=>?_;refine vew [] [(14,Ac)] (aI_ (decide ((Aa (Cs.V c):Int)<=(5:Int))=Ac))<|zE<|vret (True)<|.inr rfl;refine veT<|zE<|vret (True)<|.inr rfl
  by_cases hfin:c.R.length<=5/\c.V.length<=5/\c.desc.length<=10/\c.P.length<=10/\(c.n<=6\/32<c.n)
  ·rw[decide_eq_true ⟨h3,hm5,h7,hfin⟩];obtain⟨f1,f2,f3,f4,f5⟩:=hfin;focus
    refine zA<|vAs<|vew [] [(5,Ac)] (aI_ (decide ((j:Int)<(Aa (Cs.V c):Int))=Ac))<|vf<|vZ2<|vA<|vr 4 (aY_)<|vspD 56 (Cs.n c<=(6:Int)) (λhc=>?_)<|λhc=>?_;refine vew [] [(14,Ab),(20,Ab),(26,Ab)] (aI_ (decide ((Aa (Cs.V c):Int)<=(5:Int))=Ab/\True/\0<1/\decide ((Aa (Cs.R c):Int)<=(5:Int))=Ab/\True/\0<4/\decide ((Aa (Cs.desc c):Int)<=(10:Int))=Ab/\a5_))<|zE<|vre (True) (Al<|BD<|decide ((Aa (Cs.P c):Int)<=(10:Int))) (.inr rfl) ?_;rotate_left;refine vew [] [(8,Ab),(14,Ab),(20,Ab),(26,Ab)] (True/\0<6/\decide (Cs.n c>(32:Int))=Ab/\True/\0<2/\decide ((Aa (Cs.V c):Int)<=(5:Int))=Ab/\True/\0<1/\decide ((Aa (Cs.R c):Int)<=(5:Int))=Ab/\True/\0<4/\decide ((Aa (Cs.desc c):Int)<=(10:Int))=Ab/\a5_)<|zE<|vre (True) (Al<|BD<|decide ((Aa (Cs.P c):Int)<=(10:Int))) (.inr rfl) ?_;rotate_left
   all_goals grind
  rw[decide_eq_false λhh=>hfin hh.2.2.2];focus
   refine zA<|vAs<|vew [] [(5,Ac)] (aI_ (decide ((j:Int)<(Aa (Cs.V c):Int))=Ac))<|vf<|vZ2<|vA<|vr 4 (aY_)<|vspD 56 (Cs.n c<=(6:Int)) (λhc=>?_)<|λhc=>?_;refine vr 11 (aO_)<|vspD 67 ((Aa (Cs.V c):Int)<=(5:Int)) (λhc=>?_)<|λhc=>?_;refine vr 6 (aW_)<|vspD 73 ((Aa (Cs.R c):Int)<=(5:Int)) (λhc=>?_)<|λhc=>?_;refine vr 6 (True/\0<4)<|vspD 79 ((Aa (Cs.desc c):Int)<=(10:Int)) (λhc=>?_)<|λhc=>?_;refine ve (a5_)<|zE<|vre (True) (Al<|BD<|decide ((Aa (Cs.P c):Int)<=(10:Int))) (.inr rfl) ?_;rotate_left;refine veT<|zE<|vret (True)<|.inr rfl;refine veT<|zE<|vret (True)<|.inr rfl;refine veT<|zE<|vret (True)<|.inr rfl;refine vr 5 (aY_)<|vspD 61 (Cs.n c>(32:Int)) (λhc=>?_)<|λhc=>?_;refine vr 6 (aO_)<|vspD 67 ((Aa (Cs.V c):Int)<=(5:Int)) (λhc=>?_)<|λhc=>?_;refine vr 6 (aW_)<|vspD 73 ((Aa (Cs.R c):Int)<=(5:Int)) (λhc=>?_)<|λhc=>?_;refine vr 6 (True/\0<4)<|vspD 79 ((Aa (Cs.desc c):Int)<=(10:Int)) (λhc=>?_)<|λhc=>?_;refine ve (a5_)<|zE<|vre (True) (Al<|BD<|decide ((Aa (Cs.P c):Int)<=(10:Int))) (.inr rfl) ?_;rotate_left;refine veT<|zE<|vret (True)<|.inr rfl;refine veT<|zE<|vret (True)<|.inr rfl;refine veT<|zE<|vret (True)<|.inr rfl;refine veT<|zE<|vret (True)<|.inr rfl
  all_goals grind
 rw[decide_eq_false (by omega)];focus
  refine zA<|vAs<|vr 6 (aW_)<|vspD 11 ((i:Int)<(Aa (Cs.R c):Int)) (λhc=>?_)<|λhc=>?_;refine veT<|vF ((i:Int)<(6:Int))<|vZ2<|zA<|vAe<|vT ((mn:Int)>(5000:Int))<|vAe<|zE<|zH<|vret (True)<|.inr rfl;refine veT<|vf<|vZ2<|zA<|vAe<|vT ((mn:Int)>(5000:Int))<|vAe<|zE<|zH<|vret (True)<|.inr rfl
end
def Vt(v:Va):Prop:=Vb 2000000 v
def Cs.Typ(c:Cs):Prop:=∀l∈c.R,∀x∈l,∀v∈x,Vt v
theorem Vt.vs{v:Va}(h:Vt v)(hv:vok v=Ab):Vs v:=by
 refine⟨h.1,h.2.1,?_⟩;unfold vok at hv;grind
def Cs.inp(c:Cs):Inp:=⟨c.n.toNat,c.f.toNat,c.desc,c.P.map Ap,(Ak c.V.length).map λi=>((c.V.getD i []).map Ap,relR (c.R.getD i []))⟩
theorem atE_0{n:Int}{a:At}(h:atE n a=0):ascB a.V=Ab/\a.V.all (inB n)=Ab/\(a.V.length:Int)=a.ar:=by
 grind [atE]
theorem atL_all{n:Int}:∀{L:List At},atL n L=0->∀a∈L,atE n a=0
 |[],_,a,h=>by cases h
 | b::L,h,a,ha=>by
  rw[atL]at h;split at h
  ·grind
  rename_i h1;rcases A_.1 ha with rfl|ha
  ·grind
  exact atL_all h a ha
theorem asc_of{l:List Int}(h:ascB l=Ab):l.Pairwise (· <·):=by
 have key:∀l:List Int,(∀i,0<i->i<l.length->l.getD (i-1) 0<l.getD i 0)->l.Pairwise (· <·):=by
  intro l;induction l with
  |nil=>exact λ_=>Cv.nil
  | cons a l ih=>
   intro h;have h1:l.Pairwise (· <·):=ih λi h0 hi=>by
    have:=h (i+1) (by omega) (by simpa using hi)
    grind
   refine BP.2 ⟨λb hb=>?_,h1⟩;cases l with
   |nil=>cases hb
   |cons d l=>
    have h2:a<d:=by simpa using h 1 (by omega) (by simp)
    grind [BP]
 refine key l λi h0 hi=>?_;have h1:=Bi.1 h i (AQ.2 hi);unfold zWq at h1;grind
theorem zZj{ar:Int}:∀{L:List Rw},accL ar L=0->∀x∈L,(x.length:Int)=ar/\x.all vok=Ab
 |[],_,a,h=>by cases h
 | b::L,h,a,ha=>by
  rw[accL]at h;split at h
  ·grind
  rename_i h1;rcases A_.1 ha with rfl|ha
  ·grind [accE]
  exact zZj h a ha
theorem foldl_r:∀(l:List Nat)(a:Nat),l.foldl (· *·) a=a*l.foldr (· *·) 1
 |[],a=>by simp
 |b::l,a=>by rw[BT,foldl_r l (a*b),BW,Cc]
section
variable{c:Cs}(hl:c.V.length = c.R.length)(he:∀ i, i < c.V.length->c.err i = 0)(hc:icE c.n c.f c.desc.length c.P (c.ats c.V.length) = 0)
include hc
theorem Cs.ic:0<=c.n/\c.n<=32/\0<=c.f/\c.f<=c.n/\(c.desc.length:Int)=c.f/\(c.P.length:Int)=c.n-c.f/\pany c.f c.n c.P=Ac/\lfE c.n (c.ats c.V.length)=0:=by
 unfold icE at hc;split at hc;all_goals grind
theorem Cs.lf:c.V.length<=32/\atL c.n (c.ats c.V.length)=0/\(useP c.n.toNat (c.ats c.V.length) []).contains Ac=false:=by
 obtain⟨_,_,_,_,_,_,_,h⟩:=Cs.ic hc;unfold lfE at h;rw[Cs.ats_len]at h;grind
theorem Cs.perm:(∀z∈c.P,c.f<=z/\z<c.n)/\c.P.Nodup:=by
 obtain⟨_,_,_,_,_,_,h,_⟩:=Cs.ic hc;unfold pany at h;have hp:∀i,i<c.P.length->¬c.P.getD i 0<c.f/\¬c.n<=c.P.getD i 0/\c.P.getD i 0∉c.P.take i:=λi hi=>by
  simp_all [List.any_eq_false,AQ,pbad,only,Ca]
 grind [Bj,Aw,BH,Ce,CU]
theorem Cs.vars(hi:i<c.V.length):(c.V.getD i []).Pairwise (· <·)/\∀z∈c.V.getD i [],0<=z/\z<c.n:=by
 obtain⟨_,h1,_⟩:=Cs.lf hc;have h2:=atE_0 (atL_all h1 (c.at i) (AJ.2 ⟨i,AQ.2 hi,rfl⟩));refine⟨asc_of h2.1,λz hz=>?_⟩
 have:=Bi.1 h2.2.1 z hz
 grind [inB]
include hl he in
theorem Cs.inp_ok(hf:c.Few)(ht:c.Typ):c.inp.Ok:=by
 obtain⟨i1,i2,i3,i4,i5,i6,i7,i8⟩:=Cs.ic hc;obtain⟨l1,l2,l3⟩:=Cs.lf hc;obtain⟨p1,p2⟩:=Cs.perm hc;have hn6:c.n<=6:=by rcases hf.n with h|h<;>omega
 have hAl:c.inp.A.length=c.V.length:=by simp[Cs.inp]
 have hAt:∀i,i<c.V.length->c.inp.A.getD i Af=((c.V.getD i []).map Ap,relR (c.R.getD i [])):=λi hi=>by
  grind [Cs.inp,BS]
 have hrow:∀i,i<c.V.length->(c.R.getD i []).length<=10/\∀x∈c.R.getD i [],x.length=(c.V.getD i []).length/\∀v∈x,vok v=Ab/\Vs v:=λi hi=>by
  have hm:c.R.getD i []∈c.R:=by rw[AB,Aw (by omega)];exact AR _
  refine⟨hf.r _ hm,λx hx=>?_⟩;have h1:=he i hi;unfold Cs.err rofA at h1;split at h1
  ·omega
  unfold rofE at h1;split at h1
  ·grind
  rename_i h2;have h3:accL ((c.V.getD i []).length:Nat) (c.R.getD i [])=0:=Cu h2;obtain⟨q1,q2⟩:=zZj h3 x hx;refine⟨by omega,λv hv=>?_⟩;have h4:=Bi.1 q2 v hv;exact⟨h4,(ht _ hm x hx v hv).vs h4⟩
 refine⟨?_,?_,?_,?_,λv hv=>?_,?_,by rw[hAl];exact hf.V,?_,λa ha=>?_,?_⟩
 ·show c.n.toNat<=6;omega
 ·show c.f.toNat<=c.n.toNat;omega
 ·show c.desc.length=c.f.toNat;omega
 ·show(c.P.map Ap).length+c.f.toNat=c.n.toNat;rw[AN];omega
 ·obtain⟨z,hz,rfl⟩:=AJ.1 hv
  have:=p1 z hz
  show c.f.toNat<=z.toNat/\z.toNat<c.n.toNat;omega
 ·show(c.P.map Ap).Nodup;rw[BH,BK];exact p2.imp_of_mem λ{x y} hx hy hne e=>by
   grind
 ·rw[hAl];refine⟨λi hi=>?_,λi hi w hw=>?_,λv hv=>?_⟩
  ·rw[hAt i hi];obtain⟨q1,q2⟩:=Cs.vars hc hi;exact BK.2 (q1.imp_of_mem λ{x y} hx hy h=>by have:=q2 x hx;have:=q2 y hy;omega)
  ·rw[hAt i hi]at hw;obtain⟨z,hz,rfl⟩:=AJ.1 hw
   have:=(Cs.vars hc hi).2 z hz
   show z.toNat<c.n.toNat;omega
  have hv:v<c.n.toNat:=hv;have h1:(useP c.n.toNat (c.ats c.V.length) []).getD v Ab=true:=by
   grind
  unfold useP at h1;rw[AB,CD,BS hv,Option.map_some,B_]at h1;simp only[CF,decide_false,Bool.or_false,BV,decide_eq_true_eq]at h1;obtain⟨a,ha,hm⟩:=h1;obtain⟨i,hi,rfl⟩:=AJ.1 ha;have hi:=AQ.1 hi;refine⟨i,hi,?_⟩;rw[hAt i hi];exact AJ.2 ⟨(v:Int),hm,by omega⟩
 ·obtain⟨i,hi,rfl⟩:=AJ.1 ha;grind [AG,zHv,zXe,mem_relR]
 have h1:=hf.C;rw[foldl_r,Cd]at h1;refine AG ?_ h1;have e:c.R=(Ak c.V.length).map λi=>c.R.getD i []:=by
  apply BX (by simp[hl]);grind
 unfold combs Cs.inp;rw[e,A4,A4];refine zVb _ _ _ λi hi=>?_;grind [Ak,relR,zHv]
theorem Cs.inp_n:(c.inp.n:Int)=c.n/\(c.inp.f:Int)=c.f:=by
 obtain⟨i1,i2,i3,_⟩:=Cs.ic hc;exact⟨by show((c.n.toNat:Nat):Int)=c.n;omega,by show((c.f.toNat:Nat):Int)=c.f;omega⟩
theorem Cs.inp_P:nsD c.inp.P=c.P.map λz=>iD z:=by
 obtain⟨p1,_⟩:=Cs.perm hc;obtain⟨_,_,i3,_⟩:=Cs.ic hc;show(c.P.map Ap).map (λv:Nat=>iD (v:Int))=_;rw[A4];exact AW λz hz=>by have:=p1 z hz;show iD ((z.toNat:Nat):Int)=iD z;rw[show((z.toNat:Nat):Int)=z by omega]
theorem Cs.inp_V:(c.inp.A.map (·.1)).map (λV=>Ad (nsD V) V.length)=c.V.map zBn:=by
 have e:c.V=(Ak c.V.length).map λi=>c.V.getD i []:=by
  apply BX (by simp);grind
 conv=>rhs;rw[e]
 unfold Cs.inp;rw[A4,A4,A4];refine AW λi hi=>?_;have hi:=AQ.1 hi;show Ad (((c.V.getD i []).map Ap).map λv:Nat=>iD (v:Int)) ((c.V.getD i []).map Ap).length=zBn (c.V.getD i []);rw[A4,AN];congr 1;exact AW λz hz=>by have:=(Cs.vars hc hi).2 z hz;show iD ((z.toNat:Nat):Int)=iD z;rw[show((z.toNat:Nat):Int)=z by omega]
theorem Cs.inp_A:c.inp.A.flatMap atR=(c.ats c.V.length).flatMap atC:=by
 unfold Cs.inp Cs.ats;rw[B3,B3,Ck,Ck];refine congrArg List.flatten (AW λi hi=>?_);have hi:=AQ.1 hi;show[Ad (((c.V.getD i []).map Ap).map λv:Nat=>iD (v:Int)) ((c.V.getD i []).map Ap).length,iD (((c.V.getD i []).map Ap).length:Nat),_]=[Ad ((c.V.getD i []).map λz=>iD z) (c.V.getD i []).length,iD ((c.V.getD i []).length:Nat),_];rw[A4,AN];congr 2;exact AW λz hz=>by have:=(Cs.vars hc hi).2 z hz;show iD ((z.toNat:Nat):Int)=iD z;rw[show((z.toNat:Nat):Int)=z by omega]
theorem Cs.inp_D:inpN c.inp.b=inpD c.n c.f c.desc c.P (c.ats c.V.length):=by
 obtain⟨h1,h2⟩:=Cs.inp_n hc;show Ay [iD (c.inp.n:Nat),iD (c.inp.f:Nat), .row (c.desc.map bD) c.desc.length, .row (nsD c.inp.P) c.inp.P.length, .row (c.inp.A.flatMap atR) c.inp.A.length]=_;rw[h1,h2,Cs.inp_P hc,Cs.inp_A hc];have e1:c.inp.P.length=c.P.length:=by simp[Cs.inp]
 have e2:c.inp.A.length=(c.ats c.V.length).length:=by rw[Cs.ats_len];simp[Cs.inp]
 rw[e1,e2]
end
section
set_option maxRecDepth 100000
section
variable{B:Nat}
theorem zYl{P:Program}{t e:TypeId}(hu:P.underlying t=AA (.slice e))(he:P.underlying e=AA (.int .i64)){ds:List D}(h:ShpB P B n t ds):∃l:List Int,ds=[zBn l]/\l.length<=B:=by
 obtain⟨m,ls,rfl,h1,hB⟩:=zEm hu h;obtain⟨bs,h2,h3,h4⟩:=zEu (g:=λz:Int=>iD z) (Q:=λx=>True) λx hx=>by
  obtain⟨z,rfl,h5⟩:=zLu he (h1 x hx);exact⟨z,rfl,trivial⟩
 grind
theorem in_vaB{ds:List D}(hB:B<=2000000)(h:ShpB Ai B n 64 ds):∃a:Va,ds=vaC a/\Vt a:=by
 obtain⟨hl,m,hf⟩:=zNv Tryz.underlying64 h;rw[show Ai.cellsOf 64=3 by kernel_rfl]at hl;match ds,hl with
 |[a,b,c],_=>
  have c3:Ai.cellsOf 3=1:=by kernel_rfl
  have c4:Ai.cellsOf 2=1:=by kernel_rfl
  have c5:Ai.cellsOf 9=1:=by kernel_rfl
  simp only[A_,CF,or_false,forall_eq_or_imp,forall_eq,c3,c4,c5,A1,List.drop_succ_cons,CG,List.take_zero]at hf;obtain⟨g0,g1,g2⟩:=hf;obtain⟨x2,e2,k2⟩:=zLu Tryz.underlying3 g0;obtain⟨x3,e3,k3⟩:=zLu Tryz.underlying2 g1;obtain⟨x4,e4,k4⟩:=zZt Tryz.underlying9 g2;simp only[BB.injEq,and_true]at e2 e3 e4;subst e2 e3 e4;simp only[inK]at k2 k3;exact⟨⟨x2,x3,x4.data.toList⟩,rfl,⟨k2.1,k2.2⟩,⟨k3.1,k3.2⟩,AG k4 hB⟩
theorem in_rowB{ds:List D}(hB2:B<=2000000)(h:ShpB Ai B n 54 ds):∃x:Rw,ds=[rowV x]/\x.length<=B/\∀a∈x,Vt a:=by
 obtain⟨m,ls,rfl,h1,hB⟩:=zEm Tryz.underlying54 h;obtain⟨bs,h2,h3,h4⟩:=zSl (g:=vaC) (Q:=Vt) λx hx=>in_vaB hB2 (h1 x hx);exact⟨bs,by rw[h2,<-h3];rfl,by omega,h4⟩
theorem in_rowsB{ds:List D}(hB2:B<=2000000)(h:ShpB Ai B n 65 ds):∃l:List Rw,ds=[zCn l]/\l.length<=B/\∀x∈l,x.length<=B/\∀a∈x,Vt a:=by
 obtain⟨m,ls,rfl,h1,hB⟩:=zEm Tryz.underlying65 h;obtain⟨bs,h2,h3,h4⟩:=zEu (g:=rowV) (Q:=λx=>x.length<=B/\∀a∈x,Vt a) λx hx=>in_rowB hB2 (h1 x hx);grind
theorem arg_case{d:D}(hB:B<=2000000)(h:ArgB Ai B 27 d):∃c:Cs,d= .agg (csC c)/\c.Small/\c.Typ:=by
 obtain⟨n,ds,rfl,h'⟩:=h.agg (by kernel_rfl);clear h;obtain⟨hl,m,hf⟩:=zNv Tryz.underlying27 h';rw[show Ai.cellsOf 27=6 by kernel_rfl]at hl;match ds,hl with
 | [a,b,c,d,e,f],_=>
  have c3:Ai.cellsOf 3=1:=by kernel_rfl
  have c4:Ai.cellsOf 22=1:=by kernel_rfl
  have c5:Ai.cellsOf 23=1:=by kernel_rfl
  have c6:Ai.cellsOf 24=1:=by kernel_rfl
  have c7:Ai.cellsOf 25=1:=by kernel_rfl
  simp only[A_,CF,or_false,forall_eq_or_imp,forall_eq,c3,c4,c5,c6,c7,A1,List.drop_succ_cons,CG,List.take_zero]at hf;obtain⟨g0,g1,g2,g3,g4,g5⟩:=hf;obtain⟨z0,e0,_⟩:=zLu Tryz.underlying3 g0;obtain⟨z1,e1,_⟩:=zLu Tryz.underlying3 g1;obtain⟨_,l2,e2,k2,b2⟩:=zEm Tryz.underlying22 g2;obtain⟨desc,q2,r2,_⟩:=zEu (g:=bD) (Q:=λ_=>True) λx hx=>by
   obtain⟨b,rfl⟩:=shp_bool Tryz.underlying4 (k2 x hx);exact⟨b,rfl,trivial⟩
  obtain⟨P,e3,b3⟩:=zYl Tryz.underlying23 Tryz.underlying3 g3;obtain⟨_,l4,e4,k4,b4⟩:=zEm Tryz.underlying24 g4;obtain⟨V,q4,r4,s4⟩:=zEu (g:=zBn) (Q:=λl=>l.length<=B) λx hx=>zYl Tryz.underlying23 Tryz.underlying3 (k4 x hx);obtain⟨_,l5,e5,k5,b5⟩:=zEm Tryz.underlying25 g5;obtain⟨R,q5,r5,s5⟩:=zEu (g:=zCn) (Q:=λl=>l.length<=B/\∀x∈l,x.length<=B/\∀a∈x,Vt a) λx hx=>in_rowsB hB (k5 x hx);simp only[BB.injEq,and_true]at e0 e1 e2 e3 e4 e5;subst e0 e1 e2 e3 e4 e5;refine⟨⟨z0,z1,desc,P,V,R⟩,?_,⟨?_,?_,?_,?_,?_,?_⟩,λl hl x hx=>((s5 l hl).2 x hx).2⟩;all_goals grind
end
end
variable{m:Nat}
section
attribute [local irreducible] seqW awp zAd zAi zY Weak updS zAr retL Pure Acts rP setP setQ cP nP fr
set_option maxRecDepth 4096
theorem lfAll_c(n:Int)(ats:List At)(h0:0<=n)(hn:n<=32)(hl:∀a∈ats,a.V.length<=2000000):Pure Ai 14 [iD n, .row (ats.flatMap atC) ats.length] [] (iD (lfE n ats)):=by
 obtain⟨k,rfl⟩:∃k:Nat,n=(k:Int):=⟨n.toNat,by omega⟩;grind [lfE,ats,lfMany_c,AX,zSm]
theorem Cs.ats_v{c:Cs}(h:c.Small)(hm:m<=c.V.length):∀a∈c.ats m,a.V.length<=2000000:=λa ha=>by
 obtain⟨i,hi,rfl⟩:=AJ.1 ha;have hi:=AQ.1 hi;refine h.v _ ?_;show c.V.getD i []∈c.V;rw[AB,Aw (by omega)];exact AR _
theorem zPh(c:Cs)(h:c.Small)(hm:m<=c.V.length):Pure Ai 16 [inpD c.n c.f c.desc c.P (c.ats m)] [] (iD (icE c.n c.f c.desc.length c.P (c.ats m))):=by
 have hv:=Cs.ats_v h hm;have hV:=h.V;exact icheck_c c.n c.f c.desc c.P (c.ats m) h.d h.P (by rw[Cs.ats_len];omega) hv λh0 h1=>lfAll_c c.n _ h0 h1 hv
theorem valid_c(c:Cs)(h:c.Small):∃(m:Nat)(ok:Bool),m<=c.V.length/\(ok=Ab↔c.V.length=c.R.length/\(∀i,i<c.V.length->c.err i=0)/\icE c.n c.f c.desc.length c.P (c.ats c.V.length)=0)/\(ok=Ab->m=c.V.length)/\
  Pure Ai 20 [.agg (csC c)] [] (.tup [inpD c.n c.f c.desc c.P (c.ats m),bD ok]):=by
 obtain⟨m,ok,h1,h2,h3,h4,h5⟩:=make_c c h;have hck:=zPh c h h1;cases ok
 ·refine⟨m,Ac,h1,⟨λhh=>(by cases hh),λhh=>?_⟩,λhh=>(by cases hh),?_⟩
  ·grind
  generalize c.ats m=ats at*;refine zF zAx mixed Tryz.func20 rfl<|vAu<|vA<|vr 1 (6<=6)<|vc (h5)<|ve (aL_)<|zA<|vd [1,2,0,3,4,5,6,7,8]<|ve (a3_)<|zE<|vret (5<=5)<|.inr rfl
 have hm:=h4 rfl;obtain⟨q1,q2⟩:=h3.1 rfl;by_cases hz:icE c.n c.f c.desc.length c.P (c.ats m)=0
 ·refine⟨m,Ab,h1,⟨λ_=>⟨q1,q2,hm▸hz⟩,λ_=>rfl⟩,λ_=>hm,?_⟩;rw[hz]at hck;generalize c.ats m=ats at*;refine zF zAx mixed Tryz.func20 rfl<|vAu<|vA<|vr 1 (6<=6)<|vca [Ay [iD<|Cs.n c,iD<|Cs.f c,Ad (Ae bD<|Cs.desc c)<|Aa<|Cs.desc c,Ad (Ae (λ(z:Int)=>iD z)<|Cs.P c)<|Aa<|Cs.P c,Ad (Ae zBn<|Cs.V c)<|Aa<|Cs.V c,Ad (Ae zCn<|Cs.R c)<|Aa<|Cs.R c]] (by(first|exact h5|exact hck))<|ve (aL_)<|zA<|vd [1,2,0,3,4,5,6,7,8]<|vr 4 (a6_)<|vca [Ay [iD<|Cs.n c,iD<|Cs.f c,Ad (Ae bD<|Cs.desc c)<|Aa<|Cs.desc c,Ad (Ae (λ(z:Int)=>iD z)<|Cs.P c)<|Aa<|Cs.P c,Ad (As atC ats)<|Aa ats]] (by(first|exact h5|exact hck))<|ve (True/\Ac=Ac/\Ab=Ab/\5=5/\5<=5)<|zE<|vret (5<=5)<|.inr rfl
 refine⟨m,Ac,h1,⟨λhh=>(by cases hh),λhh=>absurd (hm▸hh.2.2) hz⟩,λhh=>(by cases hh),?_⟩;generalize icE c.n c.f c.desc.length c.P (c.ats m)=e at*;generalize c.ats m=ats at*;have hze:(e==0)=false:=by simpa using hz
 refine zF zAx mixed Tryz.func20 rfl<|vAu<|vA<|vr 1 (6<=6)<|vca [Ay [iD<|Cs.n c,iD<|Cs.f c,Ad (Ae bD<|Cs.desc c)<|Aa<|Cs.desc c,Ad (Ae (λ(z:Int)=>iD z)<|Cs.P c)<|Aa<|Cs.P c,Ad (Ae zBn<|Cs.V c)<|Aa<|Cs.V c,Ad (Ae zCn<|Cs.R c)<|Aa<|Cs.R c]] (by(first|exact h5|exact hck))<|ve (aL_)<|zA<|vd [1,2,0,3,4,5,6,7,8]<|vr 4 (a6_)<|vca [Ay [iD<|Cs.n c,iD<|Cs.f c,Ad (Ae bD<|Cs.desc c)<|Aa<|Cs.desc c,Ad (Ae (λ(z:Int)=>iD z)<|Cs.P c)<|Aa<|Cs.P c,Ad (As atC ats)<|Aa ats]] (by(first|exact h5|exact hck))<|vrT 1<|vs 16 (bD (e==(0:Int))) (bD Ac)<|ve (aU_)<|zE<|vret (5<=5)<|.inr rfl
theorem look_p(z:D)(K:List (List Va×Nat))(r:List Va):zSk Ab z (K.map λp=>kyv p.1) (K.map λp=>iD ((p.2:Nat):Int)) (kyv r)=match tlk K r with
  |some w=> .tup [iD ((w:Nat):Int),bD Ab]
  |none=> .tup [z,bD Ac]:=by
 induction K with
 |nil=>rfl
 |cons p K ih=>
  unfold zSk zEs tlk at*;rw[Bz,Bz,List.findIdx?_cons,zWx,List.find?_cons];by_cases h:r=p.1
  ·rw[decide_eq_true h];rfl
  grind
theorem pt_nd(l:List Bu)(hn:(l.map (·.key)).Nodup):∀j,j<=l.length->ptI l j=(Ak j).map λi=>((l.getD i Af).key,i)
 |0,_=>rfl
 |j+1,h=>by
  rw[ptI,pt_nd l hn j (by omega),Bp,BE,tput];grind [CV,Aw,Ce]
theorem pt_at(l:List Bu)(hn:(l.map (·.key)).Nodup){p:Nat}(hp:p<l.length):tlk (ptI l l.length) (l.getD p Af).key=AA p:=by
 rw[pt_nd l hn _ (AE _),tlk];grind [Ak,List.find?_eq_some_iff_getElem,only,Bool.not_eq_true',Aw,Ce]
theorem pt_no(l:List Bu)(hn:(l.map (·.key)).Nodup)(h:∀b∈l,b.key≠r):tlk (ptI l l.length) r=none:=by
 rw[pt_nd l hn _ (AE _),tlk,Option.map_eq_none_iff,List.find?_eq_none];grind
abbrev zTree:D:= .agg [bD Ac, .val (.pointer AT)]
section
variable(desc:List Bool)(L:List Bg)(U:Nat->List Bu)(tot:Nat)
theorem zVp(v:Int)(hd:desc.length<=1000000):Pure Ai 58 [ixD desc L U tot,iD v] [] (bD (decide (0<=v)&&decide (v<(desc.length:Int)))):=free_c desc _ rfl _ _ _ _ _ _ tot v hd
theorem zQy(ht:Sm tot):Pure Ai 19 [ixD desc L U tot] [] (natD tot):=by
 have hn:=zQn tot ht;refine zF zAx mixed Tryz.func19 rfl<|vAu<|vA<|vr 2 (aW_)<|vc (hn)<|veT<|zE<|vret (True)<|.inr rfl
theorem bucketNo_c(v:Nat)(key:List Va)(n:Nat)(hid:Pure Ai 59 [.row (zG key) n] [] (strD (idR key)))(hd:desc.length<=1000000)(hv:v<desc.length)(hu:((U v).map (·.key)).Nodup)(h:∀b∈U v,b.key≠key):Pure Ai 21 [ixD desc L U tot,iD (v:Nat), .row (zG key) n] [] (.tup [zTree,bD Ac]):=by
 have hf:=zVp desc L U tot (v:Nat) hd;rw[show(decide (0<=((v:Nat):Int))&&decide (((v:Nat):Int)<(desc.length:Int)))=Ab by rw[BG,decide_eq_true_eq,decide_eq_true_eq];omega]at hf;have hlk:=look_p (iD 0) (ptI (U v) (U v).length) key;rw[pt_no _ hu h]at hlk;dsimp only at hlk;have hg:((fA desc.length λc=>zB9 (U c)).drop v).headD .unk=zB9 (U v):=by rw[zD7 hv]
 have hp:=zCd (g:=λc=>zB9 (U c)) hv;refine zF zAx mixed Tryz.func21 rfl (vAu (zA (vA (vr 2 (5<=5) (vca [Ay [Ad (Ae bD desc) (Aa desc),Ad (As bgC L) (Aa L),Ad (fA (Aa desc) λ(c:Nat)=>busD (U c)) (Aa desc),Ad (fA (Aa desc) λ(c:Nat)=>zB9 (U c)) (Aa desc),natD tot],iD (v:Int)] (by(first|exact hf|exact hid)) (veT (vf (vK (zA (vd [0,2,5,1,3,4,6,7,8,9,10,11,12] (vr 5 (aI_ (ix (v:Int) (Aa desc:Int) ((fA (Aa desc) λ(c:Nat)=>zB9 (U c))≠[]))) (vp 19 (v) (fA (Aa desc) λ(c:Nat)=>zB9 (U c)) (vr 1 (0<Aa (Ag v (fA (Aa desc) λ(c:Nat)=>zB9 (U c)))) (vsh 20 hg (vca [Ad (zG key) n] (by(first|exact hf|exact hid)) (vr 1 (zW (Cx (Cy Cz "string" 1 16 Ab 8 8 (AA (Bn (CA #[]))) Ab #[])) (Bn (bs (idR key)))=Ab/\List.all (Ae (λ(p:List Va×Nat)=>kyv (AO p)) (ptI (U v) (Aa (U v)))) (zW (Cx (Cy Cz "string" 1 16 Ab 8 8 (AA (Bn (CA #[]))) Ab #[])))=Ab) (vsh 23 hlk (ve (a4_) (zA (vAe ?_)))) ⟨(by kernel_rfl),(by exact zGc _)⟩))))) ⟨trivial,(by omega),⟨(by omega),⟨(by omega),(by exact fA_ne hv)⟩⟩⟩)))))))))));refine vt (vA (ve (aZ_) (zE (zH (vret (2<=2) (.inr rfl))))))
theorem zKc(v:Nat)(p n:Nat)(hid:Pure Ai 59 [.row (zG ((U v).getD p Af).key) n] [] (strD (idR ((U v).getD p Af).key)))(hd:desc.length<=1000000)(hv:v<desc.length)(hu:((U v).map (·.key)).Nodup)(hp:p<(U v).length)(hb:(U v).length<=1000000):Pure Ai 21 [ixD desc L U tot,iD (v:Nat), .row (zG ((U v).getD p Af).key) n] [] (.tup [zGz ((U v).getD p Af).desc ((U v).getD p Af).t,bD Ab]):=by
 have hf:=zVp desc L U tot (v:Nat) hd;rw[show(decide (0<=((v:Nat):Int))&&decide (((v:Nat):Int)<(desc.length:Int)))=Ab by rw[BG,decide_eq_true_eq,decide_eq_true_eq];omega]at hf;have hlk:=look_p (iD 0) (ptI (U v) (U v).length) ((U v).getD p Af).key;rw[pt_at _ hu hp]at hlk;dsimp only at hlk;have hg:((fA desc.length λc=>zB9 (U c)).drop v).headD .unk=zB9 (U v):=by rw[zD7 hv]
 have hpo:=zCd (g:=λc=>zB9 (U c)) hv;have hg2:((fA desc.length λc=>busD (U c)).drop v).headD .unk=busD (U v):=by rw[zD7 hv]
 have hpo2:=zCd (g:=λc=>busD (U c)) hv;have hg3:=zC0 zCg (U v) p hp;have hle:=zFw zCg (U v) p hp;have hne:=zDe zCg (by decide) (U v);have hg4:Aj 2 (Ag 1 (Ag (p*3) ((U v).flatMap buC)))=[bD ((U v).getD p Af).desc,((U v).getD p Af).t.x]:=by
  rw[<-List.drop_take (i:=1) (j:=3),hg3];rfl
 have hle2:2<=(Ag 1 (Ag (p*3) ((U v).flatMap buC))).length:=by rw[CH];omega
 generalize (U v).getD p Af=b at*;refine zF zAx mixed Tryz.func21 rfl (vAu (zA (vA (vr 2 (5<=5) (vca [Ay [Ad (Ae bD desc) (Aa desc),Ad (As bgC L) (Aa L),Ad (fA (Aa desc) λ(c:Nat)=>busD (U c)) (Aa desc),Ad (fA (Aa desc) λ(c:Nat)=>zB9 (U c)) (Aa desc),natD tot],iD (v:Int)] (by(first|exact hf|exact hid)) (veT (vf (vK (zA (vd [0,2,5,1,3,4,6,7,8,9,10,11,12] (vr 5 (aI_ (ix (v:Int) (Aa desc:Int) ((fA (Aa desc) λ(c:Nat)=>zB9 (U c))≠[]))) (vp 19 (v) (fA (Aa desc) λ(c:Nat)=>zB9 (U c)) (vr 1 (0<Aa (Ag v (fA (Aa desc) λ(c:Nat)=>zB9 (U c)))) (vsh 20 hg (vca [Ad (zG (Bu.key b)) n] (by(first|exact hf|exact hid)) (vr 1 (zW (Cx (Cy Cz "string" 1 16 Ab 8 8 (AA (Bn (CA #[]))) Ab #[])) (Bn (bs (idR (Bu.key b))))=Ab/\List.all (Ae (λ(p:List Va×Nat)=>kyv (AO p)) (ptI (U v) (Aa (U v)))) (zW (Cx (Cy Cz "string" 1 16 Ab 8 8 (AA (Bn (CA #[]))) Ab #[])))=Ab) (vsh 23 hlk (ve (a4_) (zA (vAe ?_)))) ⟨(by kernel_rfl),(by exact zGc _)⟩))))) ⟨trivial,(by omega),⟨(by omega),⟨(by omega),(by exact fA_ne hv)⟩⟩⟩)))))))))));refine vf (vK (vA (vr 4 (True/\0<3/\ix ↑v ↑(Aa desc) ((fA (Aa desc) λ(c:Nat)=>busD (U c))≠[])) (vp 32 v (fA (Aa desc) λ(c:Nat)=>busD (U c)) (vr 1 (0<Aa (Ag v (fA (Aa desc) λ(c:Nat)=>busD (U c)))) (vsh 33 hg2 (vr 4 (ix ↑p (Aa (U v):Int) (As buC (U v)≠[])/\True/\2<=Aa (Ag 1 (Ag (p*3) (As buC (U v))))) (vs 37 (Ay (Aj 2 (Ag 1 (Ag (p*3) (As buC (U v)))))) (Ay [bD (Bu.desc b),WT.x (Bu.t b)]) (ve (Ac=Ac/\Ab=Ab/\2=2/\2<=2) (zE ?_))))))) ⟨trivial,(by omega),⟨(by omega),⟨(by omega),(by exact fA_ne hv)⟩⟩⟩)));refine vret (2<=2) (.inr rfl)
end
end
section
set_option maxRecDepth 100000
def nm(z:Int):Va:=⟨1,z,[]⟩
def exR:List (List Rw):=[[[nm 1,nm 1],[nm 1,nm 2],[nm 2,nm 2]],[[nm 1,nm 7],[nm 2,nm 7],[nm 2,nm 8]]]
def ex1:Cs:=⟨3,3,[Ac,Ac,Ac],[],[[0,1],[1,2]],exR⟩
def ex2:Cs:=⟨3,1,[Ac],[2,1],[[0,1],[1,2]],exR⟩
theorem exR_t:∀l∈exR,∀x∈l,∀v∈x,Vt v:=by unfold Vt Vb;decide+kernel
theorem ex1_s:ex1.Small:=⟨by decide,by decide,by decide,by decide,by decide,by decide⟩
theorem ex2_s:ex2.Small:=⟨by decide,by decide,by decide,by decide,by decide,by decide⟩
theorem ex1_f:ex1.Few:=⟨by decide,by decide,by decide,by decide,by decide,by decide,by decide,by decide⟩
theorem ex2_f:ex2.Few:=⟨by decide,by decide,by decide,by decide,by decide,by decide,by decide,by decide⟩
theorem ex1_v:ex1.V.length=ex1.R.length/\(∀i,i<ex1.V.length->ex1.err i=0)/\icE ex1.n ex1.f ex1.desc.length ex1.P (ex1.ats ex1.V.length)=0:=by decide+kernel
theorem ex2_v:ex2.V.length=ex2.R.length/\(∀i,i<ex2.V.length->ex2.err i=0)/\icE ex2.n ex2.f ex2.desc.length ex2.P (ex2.ats ex2.V.length)=0:=by decide+kernel
theorem ex1_t:ex1.inp.tot=5:=by decide+kernel
theorem ex2_t:ex2.inp.tot=2:=by decide+kernel
theorem ex1_0:(ex1.inp.U 0).length=1/\((ex1.inp.U 0).getD 0 Af).key=[]/\((ex1.inp.U 0).getD 0 Af).desc=Ac/\((ex1.inp.U 0).getD 0 Af).t.look Ac (nm 1)=AA 3:=by decide+kernel
theorem ex1_2:(ex1.inp.U 2).length=2/\((ex1.inp.U 2).getD 1 Af).key=[nm 2]/\((ex1.inp.U 2).getD 1 Af).desc=Ac/\((ex1.inp.U 2).getD 1 Af).t.sz=2:=by decide+kernel
theorem ex1_k:((ex1.inp.U 0).getD 0 Af).t.sz<=10/\((ex1.inp.U 0).getD 0 Af).t.tot<=2^10:=by decide+kernel
theorem ex1_n:((ex1.inp.U 0).map (·.key)).Nodup/\((ex1.inp.U 2).map (·.key)).Nodup:=by decide+kernel
end
variable{l:List Rw}
section
attribute [local irreducible] seqW awp zAd zAi zY Weak updS zAr retL Pure Acts rP setP setQ cP nP fr
set_option maxRecDepth 4096
theorem zH0(z:Int):Pure Ai 43 [iD z] [] (vaD (nm z)):=by
 refine zF zAx mixed Tryz.func43 rfl<|vAu<|vA<|ve (((1=1/\1<=3/\1=1/\2<=3/\True)/\Ab=Ab)/\Ac=Ac/\Ab=Ab/\3=3/\3<=3)<|zE<|vret (3<=3)<|.inr rfl
def Tex:Par:=⟨λ_=>Ac,λ_ _=>AT,λ_=>Ac,λ_=>Ac,λt=>t==54||t==23||t==65⟩
theorem Tex_ok:zA9 Ai Tex:=by intro t n f h;cases h
theorem zS2:Pure Ai 47 [] [] (.agg (csC ex1)):=by
 refine zF Tex_ok mixed Tryz.func47 rfl<|vAu<|zA<|vd [0,1,2,3,4,5,6,7,8,9,10,11,12,13,14,15,16,17,18,19,20,21,22,23,24,25,26]<|vr 4 (((0:Int)<=(3:Int)/\(3:Int)<=(3:Int)/\(↑(1:Nat):Int)*(3:Int)<=(281474976710656:Int)/\(3:Int)<=(281474976710656:Int)/\a7_)/\((1=1/\1<=2/\1=1/\2<=2/\True)/\0<1/\1=1/\2<=16777216/\2<=9223372036854775807)/\((1=1/\1<=2/\1=1/\2<=2/\True)/\0<1/\1=1/\2<=16777216/\2<=9223372036854775807)/\(1=1/\1<=2/\1=1/\2<=2/\True)/\0<1/\1=1/\2<=16777216/\2<=9223372036854775807)<|vc (zH0 1)<|vc (zH0 1)<|vr 1 (aK_)<|vc (zH0 1)<|vc (zH0 2)<|vr 1 (aK_)<|vc (zH0 2)<|vc (zH0 2)<|vr 2 (((3=3/\3<=6/\3=3/\6<=6/\True)/\0<3/\3=3/\6<=16777216/\2<=9223372036854775807)/\(1=1/\1<=3/\1=1/\2<=3/\1=1/\3<=3/\True)/\0<1/\1=1/\3<=16777216/\3<=9223372036854775807)<|vc (zH0 1)<|vc (zH0 7)<|vr 1 (aK_)<|vc (zH0 2)<|vc (zH0 7)<|vr 1 (aK_)<|vc (zH0 2)<|vc (zH0 8)<|ve (((3=3/\3<=6/\3=3/\6<=6/\True)/\0<3/\3=3/\6<=16777216/\2<=9223372036854775807)/\((1=1/\1<=3/\1=1/\2<=3/\1=1/\3<=3/\True)/\0<1/\1=1/\3<=16777216/\3<=9223372036854775807)/\((1=1/\1<=2/\1=1/\2<=2/\True)/\0<1/\1=1/\2<=16777216/\2<=9223372036854775807)/\((1=1/\1<=6/\1=1/\2<=6/\1=1/\3<=6/\1=1/\5<=6/\1=1/\6<=6/\True)/\Ab=Ab)/\Ac=Ac/\Ab=Ab/\6=6/\6<=6)<|zE<|vret (6<=6)<|.inr rfl
theorem zQ7(c:Cs)(h:c.Small)(hl:c.V.length=c.R.length)(he:∀i,i<c.V.length->c.err i=0)(hc:icE c.n c.f c.desc.length c.P (c.ats c.V.length)=0)(hf:c.Few)(ht:c.Typ):∃S:Nat,S+zDq c.inp.R<=1000000000000000000/\Pure Ai 32 [iD (c.inp.n:Nat), .row (c.inp.L.flatMap bgC) c.inp.L.length, .row (c.inp.A.flatMap atR) c.inp.A.length] [] (.tup [.row (c.inp.R.flatMap atR) c.inp.R.length,iD ((S:Nat):Int),iD 0])/\
  Pure Ai 15 [inpD c.n c.f c.desc c.P (c.ats c.V.length)] [] (.tup [c.inp.ix,iD ((S+zDq c.inp.R:Nat):Int),iD 0]):=by
 have hck:=zPh c h (AE _);rw[hc,<-Cs.inp_D hc]at hck;obtain⟨S,h1,h2,h3⟩:=Inp.build (Cs.inp_ok hl he hc hf ht) hck;rw[Cs.inp_D hc]at h3;exact⟨S,h1,h2,h3⟩
theorem zVg(a:Nat)(ha:Sm a):Pure Ai 27 [natD a,natD a] [] (iD 0):=by
 grind [ncmp_c,cmpD]
section
variable(a1 a2 a3 b1 b2 b3:List D)(l1 l2 l3 k1 k2 k3:Nat)(c1 c2 c3 c4 d1 d2 d3 d4:List D)(m1 m2 m3 m4 n1 n2 n3 n4:Nat)(t u:WT)(s1 s2:Int)(five three two:Nat)
abbrev exI1:D:= .agg [iD 3,iD 3, .row a1 l1, .row a2 l2, .row a3 l3]
abbrev exX(five:Nat):D:= .agg [.row c1 m1, .row c2 m2, .row c3 m3, .row c4 m4,natD five]
abbrev exI2:D:= .agg [iD 3,iD 1, .row b1 k1, .row b2 k2, .row b3 k3]
set_option maxHeartbeats 4000000 in
theorem awakeW(e5:five=5)(e3:three=3)(e2:two=2)(hsz:u.sz=2)
  (h1:Pure Ai 20 [.agg (csC ex1)] [] (.tup [exI1 a1 a2 a3 l1 l2 l3,bD Ab]))
  (h2:Pure Ai 15 [exI1 a1 a2 a3 l1 l2 l3] [] (.tup [exX c1 c2 c3 c4 m1 m2 m3 m4 five,iD s1,iD 0]))
  (h3:Pure Ai 21 [exX c1 c2 c3 c4 m1 m2 m3 m4 five,iD 0, .val (.slice AT 0 0)] [] (.tup [zGz Ac t,bD Ab]))
  (h4:Pure Ai 23 [zGz Ac t,vaD (nm 1)] [] (.tup [natD three,bD Ab]))
  (h5:Pure Ai 21 [exX c1 c2 c3 c4 m1 m2 m3 m4 five,iD 2, .row (vaC (nm 2)) 1] [] (.tup [zGz Ac u,bD Ab]))
  (h6:Pure Ai 20 [.agg (csC ex2)] [] (.tup [exI2 b1 b2 b3 k1 k2 k3,bD Ab]))
  (h7:Pure Ai 15 [exI2 b1 b2 b3 k1 k2 k3] [] (.tup [exX d1 d2 d3 d4 n1 n2 n3 n4 two,iD s2,iD 0]))
  (h8:Pure Ai 19 [exX c1 c2 c3 c4 m1 m2 m3 m4 five] [] (natD five))
  (h9:Pure Ai 19 [exX d1 d2 d3 d4 n1 n2 n3 n4 two] [] (natD two)):Pure Ai 11 [] [] (bD Ab):=by
 have o5:Pure Ai 36 [.val (.int .u64 5)] [] (natD five):=by subst e5;exact of_c 5 (by decide)
 have o3:Pure Ai 36 [.val (.int .u64 3)] [] (natD three):=by subst e3;exact of_c 3 (by decide)
 have o2:Pure Ai 36 [.val (.int .u64 2)] [] (natD two):=by subst e2;exact of_c 2 (by decide)
 have q5:=zVg five (by subst e5;exact Sm.pow (e:=10) (by decide) (by decide));have q3:=zVg three (by subst e3;exact Sm.pow (e:=10) (by decide) (by decide));have q2:=zVg two (by subst e2;exact Sm.pow (e:=10) (by decide) (by decide));have hwl:=wlen_c Ac u;rw[hsz]at hwl;refine zF zAx mixed Tryz.func11 rfl<|vAu<|vA<|vc (zS2)<|vc (h1)<|ve (aL_)<|vA<|vr 1 (5<=5)<|vc (h2)<|ve (aV_)<|vA<|vr 1 (5<=5)<|vc (h3)<|ve (aM_)<|zA<|vd [0,1,2,3,4,5,6,7]<|vr 1 (2<=2)<|vc (zH0 1)<|vc (h4)<|ve (a4_)<|zA<|vd [0,1,2,3,4,5,6,7,8,9]<|vr 1 (5<=5)<|vc (zH0 2)<|vr 1 (aG_)<|vc (h5)<|ve (aM_)<|vA<|vc (zS2)<|ve (Ac=Ac/\Ab=Ab/\6=6/\6<=6)<|zA<|zA6 [2,0,1] [(3,[(0,6),(1,7)],[4]),(5,[(1,7)],[6,7])] rfl ?_;refine vr 3 (True/\((0:Int)<=(1:Int)/\(1:Int)<=(1:Int)/\(↑(1:Nat):Int)*(1:Int)<=(281474976710656:Int)/\(1:Int)<=(281474976710656:Int)/\a7_)/\(1=1/\1<=2/\1=1/\2<=2/\True)/\0<1/\1=1/\2<=16777216/\2<=9223372036854775807)<|vnil<|zBy rfl rfl<|vr 1 (Ac=Ac/\Ab=Ab/\1=1/\2<=6)<|vnil<|zEg (C:=((0:Int)<=(1:Int)/\(1:Int)<=(1:Int)/\(↑(1:Nat):Int)*(1:Int)<=(281474976710656:Int)/\(1:Int)<=(281474976710656:Int)/\0<1/\1=1)/\AA (Ax 6 0 1 1 Ab)=AA (Ax 6 0 1 1 Ab)/\eqDL [bD Ac] [bD Ac]/\4=4/\1=1/\Ab=Ab/\(kdOf Ac)=kdOf Ac/\((1=1/\1<=2/\1=1/\2<=2/\True)/\0<1/\1=1/\2<=16777216/\2<=9223372036854775807)/\AA (Ax 7 0 2 2 Ab)=AA (Ax 7 0 2 2 Ab)/\eqDL [iD 2,iD 1] [iD 2,iD 1]/\3=3/\1=1/\Ab=Ab/\AD=AD) ⟨(by omega),(by kernel_rfl),rfl,(by kernel_rfl),(by kernel_rfl),(by kernel_rfl),(by kernel_rfl),⟨⟨(by kernel_rfl),⟨(by omega),⟨(by kernel_rfl),⟨(by omega),trivial⟩⟩⟩⟩,(by omega)⟩,(by kernel_rfl),rfl,(by kernel_rfl),(by kernel_rfl),(by kernel_rfl),(by kernel_rfl)⟩ ?_;refine vrT 1<|vnil<|zBy rfl rfl<|vr 1 (Ac=Ac/\Ab=Ab/\1=1/\3<=6)<|vnil<|zEg (C:=((1=1/\1<=2/\1=1/\2<=2/\True)/\0<1/\1=1/\2<=16777216/\2<=9223372036854775807)/\AA (Ax 7 0 2 2 Ab)=AA (Ax 7 0 2 2 Ab)/\eqDL [iD 2,iD 1] [iD 2,iD 1]/\3=3/\1=1/\Ab=Ab/\AD=AD) ⟨⟨⟨(by kernel_rfl),⟨(by omega),⟨(by kernel_rfl),⟨(by omega),trivial⟩⟩⟩⟩,(by omega)⟩,(by kernel_rfl),rfl,(by kernel_rfl),(by kernel_rfl),(by kernel_rfl),(by kernel_rfl)⟩ ?_;refine vr 2 (True/\Ac=Ac/\Ab=Ab/\1=1/\4<=6)<|vnil<|zBv<|vN<|vA<|vr 1 (6<=6)<|vc h6<|ve (aL_)<|vA<|vr 1 (5<=5)<|vc h7<|ve (aV_)<|vA<|vr 23 (True/\True/\5<=5)<|vc h8<|vc o5<|vc q5<|vrT 4<|vc o3<|vc q3<|vr 4 (True/\2<=2)<|vc hwl<|vr 4 (True/\5<=5)<|vc h9<|vc o2<|vc q2<|veT<|zE<|vret (True)<|.inr rfl
end
theorem zWw(c:Cs)(h:c.Small)(hv:c.V.length=c.R.length/\(∀i,i<c.V.length->c.err i=0)/\icE c.n c.f c.desc.length c.P (c.ats c.V.length)=0):Pure Ai 20 [.agg (csC c)] [] (.tup [inpD c.n c.f c.desc c.P (c.ats c.V.length),bD Ab]):=by
 obtain⟨m,ok,_,h1,h2,h3⟩:=valid_c c h;grind
theorem zRa:Pure Ai 11 [] [] (bD Ab):=by
 have v1:=zWw ex1 ex1_s ex1_v;have v2:=zWw ex2 ex2_s ex2_v;obtain⟨S1,_,_,b1⟩:=zQ7 ex1 ex1_s ex1_v.1 ex1_v.2.1 ex1_v.2.2 ex1_f exR_t;obtain⟨S2,_,_,b2⟩:=zQ7 ex2 ex2_s ex2_v.1 ex2_v.2.1 ex2_v.2.2 ex2_f exR_t;obtain⟨p1,p2,p3,p4⟩:=ex1_0;obtain⟨q1,q2,q3,q4⟩:=ex1_2;obtain⟨k1,k2⟩:=ex1_k;have u0:=zKc ex1.inp.desc (ex1.inp.L.take ex1.inp.f) ex1.inp.U ex1.inp.tot 0 0 0 (zCs _ 0 (by rw[p2];rfl) (by rw[p2];simp)) (by decide) (by decide) ex1_n.1 (by omega) (by omega);have u2:=zKc ex1.inp.desc (ex1.inp.L.take ex1.inp.f) ex1.inp.U ex1.inp.tot 2 1 1 (zCs _ 1 (by rw[q2];rfl) (by rw[q2];intro x hx;obtain rfl:=AY.1 hx;exact Vt.vs (by unfold Vt Vb;decide) (by decide))) (by decide) (by decide) ex1_n.2 (by omega) (by omega);rw[p2,p3]at u0;rw[q2,q3]at u2;have g0:=wget_c Ac ((ex1.inp.U 0).getD 0 Af).t (nm 1) ⟨by omega,Sm.pow k2 (by decide)⟩;rw[p4]at g0;have t1:=zQy ex1.inp.desc (ex1.inp.L.take ex1.inp.f) ex1.inp.U ex1.inp.tot (by rw[ex1_t];exact Sm.pow (e:=10) (by decide) (by decide));have t2:=zQy ex2.inp.desc (ex2.inp.L.take ex2.inp.f) ex2.inp.U ex2.inp.tot (by rw[ex2_t];exact Sm.pow (e:=10) (by decide) (by decide));refine awakeW (t:=((ex1.inp.U 0).getD 0 Af).t) (u:=((ex1.inp.U 2).getD 1 Af).t) (five:=ex1.inp.tot) (three:=3) (two:=ex2.inp.tot) (e5:=ex1_t) (e3:=rfl) (e2:=ex2_t) (hsz:=q4) (h1:=v1) (h2:=b1) (h3:=u0.le (.cons (.refl _) (.cons (.refl _) (.cons Cm .nil)))) (h4:=g0) (h5:=u2) (h6:=v2) (h7:=b2) (h8:=t1) (h9:=t2)
theorem nbits_c(a:Nat)(h:Sm a):∃z:Nat,(0<z↔0<a)/\Pure Ai 18 [natD a] [] (iD (z:Nat)):=by
 unfold Sm at h;have ht:Pure Ai 55 [.row ((dg a).map dig) (dg a).length] [] (.row ((dg a).map dig) (dg a).length):=by
  have h2:=zFs (dg a) _ rfl (zB0 a);rw[zBz]at h2;exact h2
 show∃z:Nat,(0<z↔0<a)/\Pure Ai 18 [.row ((dg a).map dig) (dg a).length] [] (iD (z:Nat));have hd:=zB0 a;have hn:=zSc a;have hv:=zBz a;generalize dg a=l at*;rcases B9 l.length with h0|h0
 ·refine⟨0,⟨λhh=>by omega,λhh=>?_⟩,?_⟩
  ·rw[List.length_eq_zero_iff.1 h0]at hv;have:nval []=0:=rfl;omega
  refine zF zBe mixed Tryz.func18 rfl<|vAu<|vA<|vrT 1<|vc (ht)<|veT<|zA<|vAe<|vEt ((Aa l:Int)) ((0:Int)) ?_;refine vAe<|zE<|zH<|vret (True)<|.inr rfl
 refine⟨32*(l.length-1)+Bo (l.getD (l.length-1) 0),?_,?_⟩
 ·have hne:l≠[]:=λe=>by rw[e]at h0;cases h0
  have ht:=hn.resolve_left hne;have hp:0<Bo (l.getD (l.length-1) 0):=by
   show 0<if _=0 then 0 else 1+_
   rw[if_neg ht];omega
  refine⟨λ_=>Nat.pos_of_ne_zero λe=>hne (hn.zero.1 (by omega)),λ_=>by omega⟩
 have hb:=Lib.bitLen_le (l.getD (l.length-1) 0) 32 (by omega) (hd _);have hx:=len32_c (l.getD (l.length-1) 0) (hd _);refine zF zBe mixed Tryz.func18 rfl<|vAu<|vA<|vrT 1<|vc (ht)<|veT<|zA<|vAe<|vEf ((Aa l:Int)) ((0:Int)) ?_;refine vK<|vA<|vr 3 (i6 (↑(Aa l)-1))<|vs 10 (iD (↑(Aa l)-1)) (iD ↑(Aa l-1)) (hd:=by simp(disch:=omega) only[zC1])<|vr 5 (i6 ((32:Int)*(↑(Aa l-1):Int))/\i6 (↑(Aa l)-1))<|vs 15 (iD (↑(Aa l)-1)) (iD ↑(Aa l-1)) (hd:=by simp(disch:=omega) only[zC1])<|vr 1 (ix ↑(Aa l-1) ↑(Aa l) (Ae dig l≠[])) (vp 16 (Aa l-1) (Ae dig l)<|vr 1 (0<Aa (Ag (Aa l-1)<|Ae dig l))<|vs 17 (A9 (Ag (Aa l-1)<|Ae dig l) Uk) (dig<|Az l (Aa l-1) 0) (hd:=by simp(disch:=omega) only[zBx])<|vc hx ?_) ⟨(by omega),⟨(by omega),(by exact zAc)⟩⟩;refine ve (i6 ((32:Int)*(↑(Aa l-1):Int)+(↑(Bo<|Az l (Aa l-1) 0):Int)))<|zE<|vret (True)<|.inr rfl
theorem zY9:∀a b:List UInt8,Op.bytesLess a b=decide (BQ a b=-1)
  |[],[]=>rfl
  |[],_::_=>by simp[Op.bytesLess,BQ]
  |_::_,[]=>by simp[Op.bytesLess,BQ]
  | x ::a,y::b=>by
    have ih:=zY9 a b;unfold Op.bytesLess BQ;by_cases h1:x<y
    ·simp[h1]
    · by_cases h2:y<x
      · have:¬x=y:=λe=>h1 (e▸h2)
        simp[h1,h2,this]
      · have e:x=y:=UInt8.le_antisymm (UInt8.not_lt.1 h2) (UInt8.not_lt.1 h1)
        simp[h1,h2,e,ih]
theorem cmp40_c(a b:Va):Pure Ai 105 [vaD a,vaD b] [] (iD (vcmp a b)):=by
  refine zF zAx mixed Tryz.func105 rfl ?_;focus
    refine vAu<|zA<|vA<|vr 3 (3<=3/\3<=3/\True)<|vs 7 (bD (A5 a==A5 b&&(A6 a==A6 b&&(CB (bs<|A2 a)==CB (bs<|A2 b)&&Ab)))) (bD (A5 a==A5 b&&(A6 a==A6 b&&A2 a==A2 b))) (hd:=by simp(disch:=omega) only[zNc,Bool.and_true])<|veT<|zA5 (t:=A5 a==A5 b&&(A6 a==A6 b&&A2 a==A2 b)) (by kernel_rfl) (λhc=>?_)<|λhc=>?_;simp only[decide_eq_true_eq,decide_eq_false_iff_not,beq_iff_eq,bne_iff_ne,beq_eq_false_iff_ne,BG,Ca,Bool.not_eq_true',Bool.not_eq_false',ne_eq,Decidable.not_not,Int.not_lt,Int.not_le,ge_iff_le,gt_iff_lt,bne_eq_false_iff_eq]at hc;refine vAe<|zE<|zH<|vre (True) (q2_) (.inr rfl) ?_;rotate_left;refine vK<|zA<|vA<|vr 6 (True/\0<3/\True/\0<3)<|vspD 13 (A5 a<A5 b) (λhc=>?_)<|λhc=>?_;refine veT<|vt<|vAe<|zE<|zH<|vre (True) (q0_) (.inr rfl) ?_;rotate_left;refine vr 6 (True/\0<3/\True/\0<3/\True)<|vsp 19 (A5 a==A5 b) (λhc=>?_)<|λhc=>?_;simp only[beq_iff_eq]at hc;refine vr 6 (True/\0<2/\True/\0<2)<|vspD 25 (A6 a<A6 b) (λhc=>?_)<|λhc=>?_;refine veT<|vt<|vAe<|zE<|zH<|vre (True) (q0_) (.inr rfl) ?_;rotate_left;refine vr 6 (True/\0<2/\True/\0<2/\True)<|vsp 31 (A6 a==A6 b) (λhc=>?_)<|λhc=>?_;simp only[beq_iff_eq]at hc;refine vr 5 (True/\0<1/\True/\0<1)<|vs 36 (bD<|Op.bytesLess (CB<|bs<|A2 a)<|CB<|bs<|A2 b) (bD<|decide (BQ (A2 a) (A2 b)=(-1:Int))) (hd:=by simp(disch:=omega) only[zNc,zY9,Int.reduceNeg])<|veT<|vcD (BQ (A2 a) (A2 b)=(-1:Int)) (λhc=>?_)<|λhc=>?_;refine vAe<|zE<|zH<|vre (True) (q0_) (.inr rfl) ?_;rotate_left;refine vK<|vAe<|zE<|vre (True) (q1_) (.inr rfl) ?_;rotate_left;simp only[beq_eq_false_iff_ne]at hc;refine veT<|vf<|vK<|vAe<|zE<|vre (True) (q1_) (.inr rfl) ?_;rotate_left;simp only[beq_eq_false_iff_ne]at hc;refine veT<|vf<|vK<|vAe<|zE<|vre (True) (q1_) (.inr rfl) ?_;rotate_left
  all_goals
    have e1:=(zHd a.str b.str).1;have e2:=(zHd a.str b.str).2.1;have e3:=zGe a.kind b.kind;have e4:=zGe a.int b.int;refine congrArg (λz=>iD z) ?_;unfold vcmp;split
    ·omega
    · first
      |omega
      | (split
         ·omega
         · by_cases hs:a.str=b.str
           · have:=e2.2 hs
             first
               |omega
               |(exfalso;simp_all)
           · have:BQ a.str b.str≠0:=λh=>hs (e2.1 h)
             first
               |omega
               |(exfalso;simp_all))
def refC:List Va->List Va->Int
  |a::r,b::s=>if vcmp a b=0 then refC r s else vcmp a b
  |[],[]=>0
  |[],_::s=>-((s.length:Int)+1)
  |_::r,[]=>(r.length:Int)+1
theorem zL2:∀(i:Nat)(a b:List Va),i<=a.length->i<=b.length->a.take i=b.take i->refC a b=refC (a.drop i) (b.drop i)
  |0,_,_,_,_,_=>rfl
  |i+1,[],b,h,_,_=>by simp at h
  |i+1,_::_,[],_,h,_=>by simp at h
  | i+1,x::a,y::b,h1,h2,h3=>by
    simp only[CG,BB.injEq]at h3;obtain⟨rfl,h3⟩:=h3;rw[refC,if_pos ((zAy x x).2.1.2 rfl)];exact zL2 i a b (by simpa using h1) (by simpa using h2) h3
theorem refC_at(i:Nat)(a b:List Va)(ha:i<a.length)(hb:i<b.length)(h:a.take i=b.take i)(hv:vcmp (a.getD i Af) (b.getD i Af)≠0):refC a b=vcmp (a.getD i Af) (b.getD i Af):=by
  rw[zL2 i a b (by omega) (by omega) h,CI ha,CI hb];grind [only,Aw,refC]
theorem refC_end(a b:List Va)(i:Nat)(ha:i<=a.length)(hb:i<=b.length)(h:a.take i=b.take i)(he:i=a.length\/i=b.length):refC a b=(a.length:Int)-b.length:=by
  rw[zL2 i a b ha hb h];rcases he with rfl|rfl
  · rw[List.drop_length]
    have hl:=CH (i:=a.length) (l:=b);cases e:b.drop a.length with
    | nil=>
      rw[e]at hl;simp only[List.length_nil]at hl;show(0:Int)=_;omega
    | cons x r=>
      rw[e]at hl;simp only[BN]at hl;show-((r.length:Int)+1)=_;omega
  · rw[List.drop_length]
    have hl:=CH (i:=b.length) (l:=a);cases e:a.drop b.length with
    | nil=>
      rw[e]at hl;simp only[List.length_nil]at hl;show(0:Int)=_;omega
    | cons x r=>
      rw[e]at hl;simp only[BN]at hl;show(r.length:Int)+1=_;omega
theorem zP7:∀a b:List Va,(refC a b<0↔rcmp a b<0)/\(refC a b=0↔a=b)
  |[],[]=>⟨Iff.rfl,by simp[refC]⟩
  |[],b::s=>by simp[refC,rcmp];omega
  |a::r,[]=>by simp[refC,rcmp];omega
  | a::r,b::s=>by
    obtain⟨h1,h2⟩:=zP7 r s;grind [zAy,refC,rcmp,BB.injEq]
theorem Cmp40_c(a b:List Va)(n m:Nat)(hn:a.length=n)(hm:b.length=m)(ln:n<=1000000)(lm:m<=1000000):Pure Ai 65 [.row (zG a) n, .row (zG b) m, .val (.slice AT 0 0)] [] (iD (refC a b)):=by
  subst hn hm;refine zF zAx mixed Tryz.func65 rfl<|vAu<|zA<|vAe<|zJ<|zK (λ(i:Nat)=>fr 50 [(0,Ad (zG a)<|Aa a),(1,Ad (zG b)<|Aa b),(2,nl),(7,iD (i:Int))]) (λ_=>[]) (λi=>a.length-i) (λi=>i<=a.length/\i<=b.length/\a.take i=b.take i) 0 ?_ ?_ ?_
  ·grind
  ·refine vk 0
  rintro i ⟨h1,h2,h3⟩;by_cases hi:i<a.length/\i<b.length
  · focus
      refine zA<|vAs<|vew [] [(4,Ab)] (decide ((i:Int)<↑(Aa a))=Ab)<|vT ((i:Int)<↑(Aa b))<|vKB<|zA<|vd [0,1,2,4,5,6,3,7,8,9]<|vr 7 (ix ↑i ↑(Aa a) (zG a≠[])/\ix ↑i ↑(Aa b) (zG b≠[])/\3<=Aa (Ag (i*3)<|zG a)) ?_ ⟨⟨(by omega),⟨(by omega),(by exact zE4 _)⟩⟩,⟨(by omega),⟨(by omega),(by exact zE4 _)⟩⟩,(by exact zC3 _ _)⟩;refine vs 24 (Ay<|Aj 3<|Ag (i*3)<|zG a) (Ay<|vaC<|Az a i Af) (hd:=by simp(disch:=omega) only[zB5])<|vr 1 (3<=Aa (Ag (i*3)<|zG b)) (vs 28 (Ay<|Aj 3<|Ag (i*3)<|zG b) (Ay<|vaC<|Az b i Af) (hd:=by simp(disch:=omega) only[zB5])<|vca [Ay [iD<|A5<|Az a i Af,iD<|A6<|Az a i Af,Al<|Bn<|bs<|A2<|Az a i Af],Ay [iD<|A5<|Az b i Af,iD<|A6<|Az b i Af,Al<|Bn<|bs<|A2<|Az b i Af]] (by exact cmp40_c _ _)<|veT<|zA<|vA<|vew [] [(4,Ac)] (decide ((i:Int)<0)=Ac)<|vf<|vK<|zA ?_) (by exact zC3 _ _);refine zB rfl<|veT<|zA5 (t:=vcmp (Az a i Af) (Az b i Af)!=(0:Int)) (by kernel_rfl) (λhc=>?_)<|λhc=>?_;simp only[bne_iff_ne]at hc;refine vAe<|zE<|zL<|zH<|zH<|zL<|zH<|vre (True) (Al<|Aq Bx<|vcmp (Az a i Af)<|Az b i Af) (.inr rfl) ?_;rotate_left;simp only[bne_eq_false_iff_eq]at hc;refine zT<|zD<|vN<|zB rfl<|vr 3 (i6 (↑i+1))<|vnil<|zC ?_;rotate_left
    ·grind [refC_at]
    · refine⟨i+1,⟨by omega,by omega,zKh i a b (by omega) (by omega) h3 hc⟩,by omega,?_⟩
      refine vk 0
  · rw[refC_end a b i h1 h2 h3 (by omega)]
    by_cases hi2:i<a.length
    ·refine zA<|vAs<|vew [] [(4,Ab)] (decide ((i:Int)<(Aa a:Int))=Ab)<|vF ((i:Int)<(Aa b:Int))<|vZ2<|vA<|ve (i6 ((Aa a:Int)-(Aa b:Int)))<|zE<|vret (True)<|.inr rfl
    refine zA<|vAs<|vew [] [(4,Ac)] (decide ((i:Int)<(Aa a:Int))=Ac)<|vf<|vZ2<|vA<|ve (i6 ((Aa a:Int)-(Aa b:Int)))<|zE<|vret (True)<|.inr rfl
theorem zRe(a b:List Va)(n m:Nat)(hn:a.length=n)(hm:b.length=m)(ln:n<=1000000)(lm:m<=1000000):Pure Ai 26 [.row (zG a) n, .row (zG b) m] [] (bD (decide (a=b))):=by
  have h:=Cmp40_c a b n m hn hm ln lm;have hz:=(zP7 a b).2;refine zF zAx mixed Tryz.func26 rfl ?_;by_cases he:a=b
  · subst he
    have hnm:n=m:=hn.symm.trans hm;subst hnm;rw[hz.2 rfl]at h;refine vAu<|vA<|vw 8 [] [(5,Ab)] (True/\((n:Int)==↑n)=Ab)<|vc h<|veT<|zE<|vre (True) (Al<|BD Ab) (.inr rfl) (by simp)
  · rw[decide_eq_false he]
    by_cases hnm:n=m
    · subst hnm
      refine vAu<|vA<|vw 8 [] [(5,Ab)] (True/\((n:Int)==↑n)=Ab)<|vc h<|veT<|zE<|vre (True) (Al<|BD (refC a b==(0:Int))) (.inr rfl) ?_;grind
    refine vAu<|vA<|vew [] [(5,Ac)] (True/\((n:Int)==(m:Int))=Ac)<|zE<|vret (True)<|.inr rfl
theorem has40_c(m v:Nat)(hm:m<4294967296)(hv:v<32):Pure Ai 77 [u32D m,iD (v:Nat)] [] (bD (m.testBit v)):=by
 refine zF zAx mixed Tryz.func77 rfl<|vAu<|vA<|vr 4 (u6 (v:Int)/\(0:Int)<=(v:Int))<|vs 8 (Al<|Aq Ah<|BL (m:Int) ((2:Int)^min (Ap (v:Int)) 32)) (dig (m>>>v)) (hd:=by simp(disch:=omega) only[AX,zDw])<|vrT 1<|vs 9 (Al<|Aq Ah<|AH Ah (↑(AF (Ao 32 (↑(m>>>v):Int)&&&Ao 32 (1:Int))):Int)) (dig<|AF (Ao 32 (↑(m>>>v):Int)&&&Ao 32 (1:Int))) (hd:=by simp(disch:=omega) only[zAu])<|vrT 1<|vs 10 (bD ((↑(AF (Ao 32 (↑(m>>>v):Int)&&&Ao 32 (1:Int))):Int)==(1:Int))) (bD<|BM m v) (hd:=by simp(disch:=omega) only[zWe])<|veT<|zE<|vret (True)<|.inr rfl
theorem set40_c(A:List Nat)(n:Nat)(hn:A.length=n)(hl:n<=1000000)(hA:∀v∈A,v<32):Pure Ai 76 [.row (nsD A) n] [] (u32D (msk A)):=by
 subst hn;have hlt:∀j,msk (A.take j)<4294967296:=λj=>zSi λv hv=>hA v (BF hv);refine zF zAx mixed Tryz.func76 rfl<|vAu<|vAe<|zA<|vAe<|zJ<|zK (λ(j:Nat)=>fr 20 [(0,Ad (nsD A)<|Aa A),(2,Al<|Aq Ah (0:Int)),(3,u32D<|msk<|Aj j A),(4,iD (j:Int))]) (λ(j:Nat)=>[]) (λ(j:Nat)=>A.length-j) (λ(j:Nat)=>j<=A.length) 0 ?_ ?_ ?_
 ·omega
 ·refine vk 0
 intro j h2;rcases AC j A.length with h4|h4
 ·have h5:=hA _ (zBj A j h4);have h6:=zEd h5;have h7:=zQj (hlt j) h6;have h8:=hlt j;refine zA<|vAu<|vT ((j:Int)<↑(Aa A))<|vKB<|zB rfl<|vr 4 (ix ↑j ↑(Aa A) (nsD A≠[])) (vp 14 j (nsD A) ?_) ⟨(by omega),⟨(by omega),(by exact zAc)⟩⟩;refine vr 1 (0<Aa (Ag j<|nsD A))<|vs 15 (A9 (Ag j<|nsD A) Uk) (iD ↑(Az A j 0)) (hd:=by simp(disch:=omega) only[zBr])<|vr 2 (u6 (↑(Az A j 0):Int)/\(0:Int)<=(↑(Az A j 0):Int))<|vs 17 (Al<|Aq Ah<|AH Ah ((1:Int)*(2:Int)^min (Ap (↑(Az A j 0):Int)) 32)) (dig ((2:Nat)^Az A j 0)) (hd:=by simp(disch:=omega) only[AX,zDx])<|vrT 1<|vs 18 (Al<|Aq Ah<|AH Ah (↑(AF (Ao 32 (↑(msk<|Aj j A):Int)|||Ao 32 (↑((2:Nat)^Az A j 0):Int))):Int)) (dig (msk (Aj j A)|||(2:Nat)^Az A j 0)) (hd:=by simp(disch:=omega) only[zNb,zAu])<|vrT 1<|vnil<|zD<|vN<|zB rfl<|vr 3 (i6 (↑j+1))<|vnil<|zC<|⟨j+1,by omega,by omega,?_⟩;rw[zQp A j h4];refine vk 0
 obtain rfl:j=A.length:=by omega
 rw[A8];refine zA<|vAu<|vF ((Aa A:Int)<↑(Aa A))<|vZ2<|vAe<|zE<|vret (True)<|.inr rfl
theorem zYb(m:Nat)(hm:m<4294967296):Pure Ai 82 [u32D m] [] (.row (nsD (zAf m)) (zAf m).length):=by
 refine zF zAx mixed Tryz.func82 rfl<|vAu<|vAe<|zA<|vAe<|zJ<|zB4 (λ(i:Nat)(l:List Nat)=>fr 17 [(0,u32D m),(2,nl),(3,Ax 0 0 (Aa l) (Aa l) Ab),(4,iD (i:Int))]) (λi l=>[intB<|nsD l]) (λi l=>32-i) (λ(i:Nat)(l:List Nat)=>i<=32/\l=((Ak 32).take i).filter λj=>m.testBit j) 0 [] ?_ ?_ ?_
 ·grind
 ·refine vk 0
 rintro i l ⟨h1,h2⟩;rcases AC i 32 with h3|h3
 ·have h4:=zN5 m i h3;rw[<-h2]at h4;have hlen:l.length<=1000:=by rw[h2];exact AG (BC _ _) (by simp;omega)
  have hh:=has40_c m i hm h3;cases hb:m.testBit i with
  |true=>
   rw[hb]at hh h4;rw[if_pos rfl]at h4;refine zA<|vAu<|vT ((i:Int)<(32:Int))<|vKB<|vA<|vrT 2<|vc hh<|veT<|vt<|zB rfl<|vr 5 (((1=1/\1<=1/\True)/\0<1/\1=1/\1<=16777216/\1<=9223372036854775807)/\Bk.arr (intB<|nsD l)=Ab/\Aa (AU<|intB<|nsD l)=Aa l*1/\Aa l=Aa l*1/\Bk.ty (intB<|nsD l)=3/\Bk.sz (intB<|nsD l)=1/\1=1/\0<1/\0<8/\3=3/\(Aa l+1)*8<=140737488355328/\1=1/\Ba (Bl<|intB<|nsD l)=Ac/\(Ac=Ac\/Bb (Bl<|intB<|nsD l)=Ab))<|vs 3 (Ax 0 0 (Aa l+1) ((Aa l+1)*1) Ab) (Ax 0 0 (Aa l+1) (Aa l+1) Ab)<|vnil<|zD<|vN<|zB rfl<|vr 3 (i6 (↑i+1))<|vnil<|zC<|⟨i+1,l++[i],⟨by omega,h4.symm⟩,by omega,?_⟩;rw[zJu,Bt];refine vk 1
  |false=>
   rw[hb]at hh h4;rw[if_neg (by decide),BR]at h4;refine zA<|vAu<|vT ((i:Int)<(32:Int))<|vKB<|vA<|vrT 2<|vc hh<|veT<|vf<|zT<|zD<|vN<|zB rfl<|vr 3 (i6 (↑i+1))<|vnil<|zC<|⟨i+1,l,⟨by omega,h4.symm⟩,by omega,?_⟩;refine vk 1
 refine zA<|vAu<|vF ((i:Int)<(32:Int))<|vZ2<|vAe<|zE<|zBm (True) (Ad (Aj (Aa l)<|Ag 0<|AU<|intB<|nsD l)<|Aa l) (Ad (Aj (Aa l)<|nsD l)<|Aa l) (.inr rfl) (by simp(disch:=omega) only[A1]) ?_;have e:i=32:=by omega
 subst e;rw[Bc (by simp)]at h2;rw[h2,zMd _ _ rfl];rfl
theorem zL5(r:List Va)(vars:List Nat)(n k m:Nat)(hn:r.length=n)(hk:vars.length=k)(ln:n<=1000)(hle:k<=n)(hm:m<4294967296)(hv:∀v∈vars,v<32):Pure Ai 81 [.row (zG r) n, .row (nsD vars) k,u32D m] [] (.row (zG (zM r (zBc (λv=>m.testBit v) vars))) (zBc (λv=>m.testBit v) vars).length):=by
 subst hn hk;refine zF zAx mixed Tryz.func81 rfl<|vAu<|vA<|ve (aQ_)<|zA<|vAe<|zJ<|zB4 (λ(i:Nat)(l:List Nat)=>fr 30 [(0,Ad (zG r)<|Aa r),(1,Ad (nsD vars)<|Aa vars),(2,u32D m),(6,nl),(7,Ax 0 0 (Aa l) (Aa l*3) Ab),(8,iD (i:Int))]) (λi l=>[vaB<|zM r l]) (λi l=>vars.length-i) (λ(i:Nat)(l:List Nat)=>i<=vars.length/\l=((Ak vars.length).take i).filter λj=>m.testBit (vars.getD j 0)) 0 [] ?_ ?_ ?_
 ·grind
 ·refine vk 1
 rintro i l ⟨h1,h2⟩;rcases AC i vars.length with h3|h3
 ·have h4:=zJg (λv=>m.testBit v) vars i h3;rw[<-h2]at h4;have hlen:l.length<=1000:=by rw[h2];exact AG (BC _ _) (by simp;omega)
  have h5:=hv _ (zBj vars i h3);have hpl:(zM r l).length=l.length:=by simp[zM]
  have hcl:(zG (zM r l)).length=l.length*3:=by rw[zAg,hpl]
  have hh:=has40_c m (vars.getD i 0) hm h5;cases hb:m.testBit (vars.getD i 0)with
  | true=>
   rw[hb]at hh h4;rw[if_pos rfl]at h4;have hvb:vaB (zM r (l++[i]))=⟨zG (zM r l)++vaC (r.getD i Af),64,3,Ab,Ac, .plain⟩:=by
    grind [Bk,zG,zM,zC8]
   refine zA<|vAu<|vT ((i:Int)<↑(Aa vars))<|vKB<|vA<|vr 4 (ix ↑i ↑(Aa vars) (nsD vars≠[])) ?_ ⟨(by omega),⟨(by omega),(by exact zAc)⟩⟩;refine vp 19 i (nsD vars)<|vr 1 (0<Aa (Ag i<|nsD vars))<|vs 20 (A9 (Ag i<|nsD vars) Uk) (iD ↑(Az vars i 0)) (hd:=by simp(disch:=omega) only[zBr])<|vc hh<|veT<|vt<|zB rfl<|vr 5 (ix ↑i ↑(Aa r) (zG r≠[])/\3<=Aa (Ag (i*3)<|zG r)) (vs 26 (Ay<|Aj 3<|Ag (i*3)<|zG r) (Ay<|vaC<|Az r i Af) (hd:=by simp(disch:=omega) only[zB5])<|vr 3 (aN_ (Bk.arr (vaB<|zM r l)=Ab/\Aa (AU<|vaB<|zM r l)=Aa l*3/\Aa l*3=Aa l*3/\Bk.ty (vaB<|zM r l)=64/\Bk.sz (vaB<|zM r l)=3/\3=3/\0<3/\0<32/\64=64/\(Aa l+1)*32<=140737488355328/\3=3/\Ba (Bl<|vaB<|zM r l)=Ac/\(Ac=Ac\/Bb (Bl<|vaB<|zM r l)=Ab)))<|vnil<|zD<|vN ?_) ⟨⟨(by omega),⟨(by omega),(by exact zE4 _)⟩⟩,(by exact zC3 _ _)⟩;refine zB rfl<|vr 3 (i6 (↑i+1))<|vnil<|zC<|⟨i+1,l++[i],⟨by omega,h4.symm⟩,by omega,?_⟩;rw[hvb,Bt];refine vk 1
  |false=>
   rw[hb]at hh h4;rw[if_neg (by decide),BR]at h4;refine zA<|vAu<|vT ((i:Int)<↑(Aa vars))<|vKB<|vA<|vr 4 (ix ↑i ↑(Aa vars) (nsD vars≠[])) ?_ ⟨(by omega),⟨(by omega),(by exact zAc)⟩⟩;refine vp 19 i (nsD vars)<|vr 1 (0<Aa (Ag i<|nsD vars))<|vs 20 (A9 (Ag i<|nsD vars) Uk) (iD ↑(Az vars i 0)) (hd:=by simp(disch:=omega) only[zBr])<|vc hh<|veT<|vf<|zT<|zD<|vN<|zB rfl<|vr 3 (i6 (↑i+1))<|vnil<|zC<|⟨i+1,l,⟨by omega,h4.symm⟩,by omega,?_⟩;refine vk 1
 have e:i=vars.length:=by omega
 subst e;rw[Bc (by simp)]at h2;have ht:=zFy (zM r l) l.length (by simp[zM]);refine zA<|vAu<|vF ((Aa vars:Int)<↑(Aa vars))<|vZ2<|vAe<|zE<|zBm (True) (Ad (Aj (Aa l*3)<|Ag 0<|AU<|vaB<|zM r l)<|Aa l) (Ad (zG<|zM r l)<|Aa l) (.inr rfl) (by simp(disch:=omega) only[A1,ht]) ?_;rw[h2];rfl
def plR:List Rw->Rw->Nat
 |[],_=>0
 |x::l,r=>if refC x r<0 then plR l r+1 else 0
def putR(l:List Rw)(r:Rw):List Rw:=if plR l r<l.length/\l.getD (plR l r) []=r then l else l.take (plR l r)++r::l.drop (plR l r)
theorem zXp:∀(l:List Rw)(r:Rw),plR l r<=l.length
 |[],_=>AE _
 |x::l,r=>by
  have:=zXp l r
  unfold plR;grind
theorem plR_lt:∀(l:List Rw)(r:Rw)(j:Nat),j<plR l r->refC (l.getD j []) r<0
 |[],_,j,h=>by simp[plR]at h
 | x::l,r,j,h=>by
  unfold plR at h;split at h
  ·rename_i hx;cases j with
   |zero=>exact hx
   |succ j=>exact plR_lt l r j (by omega)
  omega
theorem plR_at:∀(l:List Rw)(r:Rw),plR l r<l.length->¬refC (l.getD (plR l r) []) r<0
 |[],_,h=>by simp at h
 | x::l,r,h=>by
  unfold plR at h⊢;split
  ·rename_i hx;rw[if_pos hx,BN]at h;exact plR_at l r (by omega)
  rename_i hx;exact hx
theorem zT9(l:List Rw)(r x:Rw):x∈putR l r↔x=r\/x∈l:=by
 grind [putR,Aw,AR,Cl,plR,only]
theorem put_rsc(r:Rw)(h:Rsc l):Rsc (putR l r):=by
 unfold putR;split
 ·exact h
 rename_i hne;have hsp:Rsc (l.take (plR l r)++l.drop (plR l r)):=by rw[Cl];exact h
 obtain⟨h1,h2,h3⟩:=BJ.1 hsp;have hlt:∀x∈l.take (plR l r),rcmp x r<0:=λx hx=>by
  obtain⟨j,hj,rfl⟩:=Bj hx;have hj2:j<plR l r:=by rw[Bq]at hj;omega
  have:=plR_lt l r j hj2
  have hjl:j<l.length:=by have:=zXp l r;omega
  rw[AB,Aw hjl]at this;rw[List.getElem_take];exact(zP7 _ _).1.1 this
 have hgt:∀x∈l.drop (plR l r),rcmp r x<0:=λx hx=>by
  rcases AC (plR l r) l.length with hp|hp
  ·have hat:=plR_at l r hp;have hd:l.drop (plR l r)=l.getD (plR l r) []::l.drop (plR l r+1):=by
    simp_all
   have h0:rcmp r (l.getD (plR l r) [])<0:=by
    have e1:=(zP7 (l.getD (plR l r) []) r).1;grind [zBq,plR,rcmp]
   grind [zL3,BP]
  grind [List.drop_eq_nil_of_le]
 exact BJ.2 ⟨h1,BP.2 ⟨hgt,h2⟩,λx hx y hy=>by
  rcases A_.1 hy with rfl|hy
  ·exact hlt x hx
  exact h3 x hx y hy⟩
theorem put_fin(l:List Rw)(r:Rw)(hi:i<=l.length):Ad (Aj (i+1+(l.length-i)) (Aj i (l.map rowV)++[Ad (zG r) r.length]++Aj (l.length-i) (Ag i (l.map rowV)))) (i+1+(l.length-i))=Ad ((l.take i++r::l.drop i).map rowV) (l.take i++r::l.drop i).length:=by
 have e2:(l.take i++r::l.drop i).length=i+1+(l.length-i):=by simp;omega
 simp_all [Bc,CJ,List.map_drop,rowV]
theorem put40_c(l:List Rw)(r:Rw)(n k:Nat)(hn:l.length=n)(hk:r.length=k)(ln:n<=1000000000000)(lk:k<=1000000)(hl:∀x∈l,x.length<=1000000):Pure Ai 64 [.row (l.map rowV) n, .row (zG r) k, .val (.slice AT 0 0)] [] (.row ((putR l r).map rowV) (putR l r).length):=by
 subst hn hk;have hL:∀i,i<l.length->((l.map rowV).drop i).headD .unk=rowV (l.getD i []):=λi hi=>zAq rowV l [] i hi;have hLn:0<l.length->l.map rowV≠[]:=λh=>zAc (h:=h);have hcp:∀i,i<l.length->Pure Ai 65 [rowV (l.getD i []), .row (zG r) r.length, .val (.slice AT 0 0)] [] (iD (refC (l.getD i []) r)):=λi hi=>Cmp40_c _ r _ _ rfl rfl (hl _ (by rw[AB,Aw hi];exact AR _)) lk;have hsm:∀i,i<l.length->Pure Ai 26 [rowV (l.getD i []), .row (zG r) r.length] [] (bD (decide (l.getD i []=r))):=λi hi=>zRe _ r _ _ rfl rfl (hl _ (by rw[AB,Aw hi];exact AR _)) lk;have hp:=zXp l r;have hlt:=plR_lt l r;have hat:=plR_at l r;unfold putR;generalize plR l r=p at*;refine zF zAx mixed Tryz.func64 rfl<|vAu<|vAe<|vB<|zK (λ(i:Nat)=>fr 52 [(0,Ad (Ae rowV l)<|Aa l),(1,Ad (zG r)<|Aa r),(2,nl),(6,nl),(7,iD (i:Int))]) (λ(i:Nat)=>[]) (λ(i:Nat)=>p-i) (λ(i:Nat)=>i<=p) 0 ?_ ?_ ?_
 ·omega
 ·refine vk 0
 intro i h1;rcases AC i p with h3|h3
 ·have h4:=hcp i (by omega);have h5:=hlt i h3;have h6:=hL i (by omega);have h7:=hLn (by omega);generalize refC (l.getD i []) r=z at*;refine zA<|vAs<|vw 8 [] [(4,Ab)] (decide ((i:Int)<↑(Aa l))=Ab/\ix ↑i ↑(Aa l) (Ae rowV l≠[]))<|vp 16 i (Ae rowV l)<|vr 1 (0<Aa (Ag i<|Ae rowV l))<|vsh 17 h6<|vrT 2<|vc h4<|veT<|vT (z<0)<|vK<|zJ<|zB rfl<|vr 3 (i6 (↑i+1))<|vnil<|zD<|zC<|⟨i+1,by omega,by omega,?_⟩;refine vk 0
 obtain rfl:i=p:=by omega
 rcases AC i l.length with h5|h5
 ·have h4:=hcp i h5;have h6:=hL i h5;have h7:=hLn (by omega);have h8:=hsm i h5;have h9:=hat h5;generalize refC (l.getD i []) r=z at*;by_cases he:l.getD i []=r
  ·rw[if_pos ⟨h5,he⟩];rw[decide_eq_true he]at h8;refine zA<|vAs<|vw 8 [] [(4,Ab)] (decide ((i:Int)<↑(Aa l))=Ab/\ix ↑i ↑(Aa l) (Ae rowV l≠[]))<|vp 16 i (Ae rowV l)<|vr 1 (0<Aa (Ag i<|Ae rowV l))<|vsh 17 h6<|vrT 2<|vc h4<|veT<|vF (z<0)<|vZ2<|zA<|vA<|vw 8 [] [(4,Ab)] (decide ((i:Int)<↑(Aa l))=Ab/\ix ↑i ↑(Aa l) (Ae rowV l≠[]))<|vp 32 i (Ae rowV l)<|vr 1 (0<Aa (Ag i<|Ae rowV l))<|vsh 33 h6<|vrT 1<|vc h8<|veT<|vt<|vAe<|zE<|zH<|vret (True)<|.inr rfl
  rw[if_neg λhh=>he hh.2];rw[decide_eq_false he]at h8;refine zA<|vAs<|vw 8 [] [(4,Ab)] (decide ((i:Int)<↑(Aa l))=Ab/\ix ↑i ↑(Aa l) (Ae rowV l≠[]))<|vp 16 i (Ae rowV l)<|vr 1 (0<Aa (Ag i<|Ae rowV l))<|vsh 17 h6<|vrT 2<|vc h4<|veT<|vF (z<0)<|vZ2<|zA<|vA<|vw 8 [] [(4,Ab)] (decide ((i:Int)<↑(Aa l))=Ab/\ix ↑i ↑(Aa l) (Ae rowV l≠[]))<|vp 32 i (Ae rowV l)<|vr 1 (0<Aa (Ag i<|Ae rowV l))<|vsh 33 h6<|vrT 1<|vc h8<|veT<|vf<|vK<|vA<|vr 4 (aT_ ((0:Int)<=(i:Int)/\True/\0<1/\0<=Ap (i:Int)/\Ap (i:Int)<=Aa l/\Ap (i:Int)=Ap (i:Int)))<|vs 41 (Ad (Aj ((Ap (i:Int)-0)*1)<|Ag 0<|Ae rowV l) (Ap (i:Int)-0)) (Ad (Aj i<|Ae rowV l) i)<|vr 2 (Ab=Ab/\0=0/\0=0/\54=54/\1=1/\Aa (Aj i<|Ae rowV l)=i*1/\0<1/\0<24/\54=54/\(0+i)*24<=140737488355328/\1=1/\Ac=Ac/\(Ac=Ac\/Ac=Ab))<|vs 8 (Ax 0 0 (0+i) ((0+i)*1) Ab) (Ax 0 0 i i Ab)<|veT<|vA<|vr 5 (aR_ (Aa (Aj i<|Ae rowV l)=i*1/\i=i*1/\54=54/\1=1/\1=1/\0<1/\0<24/\54=54/\(i+1)*24<=140737488355328/\1=1/\Ba AD=Ac/\(Ac=Ac\/Bb AD=Ab)))<|vs 8 (Ax 0 0 (i+1) ((i+1)*1) Ab) (Ax 0 0 (i+1) (i+1) Ab)<|veT<|vA<|vr 4 ((0:Int)<=(i:Int)/\True/\True/\0<1/\Ap (i:Int)<=Aa l/\Aa l<=Aa l/\Aa l=Aa l)<|vs 50 (Ad (Aj ((Aa l-Ap (i:Int))*1)<|Ag (Ap (i:Int)*1)<|Ae rowV l) (Aa l-Ap (i:Int))) (Ad (Aj (Aa l-i)<|Ag i<|Ae rowV l) (Aa l-i))<|vr 2 (Ab=Ab/\Aa (Aj i (Ae rowV l)++[(q3_ r)])=(i+1)*1/\i+1=(i+1)*1/\54=54/\1=1/\Aa (Aj (Aa l-i)<|Ag i<|Ae rowV l)=(Aa l-i)*1/\0<1/\0<24/\54=54/\(i+1+(Aa l-i))*24<=140737488355328/\1=1/\Ba AD=Ac/\(Ac=Ac\/Bb AD=Ab))<|vs 6 (Ax 0 0 (i+1+(Aa l-i)) ((i+1+(Aa l-i))*1) Ab) (Ax 0 0 (i+1+(Aa l-i)) (i+1+(Aa l-i)) Ab)<|veT<|zE ?_;refine zBm (True) (Ad (Aj (i+1+(Aa l-i))<|Ag 0 (Aj i (Ae rowV l)++[Ad (zG r)<|Aa r]++Aj (Aa l-i) (Ag i<|Ae rowV l))) (i+1+(Aa l-i))) (Ad (Aj (i+1+(Aa l-i)) (Aj i (Ae rowV l)++[Ad (zG r)<|Aa r]++Aj (Aa l-i) (Ag i<|Ae rowV l))) (i+1+(Aa l-i))) (.inr rfl) (by simp(disch:=omega) only[A1]) ?_;exact put_fin l r hp
 rw[if_neg λhh=>by omega];refine zA<|vAs<|vew [] [(4,Ac)] (decide ((i:Int)<↑(Aa l))=Ac)<|vf<|vZ2<|zA<|vA<|vew [] [(4,Ac)] (decide ((i:Int)<↑(Aa l))=Ac)<|vf<|vK<|vA<|vr 4 (aT_ ((0:Int)<=(i:Int)/\True/\0<1/\0<=Ap (i:Int)/\Ap (i:Int)<=Aa l/\Ap (i:Int)=Ap (i:Int)))<|vs 41 (Ad (Aj ((Ap (i:Int)-0)*1)<|Ag 0<|Ae rowV l) (Ap (i:Int)-0)) (Ad (Aj i<|Ae rowV l) i)<|vr 2 (Ab=Ab/\0=0/\0=0/\54=54/\1=1/\Aa (Aj i<|Ae rowV l)=i*1/\0<1/\0<24/\54=54/\(0+i)*24<=140737488355328/\1=1/\Ac=Ac/\(Ac=Ac\/Ac=Ab))<|vs 8 (Ax 0 0 (0+i) ((0+i)*1) Ab) (Ax 0 0 i i Ab)<|veT<|vA<|vr 5 (aR_ (Aa (Aj i<|Ae rowV l)=i*1/\i=i*1/\54=54/\1=1/\1=1/\0<1/\0<24/\54=54/\(i+1)*24<=140737488355328/\1=1/\Ba AD=Ac/\(Ac=Ac\/Bb AD=Ab)))<|vs 8 (Ax 0 0 (i+1) ((i+1)*1) Ab) (Ax 0 0 (i+1) (i+1) Ab)<|veT<|vA<|vr 4 ((0:Int)<=(i:Int)/\True/\True/\0<1/\Ap (i:Int)<=Aa l/\Aa l<=Aa l/\Aa l=Aa l)<|vs 50 (Ad (Aj ((Aa l-Ap (i:Int))*1)<|Ag (Ap (i:Int)*1)<|Ae rowV l) (Aa l-Ap (i:Int))) (Ad (Aj (Aa l-i)<|Ag i<|Ae rowV l) (Aa l-i))<|vr 2 (Ab=Ab/\Aa (Aj i (Ae rowV l)++[(q3_ r)])=(i+1)*1/\i+1=(i+1)*1/\54=54/\1=1/\Aa (Aj (Aa l-i)<|Ag i<|Ae rowV l)=(Aa l-i)*1/\0<1/\0<24/\54=54/\(i+1+(Aa l-i))*24<=140737488355328/\1=1/\Ba AD=Ac/\(Ac=Ac\/Bb AD=Ab))<|vs 6 (Ax 0 0 (i+1+(Aa l-i)) ((i+1+(Aa l-i))*1) Ab) (Ax 0 0 (i+1+(Aa l-i)) (i+1+(Aa l-i)) Ab)<|veT<|zE ?_;refine zBm (True) (Ad (Aj (i+1+(Aa l-i))<|Ag 0 (Aj i (Ae rowV l)++[Ad (zG r)<|Aa r]++Aj (Aa l-i) (Ag i<|Ae rowV l))) (i+1+(Aa l-i))) (Ad (Aj (i+1+(Aa l-i)) (Aj i (Ae rowV l)++[Ad (zG r)<|Aa r]++Aj (Aa l-i) (Ag i<|Ae rowV l))) (i+1+(Aa l-i))) (.inr rfl) (by simp(disch:=omega) only[A1]) ?_;exact put_fin l r hp
abbrev rfD(n f:Int)(P:List Int)(V:List (List Nat))(R:List (List Rw)):List D:=[iD n,iD f, .row (P.map λz=>iD z) P.length, .row (V.map λA=> .row (nsD A) A.length) V.length, .row (R.map λl=> .row (l.map rowV) l.length) R.length]
abbrev rfB(n f:Int)(P:List Int)(V:List (List Nat))(R:List (List Rw)):Bk:=⟨rfD n f P V R,68,0,Ac,Ac, .plain⟩
def agr(A:List Nat)(vars:List Nat)(r q:Rw):Bool:=decide (zM q (zBc (λv=>(msk vars&&&msk A).testBit v) A)=zM r (zBc (λv=>(msk vars&&&msk A).testBit v) vars))
def fitA(A:List Nat)(l:List Rw)(vars:List Nat)(r:Rw):Bool:=l.any (agr A vars r)
section
variable(n f:Int)(P:List Int)(V:List (List Nat))(R:List (List Rw))(vars:List Nat)(r:Rw)(k:Nat)
set_option maxHeartbeats 2000000 in
theorem zYt(hVR:V.length=R.length)(hk:vars.length=k)(hrk:r.length=k)(lk:k<=32)(hv:∀v∈vars,v<32)(lV:V.length<=1000)
  (hA:∀A∈V,A.length<=1000/\∀v∈A,v<32)(hR:∀i,i<V.length->(R.getD i []).length<=100000/\∀q∈R.getD i [],q.length=(V.getD i []).length):
  Pure Ai 130 [.agg (rfD n f P V R), .row (zG r) k, .row (nsD vars) k] [] (bD ((Ak V.length).all λi=>fitA (V.getD i []) (R.getD i []) vars r)):=by
 have hs:=set40_c vars k hk (by omega) hv;have hVg:∀i,i<V.length->((V.map λA=>Ad (nsD A) A.length).drop i).headD .unk= .row (nsD (V.getD i [])) (V.getD i []).length:=λi hi=>zAq (λA=>Ad (nsD A) A.length) V [] i hi;have hRg:∀i,i<V.length->((R.map λl=>Ad (l.map rowV) l.length).drop i).headD .unk= .row ((R.getD i []).map rowV) (R.getD i []).length:=λi hi=>zAq (λl=>Ad (l.map rowV) l.length) R [] i (by omega);have hVn:0<V.length->(V.map λA=>Ad (nsD A) A.length)≠[]:=λh=>zAc (h:=h);have hRn:0<V.length->(R.map λl=>Ad (l.map rowV) l.length)≠[]:=λh=>zAc;have hms:msk vars<4294967296:=zSi hv;obtain⟨m,hm1,hm2,hend⟩:∃m,m<=V.length/\(∀j,j<m->fitA (V.getD j []) (R.getD j []) vars r=Ab)/\((m=V.length)\/(m<V.length/\fitA (V.getD m []) (R.getD m []) vars r=Ac)):=by
  by_cases hb:∃p,p<V.length/\(!fitA (V.getD p []) (R.getD p []) vars r)=Ab
  ·obtain⟨p,hp,hpb,hmin⟩:=zDf (p:=λi=>!fitA (V.getD i []) (R.getD i []) vars r) hb;grind
  refine⟨V.length,AE _,λj hj=>?_, .inl rfl⟩;grind
 have hres:((Ak V.length).all λi=>fitA (V.getD i []) (R.getD i []) vars r)=decide (m=V.length):=by
  grind
 rw[hres];refine zF zAx mixed Tryz.func130 rfl<|vAu<|vA<|vrT 1<|vc (hs)<|veT<|zA<|vAe<|zJ<|zK (λ(i:Nat)=>fr 67 [(1,Ad (zG r) k),(2,Ad (nsD vars) k),(3,Ar 0 0),(7,u32D<|msk vars),(8,iD (i:Int))]) (λ(i:Nat)=>[rfB n f P V R]) (λ(i:Nat)=>m-i) (λ(i:Nat)=>i<=m) 0 ?_ ?_ ?_
 ·omega
 ·refine vk 1
 intro i h1;by_cases h3:i<V.length
 ·have hvg:=hVg i h3;have hrg:=hRg i h3;have hvn:=hVn (by omega);have hrn:=hRn (by omega);obtain⟨a1,a2⟩:=hA (V.getD i []) (by rw[AB,Aw h3];exact AR _);obtain⟨r1,r2⟩:=hR i h3;have hgood:i<m->fitA (V.getD i []) (R.getD i []) vars r=true:=hm2 i;have hbad:¬i<m->fitA (V.getD i []) (R.getD i []) vars r=false:=λh=>by
   grind
  generalize V.getD i []=A at*;generalize R.getD i []=l at*;have hsA:=set40_c A _ rfl (by omega) a2;have hmA:msk A<4294967296:=zSi a2;have hcm:msk vars&&&msk A<4294967296:=Nat.lt_of_le_of_lt Nat.and_le_left hms;have hbv:(Ao 32 ((msk vars:Nat):Int)&&&Ao 32 ((msk A:Nat):Int)).toNat=msk vars&&&msk A:=by
   grind
  have hpr:=zL5 r vars k k (msk vars&&&msk A) hrk hk (by omega) (AE _) hcm hv;refine zA<|vAs<|ve (aO_)<|vT ((i:Int)<↑(Aa V))<|vKB<|vA<|vr 5 (aI_ (ix ↑i ↑(Aa V) (Ae (λ(A:List Nat)=>Ad (nsD A) (Aa A)) V≠[])))<|vp 26 i (Ae (λ(A:List Nat)=>Ad (nsD A) (Aa A)) V)<|vr 1 (0<Aa (Ag i<|Ae (λ(A:List Nat)=>Ad (nsD A) (Aa A)) V))<|vsh 27 hvg<|vc hsA<|vrT 1<|vs 29 (Al<|Aq Ah<|AH Ah (↑(AF (Ao 32 (↑(msk vars):Int)&&&Ao 32 (↑(msk A):Int))):Int)) (dig (msk vars&&&msk A)) (hd:=by simp(disch:=omega) only[zAu,hbv])<|veT<|vA<|vrT 3<|vc hpr<|veT<|vAe<|zA<|vAe<|zJ<|zB4 (λ(j:Nat)(o:Bool)=>fr 67 [(1,Ad (zG r) k),(2,Ad (nsD vars) k),(3,Ar 0 0),(7,u32D<|msk vars),(8,iD i),(9,u32D (msk vars&&&msk A)),(10,Ad (zG<|zM r<|zBc (λ(v:Nat)=>BM (msk vars&&&msk A) v) vars)<|Aa<|zBc (λ(v:Nat)=>BM (msk vars&&&msk A) v) vars),(11,bD o),(12,iD j)]) (λ(j:Nat)(o:Bool)=>[rfB n f P V R]) (λ(j:Nat)(o:Bool)=>l.length-j) (λ(j:Nat)(o:Bool)=>j<=l.length/\o=(l.take j).any (agr A vars r)) 0 Ac ?_ ?_ ?_
  ·grind
  ·refine vk 1
  rintro j o ⟨g1,g2⟩;by_cases hcont:j<l.length/\o=Ac
  ·obtain⟨g3,rfl⟩:=hcont;have hql:(l.getD j []).length=A.length:=r2 _ (by rw[AB,Aw g3];exact AR _);have hlg:((l.map rowV).drop j).headD .unk=rowV (l.getD j []):=zAq rowV l [] j g3;have hln:l.map rowV≠[]:=zAc;have hst:(l.take (j+1)).any (agr A vars r)=agr A vars r (l.getD j []):=by
    grind [A7,Aw]
   generalize l.getD j []=q at*;have hpq:=zL5 q A q.length A.length (msk vars&&&msk A) rfl rfl (by omega) (by omega) hcm a2;rw[hql]at hpq;have hsm:=zRe (zM q (zBc (λv=>(msk vars&&&msk A).testBit v) A)) (zM r (zBc (λv=>(msk vars&&&msk A).testBit v) vars)) _ _ (show _=(zBc (λv=>(msk vars&&&msk A).testBit v) A).length by simp[zM]) (show _=(zBc (λv=>(msk vars&&&msk A).testBit v) vars).length by simp[zM]) (AG (BC _ _) (by simp;omega)) (AG (BC _ _) (by simp;omega));have hqr:rowV q= .row (zG q) A.length:=by rw[<-hql]
   refine zA<|vAs<|vr 5 (aP_ (ix ↑i ↑(Aa R) (Ae (λ(l:List Rw)=>Ad (Ae rowV l) (Aa l)) R≠[])))<|vp 38 i (Ae (λ(l:List Rw)=>Ad (Ae rowV l) (Aa l)) R)<|vr 1 (0<Aa (Ag i<|Ae (λ(l:List Rw)=>Ad (Ae rowV l) (Aa l)) R))<|vsh 39 hrg<|vew [] [(8,Ab)] (decide ((j:Int)<↑(Aa l))=Ab)<|vt<|vKB<|vd [0,2,5,8,10,13,15,1,3,4,6,7,9,11,12,14,16,17]<|vr 9 (True/\True/\0<1/\ix ↑i ↑(Aa R) (Ae (λ(l:List Rw)=>Ad (Ae rowV l) (Aa l)) R≠[]))<|vp 51 i (Ae (λ(l:List Rw)=>Ad (Ae rowV l) (Aa l)) R)<|vr 1 (0<Aa (Ag i<|Ae (λ(l:List Rw)=>Ad (Ae rowV l) (Aa l)) R))<|vsh 52 hrg<|vr 1 (ix ↑j ↑(Aa l) (Ae rowV l≠[]))<|vp 54 j (Ae rowV l)<|vr 1 (0<Aa (Ag j<|Ae rowV l))<|vs 55 (A9 (Ag j<|Ae rowV l) Uk) (Ad (zG q)<|Aa A)<|vr 2 (0<2/\ix ↑i ↑(Aa V) (Ae (λ(A:List Nat)=>Ad (nsD A) (Aa A)) V≠[]))<|vp 59 i (Ae (λ(A:List Nat)=>Ad (nsD A) (Aa A)) V)<|vr 1 (0<Aa (Ag i<|Ae (λ(A:List Nat)=>Ad (nsD A) (Aa A)) V))<|vsh 60 hvg<|vc hpq<|vc hsm<|vrT 1<|vnil<|zD<|vN<|zB rfl<|vr 3 (i6 (↑j+1))<|vnil<|zC<|⟨j+1,agr A vars r q,⟨by omega,hst.symm⟩,by omega,?_⟩;refine vk 1
  have hfit:fitA A l vars r=o:=by
   grind [A8,fitA,BV,BF]
  by_cases him:i<m
  ·rw[hgood him]at hfit;subst hfit;by_cases hj:j<l.length
   ·refine zA<|vAs<|vr 5 (aP_ (ix (i:Int) (Aa R:Int) (Ae (λ(l:List Rw)=>Ad (Ae rowV l) (Aa l)) R≠[])))<|vp 38 (i) (Ae (λ(l:List Rw)=>Ad (Ae rowV l) (Aa l)) R)<|vr 1 (0<Aa (Ag i<|Ae (λ(l:List Rw)=>Ad (Ae rowV l) (Aa l)) R))<|vsh 39 hrg<|vew [] [(8,Ab)] (decide ((j:Int)<(Aa l:Int))=Ab)<|vf<|vZ2<|vAe<|vf<|zT<|zD<|vN<|zB rfl<|vr 3 (i6 ((i:Int)+(1:Int)))<|vnil<|zC<|⟨i+1,by omega,by omega,?_⟩;refine vk 1
   refine zA<|vAs<|vr 5 (aP_ (ix (i:Int) (Aa R:Int) (Ae (λ(l:List Rw)=>Ad (Ae rowV l) (Aa l)) R≠[])))<|vp 38 (i) (Ae (λ(l:List Rw)=>Ad (Ae rowV l) (Aa l)) R)<|vr 1 (0<Aa (Ag i<|Ae (λ(l:List Rw)=>Ad (Ae rowV l) (Aa l)) R))<|vsh 39 hrg<|vew [] [(8,Ac)] (decide ((j:Int)<(Aa l:Int))=Ac)<|vf<|vZ2<|vAe<|vf<|zT<|zD<|vN<|zB rfl<|vr 3 (i6 ((i:Int)+(1:Int)))<|vnil<|zC<|⟨i+1,by omega,by omega,?_⟩;refine vk 1
  rw[hbad him]at hfit;subst hfit;have hj:¬j<l.length:=λhh=>hcont ⟨hh,rfl⟩;rw[decide_eq_false (by omega)];refine zA<|vAs<|vr 5 (aP_ (ix ↑i ↑(Aa R) (Ae (λ(l:List Rw)=>Ad (Ae rowV l) (Aa l)) R≠[])))<|vp 38 i (Ae (λ(l:List Rw)=>Ad (Ae rowV l) (Aa l)) R)<|vr 1 (0<Aa (Ag i<|Ae (λ(l:List Rw)=>Ad (Ae rowV l) (Aa l)) R))<|vsh 39 hrg<|vew [] [(8,Ac)] (decide ((j:Int)<↑(Aa l))=Ac)<|vf<|vZ2<|vAe<|vt<|vAe<|zE<|zL<|zH<|zH<|zL ?_;refine zH<|vret (True)<|.inr rfl
 rw[decide_eq_true (by omega)];refine zA<|vAs<|ve (aO_)<|vF ((i:Int)<↑(Aa V))<|vZ2<|vAe<|zE<|vret (True)<|.inr rfl
end
def vlC(l:List Rw)(k j:Nat):List Rw:=(l.take j).map λq=>[q.getD k Af]
def vlK(A:List Nat)(l:List Rw)(v k:Nat):List Rw:=(Ak k).flatMap λc=>if A.getD c 0=v then vlC l c l.length else[]
def vlI(V:List (List Nat))(R:List (List Rw))(v i:Nat):List Rw:=(Ak i).flatMap λa=>vlK (V.getD a []) (R.getD a []) v (V.getD a []).length
theorem vlC_succ(l:List Rw)(k j:Nat)(h:j<l.length):vlC l k (j+1)=vlC l k j++[[(l.getD j []).getD k Af]]:=by
 grind [vlC,Aw,A7]
theorem vlK_succ(A:List Nat)(l:List Rw)(v k:Nat):vlK A l v (k+1)=vlK A l v k++if A.getD k 0=v then vlC l k l.length else[]:=by
 grind [vlK,Bp]
theorem vlI_succ(V:List (List Nat))(R:List (List Rw))(v i:Nat):vlI V R v (i+1)=vlI V R v i++vlK (V.getD i []) (R.getD i []) v (V.getD i []).length:=by
 grind [vlI,Bp]
def pvC(l:List Rw)(k j:Nat)(L:List Rw):List Rw:=(l.take j).foldl (λL q=>putR L [q.getD k Af]) L
def pvK(A:List Nat)(l:List Rw)(v k:Nat)(L:List Rw):List Rw:=(Ak k).foldl (λL c=>if A.getD c 0=v then pvC l c l.length L else L) L
def pvI(V:List (List Nat))(R:List (List Rw))(v i:Nat):List Rw:=(Ak i).foldl (λL a=>pvK (V.getD a []) (R.getD a []) v (V.getD a []).length L) []
theorem zQc(l:List Rw)(k j:Nat)(L:List Rw)(h:j<l.length):pvC l k (j+1) L=putR (pvC l k j L) [(l.getD j []).getD k Af]:=by
 grind [Aw,pvC,A7]
theorem zQa(A:List Nat)(l:List Rw)(v k:Nat)(L:List Rw):pvK A l v (k+1) L=if A.getD k 0=v then pvC l k l.length (pvK A l v k L)else pvK A l v k L:=by
 grind [pvK,Bp]
theorem zQb(V:List (List Nat))(R:List (List Rw))(v i:Nat):pvI V R v (i+1)=pvK (V.getD i []) (R.getD i []) v (V.getD i []).length (pvI V R v i):=by
 grind [pvI,Bp]
structure Vst(L W:List Rw)(b:Nat):Prop where
 s:Rsc L
 w:∀x,x∈L↔x∈W
 c:L.length<=b
 o:∀x∈L,x.length=1
theorem zQd(L:List Rw)(r:Rw):(putR L r).length<=L.length+1:=by
 have:=zXp L r
 unfold putR;grind
theorem Vst.put{L W:List Rw}{b:Nat}(h:Vst L W b)(a:Va):Vst (putR L [a]) (W++[[a]]) (b+1):=by
 refine⟨put_rsc _ h.s,λx=>?_,?_,λx hx=>?_⟩
 ·rw[zT9,h.w,A0,AY];exact Or.comm
 ·have:=h.c
  have:=zQd L [a]
  omega
 rcases(zT9 _ _ _).1 hx with rfl|hx
 ·rfl
 exact h.o x hx
theorem Vst.le{L W:List Rw}{b b':Nat}(h:Vst L W b)(k:b<=b'):Vst L W b':=⟨h.s,h.w,AG h.c k,h.o⟩
theorem pvC_ok{L W:List Rw}{b:Nat}(h:Vst L W b)(l:List Rw)(k:Nat):∀j,j<=l.length->Vst (pvC l k j L) (W++vlC l k j) (b+j)
 |0,_=>by
  show Vst L (W++[]) b;rw[BR];exact h
 |j+1,hj=>by
  rw[zQc l k j L (by omega),vlC_succ l k j (by omega),<-CK];exact(pvC_ok h l k j (by omega)).put _
theorem pvK_ok{L W:List Rw}{b:Nat}(h:Vst L W b)(A:List Nat)(l:List Rw)(v:Nat)(hl:l.length<=10):∀k,Vst (pvK A l v k L) (W++vlK A l v k) (b+10*k)
 |0=>by
  show Vst L (W++[]) b;rw[BR];exact h
 |k+1=>by
  have ih:=pvK_ok h A l v hl k;rw[zQa,vlK_succ,<-CK];split
  ·exact(pvC_ok ih l k l.length (AE _)).le (by omega)
  rw[BR];exact ih.le (by omega)
theorem zXn(V:List (List Nat))(R:List (List Rw))(v:Nat)(hA:∀i,i<V.length->(V.getD i []).length<=8)(hR:∀i,i<V.length->(R.getD i []).length<=10):∀i,i<=V.length->Vst (pvI V R v i) (vlI V R v i) (80*i)
 |0,_=>⟨Cv.nil,λx=>Iff.rfl,AE _,λx hx=>by cases hx⟩
 |i+1,hi=>by
  rw[zQb,vlI_succ]
  have:=hA i (by omega)
  exact(pvK_ok (zXn V R v hA hR i (by omega)) _ _ v (hR i (by omega)) _).le (by omega)
abbrev vasB(l:List Va):Bk:=⟨zG l,64,3,Ab,Ac, .plain⟩
section
variable(n f:Int)(P:List Int)(V:List (List Nat))(R:List (List Rw))(v:Nat)
set_option maxHeartbeats 4000000 in
theorem zZo(hVR:V.length=R.length)(lV:V.length<=5)(hA:∀i,i<V.length->(V.getD i []).length<=8)(hR:∀i,i<V.length->(R.getD i []).length<=10/\∀q∈R.getD i [],q.length=(V.getD i []).length):
  Pure Ai 129 [.agg (rfD n f P V R),iD (v:Nat)] [] (.row (zG ((pvI V R v V.length).map λx=>x.getD 0 Af)) (pvI V R v V.length).length):=by
 have hVg:∀i,i<V.length->((V.map λA=>Ad (nsD A) A.length).drop i).headD .unk= .row (nsD (V.getD i [])) (V.getD i []).length:=λi hi=>zAq (λA=>Ad (nsD A) A.length) V [] i hi;have hRg:∀i,i<V.length->((R.map λl=>Ad (l.map rowV) l.length).drop i).headD .unk= .row ((R.getD i []).map rowV) (R.getD i []).length:=λi hi=>zAq (λl=>Ad (l.map rowV) l.length) R [] i (by omega);have hVn:0<V.length->(V.map λA=>Ad (nsD A) A.length)≠[]:=λh=>zAc (h:=h);have hRn:0<V.length->(R.map λl=>Ad (l.map rowV) l.length)≠[]:=λh=>zAc;have hpI:=zXn V R v hA λi hi=>(hR i hi).1;refine zF zAx mixed Tryz.func129 rfl<|vAu<|vAe<|zA<|vAe<|zJ<|zK (λ(i:Nat)=>fr 78 [(1,iD (v:Int)),(2,Ar 0 0),(4,nl),(5,Ad (Ae rowV<|pvI V R v i)<|Aa<|pvI V R v i),(6,iD (i:Int))]) (λ(i:Nat)=>[rfB n f P V R]) (λ(i:Nat)=>V.length-i) (λ(i:Nat)=>i<=V.length) 0 ?_ ?_ ?_
 ·omega
 ·refine vk 1
 intro i h1;rcases AC i V.length with h3|h3
 ·have hvg:=hVg i h3;have hrg:=hRg i h3;have hvn:=hVn (by omega);have hrn:=hRn (by omega);have ha:=hA i h3;obtain⟨r1,r2⟩:=hR i h3;have hI:=hpI i h1;have hsu:=zQb V R v i;generalize pvI V R v i=L at*;generalize V.getD i []=A at*;generalize R.getD i []=l at*;have hKo:=pvK_ok hI A l v r1;refine zA<|vAs<|ve (aO_)<|vT ((i:Int)<↑(Aa V))<|vKB<|vAe<|zJ<|zK (λ(k:Nat)=>fr 78 [(1,iD v),(2,Ar 0 0),(4,nl),(5,Ad (Ae rowV<|pvK A l v k L)<|Aa<|pvK A l v k L),(6,iD i),(7,iD k)]) (λ(k:Nat)=>[rfB n f P V R]) (λ(k:Nat)=>A.length-k) (λ(k:Nat)=>k<=A.length) 0 ?_ ?_ ?_
  ·omega
  ·refine vk 1
  intro k g1;rcases AC k A.length with g3|g3
  ·have hKk:=hKo k;have hks:=zQa A l v k L;have han:nsD A≠[]:=zAc;generalize pvK A l v k L=K at*;by_cases hv:A.getD k 0=v
   ·rw[if_pos hv]at hks;have hCo:=pvC_ok hKk l k;refine zA<|vAs<|vr 5 (aI_ (ix ↑i ↑(Aa V) (Ae (λ(A:List Nat)=>Ad (nsD A) (Aa A)) V≠[])))<|vp 22 i (Ae (λ(A:List Nat)=>Ad (nsD A) (Aa A)) V)<|vr 1 (0<Aa (Ag i<|Ae (λ(A:List Nat)=>Ad (nsD A) (Aa A)) V))<|vsh 23 hvg<|veT<|vT ((k:Int)<↑(Aa A))<|vKB<|zA<|vA<|vr 4 (aI_ (ix ↑i ↑(Aa V) (Ae (λ(A:List Nat)=>Ad (nsD A) (Aa A)) V≠[])))<|vp 31 i (Ae (λ(A:List Nat)=>Ad (nsD A) (Aa A)) V)<|vr 1 (0<Aa (Ag i<|Ae (λ(A:List Nat)=>Ad (nsD A) (Aa A)) V))<|vsh 32 hvg<|vr 2 (ix ↑k ↑(Aa A) (nsD A≠[]))<|vp 34 k (nsD A)<|vr 1 (0<Aa (Ag k<|nsD A))<|vs 35 (A9 (Ag k<|nsD A) Uk) (iD v) (hd:=by simp(disch:=omega) only[zBr,hv])<|veT<|zEz (t:=(v:Int)!=↑v) (by kernel_rfl) (by simp) ?_;refine vK<|vAe<|zJ<|zK (λ(j:Nat)=>fr 78 [(1,iD v),(2,Ar 0 0),(4,nl),(5,Ad (Ae rowV<|pvC l k j K)<|Aa<|pvC l k j K),(6,iD i),(7,iD k),(8,iD j)]) (λ(j:Nat)=>[rfB n f P V R]) (λ(j:Nat)=>l.length-j) (λ(j:Nat)=>j<=l.length) 0 ?_ ?_ ?_
    ·omega
    ·refine vk 1
    intro j q1;rcases AC j l.length with q3|q3
    ·have hC:=hCo j q1;have hlg:((l.map rowV).drop j).headD .unk=rowV (l.getD j []):=zAq rowV l [] j q3;have hln:l.map rowV≠[]:=zAc;have hql:(l.getD j []).length=A.length:=r2 _ (by rw[AB,Aw q3];exact AR _);have hcs:=zQc l k j K q3;generalize pvC l k j K=C at*;generalize l.getD j []=q at*;have hpu:=put40_c C [q.getD k Af] C.length 1 rfl rfl (by have:=hC.c;omega) (by omega) λx hx=>by rw[hC.o x hx];omega
     have hc1:zG [q.getD k Af]=vaC (q.getD k Af):=by simp[zG]
     rw[hc1]at hpu;refine zA<|vAs<|vr 5 (aP_ (ix ↑i ↑(Aa R) (Ae (λ(l:List Rw)=>Ad (Ae rowV l) (Aa l)) R≠[])))<|vp 42 i (Ae (λ(l:List Rw)=>Ad (Ae rowV l) (Aa l)) R)<|vr 1 (0<Aa (Ag i<|Ae (λ(l:List Rw)=>Ad (Ae rowV l) (Aa l)) R))<|vsh 43 hrg<|veT<|vT ((j:Int)<↑(Aa l))<|vKB<|zB rfl<|vr 5 (aP_ (ix ↑i ↑(Aa R) (Ae (λ(l:List Rw)=>Ad (Ae rowV l) (Aa l)) R≠[])))<|vp 52 i (Ae (λ(l:List Rw)=>Ad (Ae rowV l) (Aa l)) R)<|vr 1 (0<Aa (Ag i<|Ae (λ(l:List Rw)=>Ad (Ae rowV l) (Aa l)) R))<|vsh 53 hrg<|vr 2 (ix ↑j ↑(Aa l) (Ae rowV l≠[]))<|vp 55 j (Ae rowV l)<|vr 1 (0<Aa (Ag j<|Ae rowV l))<|vsh 56 hlg<|vr 3 (ix ↑k ↑(Aa q) (zG q≠[])/\3<=Aa (Ag (k*3)<|zG q)) (vs 59 (Ay<|Aj 3<|Ag (k*3)<|zG q) (Ay<|vaC<|Az q k Af) (hd:=by simp(disch:=omega) only[zB5])<|vr 1 (aG_)<|vc hpu ?_) ⟨⟨(by omega),⟨(by omega),(by exact zE4 _)⟩⟩,(by exact zC3 _ _)⟩;refine vrT 1<|vnil<|zD<|vN<|zB rfl<|vr 3 (i6 (↑j+1))<|vnil<|zC<|⟨j+1,by omega,by omega,?_⟩;rw[hcs];refine vk 1
    obtain rfl:j=l.length:=by omega
    rw[<-hks];refine zA<|vAs<|vr 5 (aP_ (ix ↑i ↑(Aa R) (Ae (λ(l:List Rw)=>Ad (Ae rowV l) (Aa l)) R≠[])))<|vp 42 i (Ae (λ(l:List Rw)=>Ad (Ae rowV l) (Aa l)) R)<|vr 1 (0<Aa (Ag i<|Ae (λ(l:List Rw)=>Ad (Ae rowV l) (Aa l)) R))<|vsh 43 hrg<|veT<|vF ((Aa l:Int)<↑(Aa l))<|vY2<|zD<|vN<|zB rfl<|vr 3 (i6 (↑k+1))<|vnil<|zC<|⟨k+1,by omega,by omega,?_⟩;refine vk 1
   rw[if_neg hv]at hks;have hv2:(((A.getD k 0:Nat):Int)!=(v:Nat))=true:=bne_iff_ne.2 λe=>hv (by omega);refine zA<|vAs<|vr 5 (aI_ (ix ↑i ↑(Aa V) (Ae (λ(A:List Nat)=>Ad (nsD A) (Aa A)) V≠[])))<|vp 22 i (Ae (λ(A:List Nat)=>Ad (nsD A) (Aa A)) V)<|vr 1 (0<Aa (Ag i<|Ae (λ(A:List Nat)=>Ad (nsD A) (Aa A)) V))<|vsh 23 hvg<|veT<|vT ((k:Int)<↑(Aa A))<|vKB<|zA<|vA<|vr 4 (aI_ (ix ↑i ↑(Aa V) (Ae (λ(A:List Nat)=>Ad (nsD A) (Aa A)) V≠[])))<|vp 31 i (Ae (λ(A:List Nat)=>Ad (nsD A) (Aa A)) V)<|vr 1 (0<Aa (Ag i<|Ae (λ(A:List Nat)=>Ad (nsD A) (Aa A)) V))<|vsh 32 hvg<|vr 2 (ix ↑k ↑(Aa A) (nsD A≠[]))<|vp 34 k (nsD A)<|vr 1 (0<Aa (Ag k<|nsD A))<|vs 35 (A9 (Ag k<|nsD A) Uk) (iD ↑(Az A k 0)) (hd:=by simp(disch:=omega) only[zBr])<|vrT 2<|vs 37 (bD ((↑(Az A k 0):Int)!=(v:Int))) (bD Ab)<|veT<|vt<|vZ<|zB rfl<|vr 3 (i6 (↑k+1))<|vnil<|zC<|⟨k+1,by omega,by omega,?_⟩;rw[hks];refine vk 1
  obtain rfl:k=A.length:=by omega
  rw[<-hsu];refine zA<|vAs<|vr 5 (aI_ (ix ↑i ↑(Aa V) (Ae (λ(A:List Nat)=>Ad (nsD A) (Aa A)) V≠[])))<|vp 22 i (Ae (λ(A:List Nat)=>Ad (nsD A) (Aa A)) V)<|vr 1 (0<Aa (Ag i<|Ae (λ(A:List Nat)=>Ad (nsD A) (Aa A)) V))<|vsh 23 hvg<|veT<|vF ((Aa A:Int)<↑(Aa A))<|vY2<|zD<|vN<|zB rfl<|vr 3 (i6 (↑i+1))<|vnil<|zC<|⟨i+1,by omega,by omega,?_⟩;refine vk 1
 obtain rfl:i=V.length:=by omega
 have hI:=hpI V.length (AE _);generalize pvI V R v V.length=L at*;have hpl:(L.map λx=>x.getD 0 Af).length=L.length:=AN _;have hcl:∀i,i<=L.length->(zG ((L.map λx=>x.getD 0 Af).take i)).length=i*3:=λi h=>by rw[zAg,Bq,hpl,B5 h]
 refine zA<|vAs<|ve (aO_)<|vF ((Aa V:Int)<↑(Aa V))<|vZ2<|vAe<|zA<|vAe<|zJ<|zK (λ(i:Nat)=>fr 78 [(4,nl),(5,Ad (Ae rowV L)<|Aa L),(9,Ax 1 0 i (i*3) Ab),(10,iD i)]) (λ(i:Nat)=>[rfB n f P V R,vasB<|(L.map λx=>x.getD 0 Af).take i]) (λ(i:Nat)=>L.length-i) (λ(i:Nat)=>i<=L.length) 0 ?_ ?_ ?_
 ·omega
 ·refine vk 1
 intro i h1;rcases AC i L.length with h3|h3
 ·have hlg:((L.map rowV).drop i).headD .unk=rowV (L.getD i []):=zAq rowV L [] i h3;have hln:L.map rowV≠[]:=zAc;have hil:=hcl i h1;have hq1:(L.getD i []).length=1:=hI.o _ (by rw[AB,Aw h3];exact AR _);have hlc:=hI.c;have htk:vasB ((L.map λx=>x.getD 0 Af).take (i+1))=⟨zG ((L.map λx=>x.getD 0 Af).take i)++vaC ((L.getD i []).getD 0 Af),64,3,Ab,Ac, .plain⟩:=by
   rw[A7 (by omega)];show AL (zG (_++[_])) _ _ _ _ _=_;rw[zC8,List.getElem_map,show L.getD i []=L[i] by rw[AB,Aw h3];rfl];simp[zG]
  generalize L.getD i []=q at*;have h0:Aj 3 (zG q)=vaC (q.getD 0 Af):=by
   match q,hq1 with
   |[a],_=>simp[zG]
  have h03:3<=(zG q).length:=by rw[zAg,hq1];omega
  have h0n:zG q≠[]:=λe=>by rw[e]at h03;simp at h03
  refine zA<|vAu<|vT ((i:Int)<↑(Aa L))<|vKB<|zB rfl<|vr 4 (ix ↑i ↑(Aa L) (Ae rowV L≠[]))<|vp 71 i (Ae rowV L)<|vr 1 (0<Aa (Ag i<|Ae rowV L))<|vsh 72 hlg<|vr 2 (ix (0:Int) (Aa q:Int) (zG q≠[])/\3<=Aa (zG q))<|vs 74 (Ay<|Aj 3<|zG q) (Ay<|vaC<|Az q 0 Af)<|vr 3 (aN_ (Bk.arr (vasB<|Aj i<|Ae (λ(x:Rw)=>Az x 0 Af) L)=Ab/\Aa (AU<|vasB<|Aj i<|Ae (λ(x:Rw)=>Az x 0 Af) L)=i*3/\i*3=i*3/\Bk.ty (vasB<|Aj i<|Ae (λ(x:Rw)=>Az x 0 Af) L)=64/\Bk.sz (vasB<|Aj i<|Ae (λ(x:Rw)=>Az x 0 Af) L)=3/\3=3/\0<3/\0<32/\64=64/\(i+1)*32<=140737488355328/\3=3/\Ba (Bl<|vasB<|Aj i<|Ae (λ(x:Rw)=>Az x 0 Af) L)=Ac/\(Ac=Ac\/Bb (Bl<|vasB<|Aj i<|Ae (λ(x:Rw)=>Az x 0 Af) L)=Ab)))<|vnil<|zD<|vN<|zB rfl<|vr 3 (i6 (↑i+1))<|vnil<|zC<|⟨i+1,by omega,by omega,?_⟩;rw[htk];refine vk 2
 obtain rfl:i=L.length:=by omega
 rw[Bc (by omega)];have ht:=zFy (L.map λx=>x.getD 0 Af) _ hpl;refine zA<|vAu<|vF ((Aa L:Int)<↑(Aa L))<|vZ2<|vAe<|zE<|zBm (True) (Ad (Aj (Aa L*3)<|Ag 0<|AU<|vasB<|Ae (λ(x:Rw)=>Az x 0 Af) L)<|Aa L) (Ad (zG<|Ae (λ(x:Rw)=>Az x 0 Af) L)<|Aa L) (.inr rfl) (by simp(disch:=omega) only[A1,ht]) rfl
end
abbrev nxB(X:List Rw):Bk:=⟨X.map rowV,54,1,Ab,Ac, .plain⟩
def fitR(V:List (List Nat))(R:List (List Rw))(vars:List Nat)(r:Rw):Bool:=(Ak V.length).all λi=>fitA (V.getD i []) (R.getD i []) vars r
abbrev usR(V:List (List Nat))(R:List (List Rw))(v:Nat):List Va:=(pvI V R v V.length).map λx=>x.getD 0 Af
def bxR(g:Rw->Bool)(us:List Va)(x:Rw):List Rw:=(us.map λa=>x++[a]).filter g
def bgR(V:List (List Nat))(R:List (List Rw))(vars:List Nat):Nat->List Rw
 |0=>[[]]
 |i+1=>(bgR V R vars i).flatMap (bxR (fitR V R (vars.take (i+1))) (usR V R (vars.getD i 0)))
theorem bxR_len(g:Rw->Bool)(us:List Va)(x:Rw):(bxR g us x).length<=us.length:=AG (BC _ _) (by simp)
theorem zWg(g:Rw->Bool)(us:List Va):∀l:List Rw,(l.flatMap (bxR g us)).length<=l.length*us.length
 |[]=>by simp
 |x::l=>by
  have:=zWg g us l
  grind [bxR_len,Bt,BN,Nat.succ_mul]
theorem bfx_succ(g:Rw->Bool)(us:List Va)(l:List Rw)(h:k<l.length):(l.take (k+1)).flatMap (bxR g us)=(l.take k).flatMap (bxR g us)++bxR g us (l.getD k []):=by
 grind [A7,Aw]
theorem bx_succ(g:Rw->Bool)(us:List Va)(x:Rw)(h:j<us.length):bxR g (us.take (j+1)) x=bxR g (us.take j) x++if g (x++[us.getD j Af])then[x++[us.getD j Af]]else[]:=by
 grind [bxR,A7,Aw]
theorem zWf(V:List (List Nat))(R:List (List Rw))(vars:List Nat):∀i,∀x∈bgR V R vars i,x.length=i
 |0,x,h=>by rw[AY.1 h];rfl
 |i+1,x,h=>by
  obtain⟨y,hy,hx⟩:=BA.1 h;obtain⟨a,_,rfl⟩:=AJ.1 (AV.1 hx).1;rw[Bt,zWf V R vars i y hy];rfl
section
variable(n f:Int)(P:List Int)(V:List (List Nat))(R:List (List Rw))(s:Nat)
set_option maxHeartbeats 4000000 in
theorem bag40_c(hVR:V.length=R.length)(lV:V.length<=5)(hA:∀i,i<V.length->(V.getD i []).length<=8/\∀v∈V.getD i [],v<32)(hR:∀i,i<V.length->(R.getD i []).length<=10/\∀q∈R.getD i [],q.length=(V.getD i []).length)
  (hs:s<4294967296)(hb:∀i,i<(zAf s).length->(bgR V R (zAf s) i).length<=1000000000)(h0:0<(zAf s).length):
  Pure Ai 104 [.agg (rfD n f P V R),u32D s] [] (.row ((bgR V R (zAf s) (zAf s).length).map rowV) (bgR V R (zAf s) (zAf s).length).length):=by
 have hl:=zYb s hs;have hm32:∀v∈zAf s,v<32:=λv hv=>AQ.1 (AV.1 hv).1;have hml:(zAf s).length<=32:=AG (BC _ _) (by simp);generalize zAf s=vars at*;have hvl:=zZo n f P V R;have hvn:nsD vars≠[]:=zAc (h:=h0);refine zF zAx mixed Tryz.func104 rfl<|vAu<|vA<|vrT 1<|vc (hl)<|veT<|vA<|vr 3 (aH_)<|vnil<|zC<|vnn (fr 75 [(2,Ar 0 0),(4,nl),(5,Ad (nsD vars)<|Aa vars),(6,Ax 2 0 1 1 Ab),(15,Ax 1 0 0 0 Ab),(16,Ax 2 0 1 1 Ab)]) [AL [iD n,iD f,Ad (Ae (λ(z:Int)=>iD z) P)<|Aa P,Ad (Ae (λ(A:List Nat)=>Ad (nsD A) (Aa A)) V)<|Aa V,Ad (Ae (λ(l:List Rw)=>Ad (Ae rowV l) (Aa l)) R)<|Aa R] 68 0 Ac Ac AD,AL [] 64 3 Ab Ab AD,AL [Ad [] 0] 54 1 Ab Ac AD]<|zB2 (Weak.frzSlot (s:=6) (d:= .osl 2 0 1 1 Ab) (x:= .row [.row [] 0] 1) (ks:=[2]) (by kernel_rfl) (by kernel_rfl)) ?_;refine zA<|vAu<|zJ<|zK (λ(i:Nat)=>fr 75 [(2,Ar 0 0),(4,nl),(5,(q14_ vars)),(6,Ad (Ae rowV<|bgR V R vars i)<|Aa<|bgR V R vars i),(7,iD i)]) (λ(i:Nat)=>[rfB n f P V R]) (λ(i:Nat)=>vars.length-i) (λ(i:Nat)=>i<=vars.length) 0 ?_ ?_ ?_
 ·omega
 ·refine vk 1
 intro i h1;rcases AC i vars.length with h3|h3
 ·have hout:=hb i h3;have hxl:=zWf V R vars i;have hbs:bgR V R vars (i+1)=(bgR V R vars i).flatMap (bxR (fitR V R (vars.take (i+1))) (usR V R (vars.getD i 0))):=rfl;generalize bgR V R vars i=O at*;have hval:Pure Ai 129 [.agg (rfD n f P V R),iD (vars.getD i 0:Nat)] [] (.row (zG (usR V R (vars.getD i 0))) (usR V R (vars.getD i 0)).length):=by
   grind
  have hvc:(usR V R (vars.getD i 0)).length<=80*V.length:=by
   rw[AN];exact(zXn V R (vars.getD i 0) (λi h=>(hA i h).1) (λi h=>(hR i h).1) V.length (AE _)).c
  generalize usR V R (vars.getD i 0)=us at*;have htv:(vars.take (i+1)).length=i+1:=by rw[Bq];omega
  have hfit:∀r:Rw,r.length=i+1->Pure Ai 130 [.agg (rfD n f P V R), .row (zG r) (i+1), .row ((nsD vars).take (i+1)) (i+1)] [] (bD (fitR V R (vars.take (i+1)) r)):=λr hr=>by
   have h:=zYt n f P V R (vars.take (i+1)) r (i+1) hVR htv hr (by omega) (λv hv=>hm32 v (BF hv)) (by omega) (λA hA'=>by
    obtain⟨j,hj,rfl⟩:=List.mem_iff_getElem.1 hA'
    have:=hA j hj
    rw[AB,Aw hj]at this;exact⟨by have:=this.1;simp only[B_]at this;omega,this.2⟩) λj hj=>⟨by have:=(hR j hj).1;omega,(hR j hj).2⟩
   rw[show(nsD vars).take (i+1)=nsD (vars.take (i+1))from CJ.symm];exact h
  generalize fitR V R (vars.take (i+1))=g at*;refine zA<|vAu<|vT ((i:Int)<↑(Aa vars))<|vKB<|vAe<|zA<|vd [1,2,3,0,4,5,6]<|vr 3 (ix ↑i ↑(Aa vars) (nsD vars≠[]))<|vp 26 i (nsD vars)<|vr 2 (5<=5/\0<Aa (Ag i<|nsD vars))<|vs 27 (A9 (Ag i<|nsD vars) Uk) (iD ↑(Az vars i 0)) (hd:=by simp(disch:=omega) only[zBr])<|vc hval<|veT<|zA<|vAe<|zJ<|zB4 (λ(k:Nat)(X:List Rw)=>fr 75 [(2,Ar 0 0),(4,nl),(5,Ad (nsD vars)<|Aa vars),(6,Ad (Ae rowV O)<|Aa O),(7,iD i),(8,Ax 1 0 (Aa X) (Aa X) Ab),(9,Ad (zG us)<|Aa us),(10,iD k)]) (λ(k:Nat)(X:List Rw)=>[rfB n f P V R,nxB X]) (λ(k:Nat)(X:List Rw)=>O.length-k) (λ(k:Nat)(X:List Rw)=>k<=O.length/\X=(O.take k).flatMap (bxR g us)) 0 [] ?_ ?_ ?_
  ·grind
  ·refine vk 1
  rintro k X ⟨k1,k2⟩;rcases AC k O.length with k3|k3
  ·have hXl:X.length<=O.length*us.length:=by
    rw[k2];exact AG (zWg g us _) (BO _ (by rw[Bq];omega))
   have hXb:X.length<=400000000000:=by
    have:O.length*us.length<=1000000000*400:=Cp hout (by omega);omega
   have hOn:O.map rowV≠[]:=zAc;have hxg:((O.map rowV).drop k).headD .unk=rowV (O.getD k []):=zAq rowV O [] k k3;have hxk:(O.getD k []).length=i:=hxl _ (by rw[AB,Aw k3];exact AR _);have hks:=bfx_succ g us O k3;rw[<-k2]at hks;generalize O.getD k []=x at*;refine zA<|vAu<|vT ((k:Int)<↑(Aa O))<|vKB<|vAe<|zJ<|zB4 (λ(j:Nat)(Y:List Rw)=>fr 75 [(2,Ar 0 0),(4,nl),(5,(q14_ vars)),(6,Ad (Ae rowV O)<|Aa O),(7,iD i),(8,Ax 1 0 (Aa Y) (Aa Y) Ab),(9,(q3_ us)),(10,iD k),(11,iD j)]) (λ(j:Nat)(Y:List Rw)=>[rfB n f P V R,nxB Y]) (λ(j:Nat)(Y:List Rw)=>us.length-j) (λ(j:Nat)(Y:List Rw)=>j<=us.length/\Y=X++bxR g (us.take j) x) 0 X ?_ ?_ ?_
   ·grind [bxR]
   ·refine vk 2
   rintro j Y ⟨j1,j2⟩;rcases AC j us.length with j3|j3
   ·have hYb:Y.length<=500000000000:=by
     grind [bxR_len,Bq,Bt]
    have hus:=bx_succ g us x j3;have hun:zG us≠[]:=λe=>by have:=zAg us;rw[e]at this;simp at this;omega
    have hva:=zB5 us j j3;generalize us.getD j Af=a at*;have hft:Pure Ai 130 [.agg (rfD n f P V R), .row (zG (x++[a])) (x.length+1), .row ((nsD vars).take (i+1)) (i+1)] [] (bD (g (x++[a]))):=by
     grind
    have hcl:=zAg x;have hcx:Aj ((x.length+1)*3) (zG x++vaC a)=zG (x++[a]):=by
     rw[zC8,show vaC a=zG [a] by simp[zG]];exact Bc (by rw[Bt,zAg,zAg];simp;omega)
    have htn:((i:Int)+1).toNat=i+1:=by omega
    have hc0:(zG x).length=(0+x.length)*3:=by rw[hcl,Nat.zero_add]
    focus
     refine zA<|vAu<|vT ((j:Int)<↑(Aa us))<|vKB<|zA<|zA6 [1,2,3,6,7,8,0,4,9,10] [(5,[(9,100000),(10,3)],[11,12])] rfl ?_;refine vr 3 (ix ↑k ↑(Aa O) (Ae rowV O≠[]))<|vp 44 k (Ae rowV O)<|vr 5 (ix ↑j ↑(Aa us) (zG us≠[])/\(aQ_)/\0<Aa (Ag k<|Ae rowV O))<|vsh 45 hxg<|vr 1 (3<=Aa (Ag (j*3)<|zG us)) (vs 50 (Ay<|Aj 3<|Ag (j*3)<|zG us) (Ay<|vaC a)<|vr 1 (aG_)<|vnil<|zBy rfl rfl<|vr 1 (Ab=Ab/\0=0/\0=0/\64=64/\3=3/\Aa (zG x)=Aa x*3/\0<3/\0<32/\64=64/\(0+Aa x)*32<=140737488355328/\3=3/\Ac=Ac/\(Ac=Ac\/Ac=Ab))<|vnil ?_) (by exact zC3 us j (h:=j3));refine zEg (C:=3<=Aa (Ag (j*3) (zG us))/\AA (Ay (vaC a))=AA ((q7_ j us))/\((3=3/\3<=3/\True)/\0<3/\3=3/\3<=16777216/\1<=9223372036854775807)/\AA (Ax 3 0 1 3 Ab)=AA (Ax 3 0 1 3 Ab)/\eqDL [iD (A5 a),iD (A6 a),Al (Bn (bs (A2 a)))] (setAt [iD 0,iD 0,q5_] 0 [iD (A5 a),iD (A6 a),Al (Bn (bs (A2 a)))])/\64=64/\3=3/\Ab=Ab/\AD=AD) ⟨(by exact zC3 us j (h:=j3)),(by exact Eq.trans (b:=AA (Ay (vaC a))) (by kernel_rfl) (congrArg (λl=>AA (Ay l)) hva.symm)),⟨⟨(by kernel_rfl),⟨(by omega),trivial⟩⟩,(by omega)⟩,(by kernel_rfl),rfl,(by kernel_rfl),(by kernel_rfl),(by kernel_rfl),(by kernel_rfl)⟩ ?_;refine vr 2 (Ab=Ab/\Aa (zG x)=(0+Aa x)*3/\(0+Aa x)*3=(0+Aa x)*3/\64=64/\3=3/\3=3/\0<3/\0<32/\64=64/\(0+Aa x+1)*32<=140737488355328/\3=3/\Ba AD=Ac/\(Ac=Ac\/Bb AD=Ab))<|vs 12 (Ax 2 0 (0+Aa x+1) ((0+Aa x+1)*3) Ab) (Ax 2 0 (Aa x+1) ((Aa x+1)*3) Ab)<|vnil<|zBv<|vN<|zA<|vd [1,2,3,4,5,0,6]<|vr 5 (i6 (↑i+1)/\True/\(0:Int)<=(i:Int)+(1:Int)/\True/\0<1/\0<=Ap ((i:Int)+(1:Int))/\Ap ((i:Int)+(1:Int))<=Aa vars/\Ap ((i:Int)+(1:Int))=Ap ((i:Int)+(1:Int)))<|vs 58 (Ad (Aj ((Ap ((i:Int)+(1:Int))-0)*1)<|Ag 0<|nsD vars) (Ap ((i:Int)+(1:Int))-0)) (Ad (Aj (i+1)<|nsD vars) (i+1))<|vr 1 (5<=5)<|vcl [Ay [iD n,iD f,Ad (Ae (λ(z:Int)=>iD z) P)<|Aa P,Ad (Ae (λ(A:List Nat)=>Ad (nsD A) (Aa A)) V)<|Aa V,Ad (Ae (λ(l:List Rw)=>Ad (Ae rowV l) (Aa l)) R)<|Aa R],Ad (Aj ((Aa x+1)*3)<|Ag 0 (zG x++[iD<|A5 a,iD<|A6 a,Al<|Bn<|bs<|A2 a])) (Aa x+1),Ad (Aj (i+1)<|nsD vars) (i+1)] [Ay [iD n,iD f,Ad (Ae (λ(z:Int)=>iD z) P)<|Aa P,Ad (Ae (λ(A:List Nat)=>Ad (nsD A) (Aa A)) V)<|Aa V,Ad (Ae (λ(l:List Rw)=>Ad (Ae rowV l) (Aa l)) R)<|Aa R],Ad (zG (x++[a])) (Aa x+1),Ad (Aj (i+1)<|nsD vars) (i+1)] (LeL.of_eq (by simp(disch:=omega) only[A1,hcx])) (by exact hft) ?_;refine veT<|zA5 (t:=g (x++[a])) (by kernel_rfl) (λhc=>?_)<|λhc=>?_;refine zB rfl<|vr 3 (aJ_)<|vb 4 (AL [Ad (Aj ((Aa x+1)*3)<|Ag 0 (zG x++[iD<|A5 a,iD<|A6 a,Al<|Bn<|bs<|A2 a])) (Aa x+1)] 54 1 Ab Ac AD) (AL [Ad (zG (x++[a])) (Aa x+1)] 54 1 Ab Ac AD) (hd:=by simp(disch:=omega) only[A1,hcx])<|vr 2 (Ab=Ab/\Aa (Ae rowV Y)=Aa Y*1/\Aa Y=Aa Y*1/\54=54/\1=1/\1=1/\0<1/\0<24/\54=54/\(Aa Y+1)*24<=140737488355328/\1=1/\Ba AD=Ac/\(Ac=Ac\/Bb AD=Ab))<|vs 8 (Ax 1 0 (Aa Y+1) ((Aa Y+1)*1) Ab) (Ax 1 0 (Aa Y+1) (Aa Y+1) Ab)<|vnil<|zD<|vN<|zB rfl<|vr 3 (i6 (↑j+1))<|vnil<|zC ?_;rotate_left;refine zT<|zD<|vN<|zB rfl<|vr 3 (i6 (↑j+1))<|vnil<|zC ?_;rotate_left
    ·rw[if_pos hc]at hus;refine⟨j+1,Y++[x++[a]],⟨by omega,by rw[hus,j2,CK]⟩,by omega,?_⟩;have e1:nxB (Y++[x++[a]])=⟨Y.map rowV++[.row (zG (x++[a])) (x.length+1)],54,1,Ab,Ac, .plain⟩:=by
      simp_all
     rw[e1,show(Y++[x++[a]]).length=Y.length+1 by simp];refine vk 2
    rw[if_neg (by simpa using hc),BR]at hus;refine⟨j+1,Y,⟨by omega,by rw[hus,j2]⟩,by omega,?_⟩;refine vk 2
   rw[Bc j3,<-hks]at j2;refine zA<|vAu<|vF ((j:Int)<↑(Aa us))<|vY2<|zD<|vN<|zB rfl<|vr 3 (i6 (↑k+1))<|vnil<|zC<|⟨k+1,Y,⟨by omega,j2⟩,by omega,?_⟩;refine vk 2
  rw[Bc k3,<-hbs]at k2;have hXt:(X.map rowV).take X.length=X.map rowV:=Bc (by simp);refine zA<|vAu<|vF ((k:Int)<↑(Aa O))<|vZ2<|zB rfl<|vrT 2<|vnil<|zD<|vN<|zB rfl<|vr 3 (i6 (↑i+1))<|vnil<|zC<|⟨i+1,by omega,by omega,(Weak.frzSlot (s:=6) (d:= .osl 1 0 X.length X.length Ab) (x:= .row (X.map rowV) X.length) (ks:=[1]) (by kernel_rfl) (Eq.trans (b:=AA (Ad ((X.map rowV).take X.length) X.length,[1])) (by kernel_rfl) (by rw[hXt]))).trans ?_⟩;rw[<-k2];refine vk 1
 obtain rfl:i=vars.length:=by omega
 have hne:((vars.length:Nat):Int)≠0:=by omega
 refine zA<|vAu<|vF ((Aa vars:Int)<↑(Aa vars))<|vZ2<|zA<|vA<|vew [] [(3,Ac)] (True/\((Aa vars:Int)==(0:Int))=Ac) (vf<|vK<|vAe<|zE<|vret (True)<|.inr rfl) ⟨trivial,(by exact decide_eq_false (by omega))⟩
set_option maxHeartbeats 2000000 in
theorem bag0_c(hVR:V.length=R.length)(lV:V.length<=5)(hA:∀i,i<V.length->(V.getD i []).length<=8/\∀v∈V.getD i [],v<32)(hR:∀i,i<V.length->(R.getD i []).length<=10/\∀q∈R.getD i [],q.length=(V.getD i []).length):
  Pure Ai 104 [.agg (rfD n f P V R),u32D (0:Nat)] [] (.row (if fitR V R [] []then[.row [] 0]else[]) (if fitR V R [] []then 1 else 0)):=by
 have hl:=zYb 0 (by omega);rw[show zAf 0=[] by decide]at hl;have h:=zYt n f P V R [] [] 0 hVR rfl rfl (by omega) (λv hv=>by cases hv) (by omega) (λA hA'=>by
  obtain⟨j,hj,rfl⟩:=List.mem_iff_getElem.1 hA'
  have:=hA j hj
  rw[AB,Aw hj]at this;exact⟨by have:=this.1;simp only[B_]at this;omega,this.2⟩) λj hj=>⟨by have:=(hR j hj).1;omega,(hR j hj).2⟩
 have hf:Pure Ai 130 [.agg (rfD n f P V R), .row [] 0, .row [] 0] [] (bD (fitR V R [] [])):=h;clear h;generalize fitR V R [] []=b at hf⊢;refine zF zAx mixed Tryz.func104 rfl ?_;cases b
 ·refine vAu<|vA<|vrT 1<|vc (hl)<|veT<|vA<|ve (aH_)<|zA<|vAe<|zJ<|zPm<|zA<|vAe<|vf<|vZ2<|zA<|vA<|vr 6 (aS_)<|vcl [Ay [iD n,iD f,Ad (Ae (λ(z:Int)=>iD z) P)<|Aa P,Ad (Ae (λ(A:List Nat)=>Ad (nsD A) (Aa A)) V)<|Aa V,Ad (Ae (λ(l:List Rw)=>Ad (Ae rowV l) (Aa l)) R)<|Aa R],Ad [] 0,nl] [Ay [iD n,iD f,Ad (Ae (λ(z:Int)=>iD z) P)<|Aa P,Ad (Ae (λ(A:List Nat)=>Ad (nsD A) (Aa A)) V)<|Aa V,Ad (Ae (λ(l:List Rw)=>Ad (Ae rowV l) (Aa l)) R)<|Aa R],Ad [] 0,Ad [] 0] (LeL.trans (BU _)<|BY (LeD.refl _)<|BY (LeD.refl _)<|BY Cm LeL.nil) (by exact hf)<|veT<|vt<|vAe<|zE<|zH<|vret (True)<|.inr rfl
 refine vAu<|vA<|vrT 1<|vc (hl)<|veT<|vA<|ve (aH_)<|zA<|vAe<|zJ<|zPm<|zA<|vAe<|vf<|vZ2<|zA<|vA<|vr 6 (aS_)<|vcl [Ay [iD n,iD f,Ad (Ae (λ(z:Int)=>iD z) P)<|Aa P,Ad (Ae (λ(A:List Nat)=>Ad (nsD A) (Aa A)) V)<|Aa V,Ad (Ae (λ(l:List Rw)=>Ad (Ae rowV l) (Aa l)) R)<|Aa R],Ad [] 0,nl] [Ay [iD n,iD f,Ad (Ae (λ(z:Int)=>iD z) P)<|Aa P,Ad (Ae (λ(A:List Nat)=>Ad (nsD A) (Aa A)) V)<|Aa V,Ad (Ae (λ(l:List Rw)=>Ad (Ae rowV l) (Aa l)) R)<|Aa R],Ad [] 0,Ad [] 0] (LeL.trans (BU _)<|BY (LeD.refl _)<|BY (LeD.refl _)<|BY Cm LeL.nil) (by exact hf)<|veT<|vf<|vK<|vAe<|zE<|vret (True)<|.inr rfl
end
theorem all_set:∀n:Fin 32,Ah.wrap (Ah.wrap (1*2^min (n:Nat) 32)-1)=((2^(n:Nat)-1:Nat):Int):=by decide+kernel
section
variable(n f:Nat)(P:List Int)(V:List (List Nat))(R:List (List Rw))(J:List Rw)
theorem join40_c(hn:n<=31)(hJ:Pure Ai 104 [.agg (rfD n f P V R),u32D (2^n-1:Nat)] [] (.row (J.map rowV) J.length)):
  Pure Ai 63 [.agg (rfD n f P V R)] [] (.row (J.map rowV) J.length):=by
 have hw:=all_set ⟨n,by omega⟩;simp only at hw;refine zF zAx mixed Tryz.func63 rfl<|vAu<|vA<|vw 6 [8] [] (5<=5/\True/\0<5/\u6 (n:Int)/\(0:Int)<=(n:Int)/\True)<|vs 8 (Al<|Aq Ah<|AH Ah (AH Ah ((1:Int)*(2:Int)^min n 32)-(1:Int))) (dig ((2:Nat)^n-1))<|vc (hJ)<|veT<|zE<|vret (True)<|.inr rfl
def ansR(f:Nat)(J:List Rw)(i:Nat):List Rw:=(J.take i).foldl (λL x=>putR L (x.take f)) []
theorem zTl(f:Nat)(J:List Rw)(h:i<J.length):ansR f J (i+1)=putR (ansR f J i) ((J.getD i []).take f):=by
 grind [ansR,A7,Aw]
theorem zWm(f:Nat)(J:List Rw):∀i,i<=J.length->Rsc (ansR f J i)/\(ansR f J i).length<=i/\(∀x,x∈ansR f J i↔∃y∈J.take i,x=y.take f)
 |0,_=>⟨Cv.nil,AE _,λx=>⟨λh=>(by cases h),λ⟨y,h,_⟩=>(by cases h)⟩⟩
 | i+1,hi=>by
  obtain⟨h1,h2,h3⟩:=zWm f J i (by omega);rw[zTl f J hi];refine⟨put_rsc _ h1,AG (zQd _ _) (by omega),λx=>?_⟩;rw[zT9,h3,A7 hi,AB,Aw hi];constructor
  ·rintro(h|⟨y,hy,e⟩)
   ·exact⟨_,List.mem_append_right _ (AY.2 rfl),h⟩
   exact⟨y,A3 _ hy,e⟩
  rintro⟨y,hy,e⟩;rcases A0.1 hy with hy|hy
  ·exact .inr ⟨y,hy,e⟩
  rw[AY.1 hy]at e;exact .inl e
set_option maxHeartbeats 2000000 in
theorem zWl(hf:f<=n)(hn:n<=31)(hJl:∀x∈J,x.length=n)(hJb:J.length<=500000000000)(hJ:Pure Ai 63 [.agg (rfD n f P V R)] [] (.row (J.map rowV) J.length)):
  Pure Ai 24 [.agg (rfD n f P V R), .val (.slice AT 0 0)] [] (.row ((ansR f J J.length).map rowV) (ansR f J J.length).length):=by
 refine zF zAx mixed Tryz.func24 rfl<|vAu<|vAe<|vA<|vr 1 (5<=5)<|vc (hJ)<|veT<|zA<|vAe<|zJ<|zK (λ(i:Nat)=>fr 27 [(1,nl),(2,Ar 0 0),(4,nl),(5,Ad (Ae rowV<|ansR f J i)<|Aa<|ansR f J i),(6,Ad (Ae rowV J)<|Aa J),(7,iD (i:Int))]) (λ(i:Nat)=>[rfB n f P V R]) (λ(i:Nat)=>J.length-i) (λ(i:Nat)=>i<=J.length) 0 ?_ ?_ ?_
 ·omega
 ·refine vk 1
 intro i h1;obtain⟨g1,g2,g3⟩:=zWm f J i h1;rcases AC i J.length with h3|h3
 ·have hs:=zTl f J h3;have hJn:J.map rowV≠[]:=zAc;have hJg:((J.map rowV).drop i).headD .unk=rowV (J.getD i []):=zAq rowV J [] i h3;have hxl:=hJl (J.getD i []) (by rw[AB,Aw h3];exact AR _);have hL:∀x∈ansR f J i,x.length<=1000000:=λx hx=>by
   grind
  generalize ansR f J i=L at*;generalize J.getD i []=x at*;have hpu:=put40_c L (x.take f) L.length f rfl (by rw[Bq];omega) (by omega) (by omega) hL;have hct:zG (x.take f)=(zG x).take (f*3):=(zWb x f).symm;rw[hct]at hpu;have htn:((f:Nat):Int).toNat=f:=AX f;have hcr:rowV x= .row (zG x) n:=by rw[<-hxl]
  refine zA<|vAu<|vT ((i:Int)<↑(Aa J))<|vKB<|vd [0,1,2,3,5,8,4,6,7,9,10]<|vr 4 (ix ↑i ↑(Aa J) (Ae rowV J≠[]))<|vp 19 i (Ae rowV J)<|vr 3 (True/\0<Aa (Ag i<|Ae rowV J))<|vs 20 (A9 (Ag i<|Ae rowV J) Uk) (Ad (zG x) n)<|vr 2 (0<4/\True/\(0:Int)<=(f:Int)/\True/\0<3/\0<=Ap (f:Int)/\Ap (f:Int)<=n/\Ap (f:Int)=Ap (f:Int))<|vc hpu<|vrT 1<|vnil<|zD<|vN<|zB rfl<|vr 3 (i6 (↑i+1))<|vnil<|zC<|⟨i+1,by omega,by omega,?_⟩;rw[hs];refine vk 1
 obtain rfl:i=J.length:=by omega
 refine zA<|vAu<|vF ((Aa J:Int)<↑(Aa J))<|vZ2<|vAe<|zE<|vret (True)<|.inr rfl
end
abbrev rfC(c:Cs):List D:=[iD c.n,iD c.f,zBn c.P, .row (c.V.map zBn) c.V.length, .row (c.R.map zCn) c.R.length]
theorem ref_c(c:Cs):Pure Ai 25 [.agg (csC c)] [] (.agg (rfC c)):=by
 refine zF zAx mixed Tryz.func25 rfl<|vAu<|vA<|ve (True/\0<6/\True/\0<5/\True/\0<3/\True/\0<2/\True/\0<1/\((1=1/\1<=5/\1=1/\2<=5/\1=1/\3<=5/\1=1/\4<=5/\1=1/\5<=5/\True)/\Ab=Ab)/\Ac=Ac/\Ab=Ab/\5=5/\5<=5)<|zE<|vret (5<=5)<|.inr rfl
section
variable(c:Cs)(r:Rw)(m:Nat)(ats:List At)
set_option maxHeartbeats 4000000 in
theorem answersNo(b ok:Bool)(hno:b=Ac\/ok=Ac\/(m:Int)≠c.f)
  (h1:Pure Ai 20 [.agg (csC c)] [] (.tup [inpD c.n c.f c.desc c.P ats,bD ok]))
  (h2:Pure Ai 13 [.agg (csC c)] [] (bD b)):Pure Ai 4 [.agg (csC c), .row (zG r) m] [] (bD Ab):=by
 refine zF zAx mixed Tryz.func4 rfl ?_;cases b
 ·refine vAu<|zA<|vA<|vc (zRa)<|veT<|vf<|vK<|vA<|vr 1 (6<=6)<|vc (h1)<|ve (aL_)<|zA<|vA<|vr 1 (6<=6)<|vc (h2)<|veT<|vt<|vAe<|zE<|zH<|vret (True)<|.inr rfl
 cases ok
 ·refine vAu<|zA<|vA<|vc (zRa)<|veT<|vf<|vK<|vA<|vr 1 (6<=6)<|vc (h1)<|ve (aL_)<|zA<|vA<|vr 1 (6<=6)<|vc (h2)<|veT<|vt<|vAe<|zE<|zH<|vret (True)<|.inr rfl
 have h3:((m:Nat):Int)≠c.f:=by simpa using hno
 refine vAu<|zA<|vA<|vc zRa<|veT<|vf<|vK<|vA<|vr 1 (6<=6)<|vc h1<|ve (aL_)<|zA<|vA<|vr 1 (6<=6)<|vc h2<|ve (True/\0<5/\True)<|zFv (t:=(m:Int)!=Cs.f c) (by kernel_rfl) (by simpa using by omega)<|vAe<|zE<|zH<|vret (True)<|.inr rfl
variable(L:List Bg)(U:Nat->List Bu)(tot z:Nat)(s1:Int)(dd is has:Nat->Bool)(tt:Nat->WT)(ky:Nat->List Va)(wg:Nat->Nat)(An:List Rw)
set_option maxHeartbeats 8000000 in
theorem answersW(hm:(m:Int)=c.f)(hr:r.length=m)(hm6:m<=6)
  (h1:Pure Ai 20 [.agg (csC c)] [] (.tup [inpD c.n c.f c.desc c.P ats,bD Ab]))
  (h2:Pure Ai 13 [.agg (csC c)] [] (bD Ab))
  (hB:Pure Ai 15 [inpD c.n c.f c.desc c.P ats] [] (.tup [ixD c.desc L U tot,iD s1,iD 0]))
  (hT:Pure Ai 19 [ixD c.desc L U tot] [] (natD tot))
  (hz:Pure Ai 18 [natD tot] [] (iD (z:Nat)))
  (hv:∀v,v<m->Pure Ai 22 [ixD c.desc L U tot,iD (v:Nat), .row (zG r) m] [] (.row (zG (ky v)) (ky v).length)/\
   Pure Ai 21 [ixD c.desc L U tot,iD (v:Nat), .row (zG (ky v)) (ky v).length] [] (.tup [zGz (dd v) (tt v),bD (is v)])/\
   Pure Ai 23 [zGz (dd v) (tt v),vaD (r.getD v Af)] [] (.tup [natD (wg v),bD (has v)]))
  (hA:Pure Ai 24 [.agg (rfC c), .val (.slice AT 0 0)] [] (.row (An.map rowV) An.length))
  (hAl:∀x∈An,x.length=m)(hAb:An.length<=500000000000)
  (heq:(decide (0<z)&&(Ak m).all λv=>is v&&has v)=decide (r∈An)):Pure Ai 4 [.agg (csC c), .row (zG r) m] [] (bD Ab):=by
 have hrf:=ref_c c;have hzd:decide ((z:Int)>0)=decide (0<z):=decide_eq_decide.2 (by omega);have hall:∀i,i<=m->((Ak i).all λv=>is v&&has v)=Ac->((Ak m).all λv=>is v&&has v)=false:=λi hi h=>by
  rw[CL]at h⊢;intro hh;exact h (Bi.2 λv hv=>Bi.1 hh v (AQ.2 (by have:=AQ.1 hv;omega)))
 refine zF zAx mixed Tryz.func4 rfl<|vAu<|zA<|vA<|vc (zRa)<|veT<|vf<|vK<|vA<|vr 1 (6<=6)<|vc (h1)<|ve (aL_)<|zA<|vA<|vr 1 (6<=6)<|vc (h2)<|ve (True/\0<5/\True)<|zEz (t:=(m:Int)!=Cs.f c) (by kernel_rfl) (by simpa using by omega)<|vK<|vA<|vr 1 (5<=5)<|vc (hB)<|ve (aV_)<|vA<|vr 1 (5<=5)<|vc (hT)<|vc (hz)<|vrT 1<|vs 49 (bD<|decide ((z:Int)>(0:Int))) (bD<|decide (0<z))<|veT<|zA<|vAe<|zJ<|zB4 (λ(i:Nat)(o:Bool)=>fr 107 [(1,Ad (zG r) m),(2,Ar 0 0),(4,bD Ac),(7,Ar 2 0),(9,iD 0),(10,bD o),(11,iD (i:Int))]) (λ(i:Nat)(o:Bool)=>[csB c,inpK c<|.row (ats.flatMap atC) ats.length,⟨[.row (c.desc.map bD) c.desc.length,.row (L.flatMap bgC) L.length,.row (fA c.desc.length λc=>busD (U c)) c.desc.length,.row (fA c.desc.length λc=>zB9 (U c)) c.desc.length,natD tot],46,0,Ac,Ac,.plain⟩]) (λ(i:Nat)(o:Bool)=>m-i) (λ(i:Nat)(o:Bool)=>i<=m/\o=(decide (0<z)&&(Ak i).all λv=>is v&&has v)) 0 (decide (0<z)) ?_ ?_ ?_
 ·grind
 ·refine vk 3
 rintro i o ⟨h3,h4⟩;by_cases hcont:i<m/\o=Ab
 ·obtain⟨h5,rfl⟩:=hcont;have hs:(decide (0<z)&&(Ak (i+1)).all λv=>is v&&has v)=(is i&&has i):=by
   simp_all [Bp,List.all_append,Bool.and_assoc]
  obtain⟨k1,k2,k3⟩:=hv i h5;have hva:=zB5 r i (by omega);have hvn:=zE4 r;have hv3:=zC3 r i;generalize r.getD i Af=a at*;generalize is i=p at*;generalize has i=q at*;generalize ky i=kk at*;cases p
  ·refine zA<|vAs<|vew [] [(4,Ab)] (True/\0<5/\decide ((i:Int)<Cs.f c)=Ab)<|vt<|vKB<|zA<|vd [1,3,4,0,2,5,6,7,8,9,10,11,12]<|vr 5 (a6_)<|vc (k1)<|vc (k2)<|ve (aM_)<|zA<|vd [1,2,3,0,4,5,6,7,8,9,10]<|vr 5 (ix (i:Int) (m:Int) (zG r≠[])/\2<=2/\3<=Aa (Ag (i*3)<|zG r))<|vs 74 (Ay<|Aj 3<|Ag (i*3)<|zG r) (Ay<|vaC a)<|vc (k3)<|ve (a4_)<|zB rfl<|vrT 5<|vnil<|zD<|vN<|zB rfl<|vr 3 (i6 ((i:Int)+(1:Int)))<|vnil<|zC<|⟨i+1,Ac,⟨by omega,hs.symm⟩,by omega,?_⟩;refine vk 3
  cases q
  ·refine zA<|vAs<|vew [] [(4,Ab)] (True/\0<5/\decide ((i:Int)<Cs.f c)=Ab)<|vt<|vKB<|zA<|vd [1,3,4,0,2,5,6,7,8,9,10,11,12]<|vr 5 (a6_)<|vc (k1)<|vc (k2)<|ve (aM_)<|zA<|vd [1,2,3,0,4,5,6,7,8,9,10]<|vr 5 (ix (i:Int) (m:Int) (zG r≠[])/\2<=2/\3<=Aa (Ag (i*3)<|zG r))<|vs 74 (Ay<|Aj 3<|Ag (i*3)<|zG r) (Ay<|vaC a)<|vc (k3)<|ve (a4_)<|zB rfl<|vrT 5<|vnil<|zD<|vN<|zB rfl<|vr 3 (i6 ((i:Int)+(1:Int)))<|vnil<|zC<|⟨i+1,Ac,⟨by omega,hs.symm⟩,by omega,?_⟩;refine vk 3
  refine zA<|vAs<|vew [] [(4,Ab)] (True/\0<5/\decide ((i:Int)<Cs.f c)=Ab)<|vt<|vKB<|zA<|vd [1,3,4,0,2,5,6,7,8,9,10,11,12]<|vr 5 (a6_)<|vc (k1)<|vc (k2)<|ve (aM_)<|zA<|vd [1,2,3,0,4,5,6,7,8,9,10]<|vr 5 (ix (i:Int) (m:Int) (zG r≠[])/\2<=2/\3<=Aa (Ag (i*3)<|zG r))<|vs 74 (Ay<|Aj 3<|Ag (i*3)<|zG r) (Ay<|vaC a)<|vc (k3)<|ve (a4_)<|zB rfl<|vrT 5<|vnil<|zD<|vN<|zB rfl<|vr 3 (i6 ((i:Int)+(1:Int)))<|vnil<|zC<|⟨i+1,Ab,⟨by omega,hs.symm⟩,by omega,?_⟩;refine vk 3
 have ho:o=decide (r∈An):=by
  rw[<-heq];grind
 have hstep:∀k,k<An.length->decide (r∈An.take (k+1))=(decide (r∈An.take k)||decide (An.getD k []=r)):=λk hk=>by
  rw[A7 hk,AB,Aw hk,<-Bool.decide_or];refine decide_eq_decide.2 ?_;rw[A0,AY];exact or_congr Iff.rfl eq_comm
 have hAg:∀k,k<An.length->((An.map rowV).drop k).headD .unk= .row (zG (An.getD k [])) m:=λk hk=>by
  simp_all
 have hsm:∀k,k<An.length->Pure Ai 26 [.row (zG (An.getD k [])) m, .row (zG r) m] [] (bD (decide (An.getD k []=r))):=λk hk=>zRe _ r m m (hAl _ (by rw[AB,Aw hk];exact AR _)) hr (by omega) (by omega);clear heq h4 hall hv;by_cases h5:i<m
 ·obtain rfl:o=false:=CL.2 λe=>hcont ⟨h5,e⟩;refine zA<|vAs<|vew [] [(4,Ab)] (True/\0<5/\decide ((i:Int)<Cs.f c)=Ab)<|vf<|vZ2<|vAe<|vA<|vr 1 (6<=6)<|vc hrf<|vc hA<|veT<|zA<|vAe<|zJ<|zK (λ(k:Nat)=>fr 107 [(1,Ad (zG r) m),(4,bD Ac),(9,iD 0),(10,bD Ac),(16,bD<|decide (r∈Aj k An)),(17,Ad (Ae rowV An)<|Aa An),(18,iD k)]) (λ(k:Nat)=>[csB c,inpK c<|.row (ats.flatMap atC) ats.length,⟨[.row (c.desc.map bD) c.desc.length,.row (L.flatMap bgC) L.length,.row (fA c.desc.length λc=>busD (U c)) c.desc.length,.row (fA c.desc.length λc=>zB9 (U c)) c.desc.length,natD tot],46,0,Ac,Ac,.plain⟩]) (λ(k:Nat)=>An.length-k) (λ(k:Nat)=>k<=An.length) 0 ?_ ?_ ?_
  ·omega
  ·refine vk 3
  intro k g1;rcases AC k An.length with g3|g3
  ·have g4:=hstep k g3;have g5:=hAg k g3;have g6:=hsm k g3;have g7:An.map rowV≠[]:=zAc;generalize An.getD k []=x at*;generalize decide (r∈An.take k)=w at*;cases w
   ·refine zA<|vAu<|vT ((k:Int)<(Aa An:Int))<|vKB<|zB rfl<|vr 5 (ix (k:Int) (Aa An:Int) (Ae rowV An≠[]))<|vp 95 (k) (Ae rowV An)<|vr 1 (0<Aa (Ag k<|Ae rowV An))<|vsh 96 g5<|vrT 1<|vc (g6)<|vrT 2<|vnil<|zD<|vN<|zB rfl<|vr 3 (i6 ((k:Int)+(1:Int)))<|vnil<|zC<|⟨k+1,by omega,by omega,?_⟩;rw[g4];refine vk 3
   refine zA<|vAu<|vT ((k:Int)<(Aa An:Int))<|vKB<|zB rfl<|vrT 10<|vnil<|zD<|vN<|zB rfl<|vr 3 (i6 ((k:Int)+(1:Int)))<|vnil<|zC<|⟨k+1,by omega,by omega,?_⟩;rw[g4];refine vk 3
  obtain rfl:k=An.length:=by omega
  rw[A8,<-ho];refine zA<|vAu<|vF ((Aa An:Int)<↑(Aa An))<|vZ2<|vA<|ve (True/\True)<|zE<|vret (True)<|.inr rfl
 obtain rfl:i=m:=by omega
 refine zA<|vAs<|vew [] [(4,Ac)] (True/\0<5/\decide ((i:Int)<Cs.f c)=Ac)<|vf<|vZ2<|vAe<|vA<|vr 1 (6<=6)<|vc hrf<|vc hA<|veT<|zA<|vAe<|zJ<|zK (λ(k:Nat)=>fr 107 [(1,Ad (zG r) i),(4,bD Ac),(9,iD 0),(10,bD o),(16,bD<|decide (r∈Aj k An)),(17,Ad (Ae rowV An)<|Aa An),(18,iD k)]) (λ(k:Nat)=>[csB c,inpK c<|.row (ats.flatMap atC) ats.length,⟨[.row (c.desc.map bD) c.desc.length,.row (L.flatMap bgC) L.length,.row (fA c.desc.length λc=>busD (U c)) c.desc.length,.row (fA c.desc.length λc=>zB9 (U c)) c.desc.length,natD tot],46,0,Ac,Ac,.plain⟩]) (λ(k:Nat)=>An.length-k) (λ(k:Nat)=>k<=An.length) 0 ?_ ?_ ?_
 ·omega
 ·refine vk 3
 intro k g1;rcases AC k An.length with g3|g3
 ·have g4:=hstep k g3;have g5:=hAg k g3;have g6:=hsm k g3;have g7:An.map rowV≠[]:=zAc;generalize An.getD k []=x at*;generalize decide (r∈An.take k)=w at*;cases w
  ·refine zA<|vAu<|vT ((k:Int)<(Aa An:Int))<|vKB<|zB rfl<|vr 5 (ix (k:Int) (Aa An:Int) (Ae rowV An≠[]))<|vp 95 (k) (Ae rowV An)<|vr 1 (0<Aa (Ag k<|Ae rowV An))<|vsh 96 g5<|vrT 1<|vc (g6)<|vrT 2<|vnil<|zD<|vN<|zB rfl<|vr 3 (i6 ((k:Int)+(1:Int)))<|vnil<|zC<|⟨k+1,by omega,by omega,?_⟩;rw[g4];refine vk 3
  refine zA<|vAu<|vT ((k:Int)<(Aa An:Int))<|vKB<|zB rfl<|vrT 10<|vnil<|zD<|vN<|zB rfl<|vr 3 (i6 ((k:Int)+(1:Int)))<|vnil<|zC<|⟨k+1,by omega,by omega,?_⟩;rw[g4];refine vk 3
 obtain rfl:k=An.length:=by omega
 rw[A8,<-ho];cases o
 ·refine zA<|vAu<|vF ((Aa An:Int)<(Aa An:Int))<|vZ2<|vA<|ve (True/\True)<|zE<|vret (True)<|.inr rfl
 refine zA<|vAu<|vF ((Aa An:Int)<(Aa An:Int))<|vZ2<|vA<|ve (True/\True)<|zE<|vret (True)<|.inr rfl
end
end
theorem zXz{O:List Nat}{nb:Nat->Nat}(hO:Ook n O)(h0:Nbk n O 0 nb)(hu:u<n)(hw:w<n)(hne:w≠u)(hij:i<=j)(hju:j<=O.idxOf u)(hjw:j<=O.idxOf w)(hb:(nbT n O nb i u).testBit w=Ab):(nbT n O nb j u).testBit w=true:=by
 induction j with
 |zero=>
  grind
 | succ j ih=>
  rcases AC j i with h1|h1
  ·grind
  have h2:=ih h1 (by omega) (by omega);have hj:j<n:=by have:=(hO.ix hu).1;omega
  obtain⟨v1,v2⟩:=hO.at hj;have hwv:w≠O.getD j 0:=λe=>by rw[e,v2]at hjw;omega
  rw[nbT,zMi hO.n32 hu v1 (zMh h0.b j u) (zMh h0.b j _),h2];grind
theorem zZ6{O:List Nat}{nb:Nat->Nat}(hO:Ook n O)(h0:Nbk n O 0 nb)(hc:c<n)(ku:(bagE n O nb c).k.testBit u=Ab)(kw:(bagE n O nb c).k.testBit w=Ab)(hne:w≠u)(hi:O.idxOf u<=O.idxOf w):(bagE n O nb u).k.testBit w=true:=by
 have hr:=(zWh hO h0).r c;obtain⟨u1,u2⟩:=hr u hc ku;obtain⟨w1,w2⟩:=hr w hc kw;obtain⟨c1,c2⟩:=hO.ix hc;have hwc:w≠c:=λe=>by rw[e]at w2;omega
 refine zXz hO h0 (i:=O.idxOf c+1) u1 w1 hne (by omega) (AE _) hi ?_;have ku':(nbT n O nb (O.idxOf c) c).testBit u=true:=ku;have kw':(nbT n O nb (O.idxOf c) c).testBit w=true:=kw;rw[nbT,c2,zMi hO.n32 u1 hc (zMh h0.b _ u) (zMh h0.b _ c),if_pos ku',kw'];simp[hne,hwc]
theorem key_par{O:List Nat}{nb:Nat->Nat}(hO:Ook n O)(h0:Nbk n O 0 nb)(hc:c<n)(hp:(bagE n O nb c).p=(v:Int))(kw:(bagE n O nb c).k.testBit w=Ab)(hne:w≠v):(bagE n O nb v).k.testBit w=true:=by
 obtain⟨p1,p2⟩:=(zWh hO h0).p c v hc hp;grind [zZ6]
theorem edge_bag{O:List Nat}{E:List Nat}(hO:Ook n O)(hE:∀e∈E,e<2^n)(h0:Nbk n O 0 λv=>if v<n then nbE E v else 0)(he:e∈E)(hu:e.testBit u=Ab)(hw:e.testBit w=Ab)(hne:w≠u)(hi:O.idxOf u<=O.idxOf w):(bagE n O (λv=>if v<n then nbE E v else 0) u).k.testBit w=true:=by
 have hlt:∀v,e.testBit v=Ab->v<n:=λv hv=>by
  grind [AC,B6,By,AZ]
 have hu1:=hlt u hu;have hw1:=hlt w hw;have hn:=hO.n32;have hE2:∀e∈E,e<4294967296:=λx hx=>By (hE x hx) (show 2^n<=2^32 from AZ (by omega) hn);refine zXz hO h0 (i:=0) hu1 hw1 hne (Bv _) (AE _) hi ?_;show(if u<n then nbE E u else 0).testBit w=Ab;grind [zVh,BV]
structure Elt(n:Nat)(ix:Nat->Nat)(k:Nat->Nat->Prop)(par:Nat->Nat->Prop):Prop where
 inj:∀u v,u<n->v<n->ix u=ix v->u=v
 kk:∀c w,c<n->k c w->w<n/\ix c<ix w
 pp:∀c v,c<n->par c v->k c v/\∀w,k c w->w≠v->k v w
 uu:∀c v v',par c v->par c v'->v=v'
 qq:∀c w,c<n->k c w->∃v,par c v
inductive Und(par:Nat->Nat->Prop):Nat->Nat->Prop
 |refl (c:Nat):Und par c c
 |step {u v c:Nat}:par u v->Und par v c->Und par u c
section
variable{n:Nat}{ix:Nat->Nat}{k:Nat->Nat->Prop}{par:Nat->Nat->Prop}(H:Elt n ix k par)
include H
theorem Elt.pn(hc:c<n)(h:par c v):v<n/\ix c<ix v:=H.kk c v hc (H.pp c v hc h).1
theorem Elt.und_ix(h:Und par u c)(hu:u<n):c<n/\ix u<=ix c:=by
 induction h with
 |refl=>exact⟨hu,AE _⟩
 |step hp _ ih=>
  obtain⟨h1,h2⟩:=H.pn hu hp;omega
theorem Elt.und_key(h:Und par u c)(hu:u<n)(hw:k u w):Und par w c\/k c w:=by
 induction h with
 |refl=>exact .inr hw
 |step hp hs ih=>
  rename_i u v c;obtain⟨h1,_⟩:=H.pn hu hp;by_cases e:w=v
  ·subst e;exact .inl hs
  exact ih h1 ((H.pp u v hu hp).2 w hw e)
omit H in
theorem Und.trans(h:Und par u v)(g:Und par v w):Und par u w:=by
 induction h with
 |refl=>exact g
 |step hp _ ih=>exact .step hp (ih g)
theorem Elt.und_one(h:Und par u c):∀{d:Nat},Und par u d->Und par c d\/Und par d c:=by
 induction h with
 |refl=>exact λg=> .inl g
 | step hp hs ih=>
  intro d g;cases g with
  |refl=>exact .inr (.step hp hs)
  |step hp' hs'=>
   obtain rfl:=H.uu _ _ _ hp hp';exact ih hs'
theorem Elt.sib{d:Nat}(hc:c<n)(hd:d<n)(pc:par c v)(pd:par d v)(h1:Und par u c)(h2:Und par u d):c=d:=by
 rcases H.und_one h1 h2 with h|h
 ·cases h with
  |refl=>rfl
  |step hp hs=>
   obtain rfl:=H.uu _ _ _ pc hp;have h3:=H.und_ix hs (H.pn hc pc).1;have h4:=H.pn hd pd;omega
 cases h with
 |refl=>rfl
 |step hp hs=>
  obtain rfl:=H.uu _ _ _ pd hp;have h3:=H.und_ix hs (H.pn hd pd).1;have h4:=H.pn hc pc;omega
end
section
variable{α:Type}{n:Nat}{ix:Nat->Nat}{k:Nat->Nat->Prop}{par:Nat->Nat->Prop}(H:Elt n ix k par)(R:Nat->(Nat->α)->Prop)
def Loc(k:Nat->Nat->Prop)(R:Nat->(Nat->α)->Prop):Prop:=∀v σ τ,σ v=τ v->(∀w,k v w->σ w=τ w)->R v σ->R v τ
def AllU(n:Nat)(par:Nat->Nat->Prop)(R:Nat->(Nat->α)->Prop)(v:Nat)(σ:Nat->α):Prop:=∀u,u<n->Und par u v->R u σ
include H
theorem Elt.join2(hR:Loc k R)(hv:v<n){σ:Nat->α}(h0:R v σ)(g:Nat->Nat->α)(hg:∀c,c<n->par c v->(∀w,k c w->g c w=σ w)/\AllU n par R c (g c)):
  ∃τ,((∀w,¬(∃c,c<n/\par c v/\Und par w c)->τ w=σ w)/\∀w c,c<n->par c v->Und par w c->τ w=g c w)/\AllU n par R v τ:=by
 classical
 let τ:Nat->α:=λw=>if h:∃c,c<n/\par c v/\Und par w c then g (BI h) w else σ w
 have hτ1:∀w c,c<n->par c v->Und par w c->τ w=g c w:=λw c h1 h2 h3=>by
  have h:∃c,c<n/\par c v/\Und par w c:=⟨c,h1,h2,h3⟩;obtain⟨s1,s2,s3⟩:=CE h;show(if h:∃c,c<n/\par c v/\Und par w c then g (BI h) w else σ w)=g c w;rw[dif_pos h,H.sib s1 h1 s2 h2 s3 h3]
 have hτ0:∀w,¬(∃c,c<n/\par c v/\Und par w c)->τ w=σ w:=λw h=>dif_neg h;have hup:∀w,w<n->ix v<=ix w->¬(∃c,c<n/\par c v/\Und par w c):=λw hw hi ⟨c,h1,h2,h3⟩=>by
  have:=H.und_ix h3 hw
  have:=H.pn h1 h2
  omega
 refine⟨τ,⟨hτ0,hτ1⟩,λu hu h=>?_⟩;have hcase:u=v\/∃c,c<n/\par c v/\Und par u c:=by
  clear h0;induction h with
  |refl=>exact .inl rfl
  |step hp hs ih=>
   rename_i u' v' c';rcases ih hv hg hτ1 hτ0 hup (H.pn hu hp).1 with rfl|⟨c,c1,c2,c3⟩
   ·exact .inr ⟨u',hu,hp, .refl _⟩
   exact .inr ⟨c,c1,c2, .step hp c3⟩
 rcases hcase with rfl|⟨c,c1,c2,c3⟩
 ·refine hR u σ τ ?_ (λw hw=>?_) h0
  ·grind
  have:=H.kk u w hu hw
  grind
 obtain⟨g1,g2⟩:=hg c c1 c2;refine hR u (g c) τ (hτ1 u c c1 c2 c3).symm (λw hw=>?_) (g2 u hu c3);rcases H.und_key c3 hu hw with h|h
 ·grind
 have hkv:w=v\/k v w:=by
  by_cases e:w=v
  ·exact .inl e
  exact .inr ((H.pp c v c1 c2).2 w h e)
 have hwn:=H.kk c w c1 h;have hwi:ix v<=ix w:=by
  rcases hkv with rfl|h'
  ·exact AE _
  have:=H.kk v w hv h';omega
 grind
end
def Crd{α:Type}(Q:List α->Prop)(m:Nat):Prop:=∃L:List (List α),L.Nodup/\(∀y,y∈L↔Q y)/\L.length=m
section
variable{α:Type}
theorem Crd.congr{Q Q':List α->Prop}(h:Crd Q m)(e:∀y,Q y↔Q' y):Crd Q' m:=by
 obtain⟨L,h1,h2,h3⟩:=h;exact⟨L,h1,λy=>(h2 y).trans (e y),h3⟩
theorem Crd.one{A:Prop}(h1:A->m=1)(h0:¬A->m=0):Crd (λy:List α=>y=[]/\A) m:=by
 by_cases hA:A
 ·exact⟨[[]],by simp,λy=>by simp[hA],by rw[h1 hA];rfl⟩
 exact⟨[],Cf,λy=>by simp[hA],by rw[h0 hA];rfl⟩
theorem Crd.pos{Q:List α->Prop}(h:Crd Q m):0<m↔∃y,Q y:=by
 obtain⟨L,h1,h2,rfl⟩:=h;grind [List.length_pos_iff_exists_mem]
theorem nd_app{L M:List (List α)}{l:Nat}(h1:L.Nodup)(h2:M.Nodup)(hl:∀y∈L,y.length=l):(L.flatMap λa=>M.map λb=>a++b).Nodup:=by
 rw[BH,List.pairwise_flatMap];refine⟨λa ha=>?_,?_⟩
 ·grind [List.append_cancel_left]
 refine h1.imp_of_mem λ{a b} ha hb hne x hx y hy e=>?_;grind [List.append_inj_left]
theorem Crd.mul{Q Q':List α->Prop}{m' l:Nat}(h:Crd Q m)(h':Crd Q' m')(hl:∀y,Q y->y.length=l):Crd (λy=>∃a b,Q a/\Q' b/\y=a++b) (m*m'):=by
 obtain⟨L,h1,h2,rfl⟩:=h;obtain⟨M,k1,k2,rfl⟩:=h';refine⟨L.flatMap λa=>M.map λb=>a++b,nd_app h1 k1 λy hy=>hl y ((h2 y).1 hy),λy=>?_,?_⟩
 ·grind
 have hs:∀L:List (List α),(L.map λa=>(M.map λb=>a++b).length).sum=L.length*M.length:=by
  intro L;induction L<;>grind
 simp_all
theorem Crd.prod{Q:Nat->List α->Prop}{m l:Nat->Nat}:∀(cs:List Nat),cs.Nodup->(∀c∈cs,Crd (Q c) (m c))->(∀c∈cs,∀y,Q c y->y.length=l c)->Crd (λy=>∃g:Nat->List α,(∀c∈cs,Q c (g c))/\y=cs.flatMap g) ((cs.map m).foldr (· *·) 1)
 |[],_,_,_=>⟨[[]],by simp,λy=>by simp,rfl⟩
 | c::cs,hn,h,hl=>by
  rw[Co]at hn;have ih:=Crd.prod cs hn.2 (λd hd=>h d (Bf _ hd)) λd hd=>hl d (Bf _ hd);have hm:=(h c (Bm ..)).mul ih (hl c (Bm ..));refine hm.congr λy=>⟨?_,?_⟩
  ·rintro⟨a,b,ha,⟨g,hg,rfl⟩,rfl⟩;refine⟨λd=>if d=c then a else g d,λd hd=>?_,?_⟩
   ·grind
   rw[List.flatMap_cons,if_pos rfl];congr 1;simp only[As];congr 1;exact AW λd h9=>(if_neg λe=>hn.1 (by rw[<-e];exact h9)).symm
  grind
theorem Crd.sum{Q:α->List α->Prop}{m:α->Nat}:∀(xs:List α),xs.Nodup->(∀x∈xs,Crd (Q x) (m x))->Crd (λy=>∃x z,x∈xs/\Q x z/\y=x::z) ((xs.map m).sum)
 |[],_,_=>⟨[],Cf,λy=>by simp,rfl⟩
 |x::xs,hn,h=>by
  rw[Co]at hn;obtain⟨M,k1,k2,k3⟩:=Crd.sum xs hn.2 λz hz=>h z (Bf _ hz);obtain⟨L,h1,h2,h3⟩:=h x (Bm ..);refine⟨L.map (x::·)++M,?_,λy=>?_,by rw[Bt,AN,h3,k3,Bz,List.sum_cons]⟩;all_goals grind
end
section
variable{α:Type}{n:Nat}{ix:Nat->Nat}{k:Nat->Nat->Prop}{par:Nat->Nat->Prop}(H:Elt n ix k par)(R:Nat->(Nat->α)->Prop)(ch:Nat->List Nat)(fr:Nat->Bool)
def Dn(ch:Nat->List Nat)(fr:Nat->Bool):Nat->Nat->List Nat
 |0,_=>[]
 |m+1,v=>(ch v).flatMap λc=>if fr c then c::Dn ch fr m c else[]
def Pv(n:Nat)(k par:Nat->Nat->Prop)(R:Nat->(Nat->α)->Prop)(ch:Nat->List Nat)(fr:Nat->Bool)(m v:Nat)(σ:Nat->α)(y:List α):Prop:=∃τ,τ v=σ v/\(∀w,k v w->τ w=σ w)/\AllU n par R v τ/\y=(Dn ch fr m v).map τ
def Qv(n:Nat)(k par:Nat->Nat->Prop)(R:Nat->(Nat->α)->Prop)(ch:Nat->List Nat)(fr:Nat->Bool)(m c:Nat)(σ:Nat->α)(y:List α):Prop:=∃τ,(∀w,k c w->τ w=σ w)/\AllU n par R c τ/\y=if fr c then(c::Dn ch fr m c).map τ else[]
include H
theorem Elt.split(hR:Loc k R)(hch:∀v c,c∈ch v↔c<n/\par c v){m v:Nat}(hv:v<n){σ:Nat->α}(h0:R v σ)(hD:∀c,c∈ch v->∀u∈Dn ch fr m c,Und par u c)(y:List α):
  Pv n k par R ch fr (m+1) v σ y↔∃g:Nat->List α,(∀c∈ch v,Qv n k par R ch fr m c σ (g c))/\y=(ch v).flatMap g:=by
 constructor
 ·rintro⟨τ,t1,t2,t3,rfl⟩;refine⟨λc=>if fr c then(c::Dn ch fr m c).map τ else[],λc hc=>?_,?_⟩
  ·obtain⟨c1,c2⟩:=(hch v c).1 hc;refine⟨τ,λw hw=>?_,λu hu h=>t3 u hu (h.trans (.step c2 (.refl _))),rfl⟩;by_cases e:w=v
   ·rw[e,t1]
   exact t2 w ((H.pp c v c1 c2).2 w hw e)
  grind [Dn,List.map_flatMap,only,As,AW]
 rintro⟨g,hg,rfl⟩;obtain⟨f,hf⟩:∃f:Nat->Nat->α,∀c∈ch v,(∀w,k c w->f c w=σ w)/\AllU n par R c (f c)/\g c=if fr c then(c::Dn ch fr m c).map (f c)else[]:=by
  classical
  refine⟨λc=>if h:c∈ch v then BI (hg c h)else σ,λc hc=>?_⟩;grind
 obtain⟨τ,t0,t1⟩:=H.join2 R hR hv h0 (λc=>f c) λc c1 c2=>⟨(hf c ((hch v c).2 ⟨c1,c2⟩)).1,(hf c ((hch v c).2 ⟨c1,c2⟩)).2.1⟩;have hup:∀w,w<n->ix v<=ix w->τ w=σ w:=λw hw hi=>t0.1 w λ⟨c,h1,h2,h3⟩=>by
  have:=H.und_ix h3 hw
  have:=H.pn h1 h2
  omega
 refine⟨τ,hup v hv (AE _),λw hw=>?_,t1,?_⟩
 ·have:=H.kk v w hv hw
  exact hup w this.1 (by omega)
 rw[Dn,List.map_flatMap];simp only[As];congr 1;refine AW λc hc=>?_;obtain⟨c1,c2⟩:=(hch v c).1 hc;rw[(hf c hc).2.2];split
 ·refine AW λu hu=>?_;have hu2:Und par u c:=by
   rcases A_.1 hu with rfl|hu
   ·exact .refl _
   exact hD c hc u hu
  exact(t0.2 u c c1 c2 hu2).symm
 rfl
def up(σ:Nat->α)(c:Nat)(a:α):Nat->α:=λw=>if w=c then a else σ w
omit H in
theorem zTu(σ:Nat->α)(c:Nat)(a:α):up σ c a c=a:=if_pos rfl
omit H in
theorem zNi(σ:Nat->α)(a:α)(h:w≠c):up σ c a w=σ w:=if_neg h
omit H in
theorem Elt.Dn_und(hch:∀v c,c∈ch v↔c<n/\par c v):∀(m v:Nat),∀u∈Dn ch fr m v,Und par u v
 |0,v,u,h=>by cases h
 | m+1,v,u,h=>by
  obtain⟨c,hc,hu⟩:=BA.1 h;obtain⟨c1,c2⟩:=(hch v c).1 hc;split at hu
  ·rcases A_.1 hu with rfl|hu
   ·exact .step c2 (.refl _)
   exact(Elt.Dn_und hch m c u hu).trans (.step c2 (.refl _))
  cases hu
theorem Elt.count(hR:Loc k R)(hch:∀v c,c∈ch v↔c<n/\par c v)(hnd:∀v,(ch v).Nodup)(W:Nat->(Nat->α)->Nat)(one:Nat->(Nat->α)->Nat)(vals:Nat->(Nat->α)->List α)
  (hW:∀v σ,v<n->R v σ->W v σ=((ch v).map λc=>one c σ).foldr (· *·) 1)
  (hv1:∀c σ,c<n->(∃v,par c v)->(vals c σ).Nodup/\∀a,a∈vals c σ↔R c (up σ c a))
  (h1:∀c σ,c<n->(∃v,par c v)->fr c=Ab->one c σ=((vals c σ).map λa=>W c (up σ c a)).sum)
  (h0:∀c σ,c<n->(∃v,par c v)->fr c=Ac->((∃a,R c (up σ c a)/\0<W c (up σ c a))->one c σ=1)/\(¬(∃a,R c (up σ c a)/\0<W c (up σ c a))->one c σ=0)):
  ∀(m v:Nat)(σ:Nat->α),v<n->ix v<m->R v σ->Crd (Pv n k par R ch fr m v σ) (W v σ)
 |0,v,σ,_,h,_=>by omega
 | m +1,v,σ,hv,hm,hr=>by
  have hq:∀c∈ch v,Crd (Qv n k par R ch fr m c σ) (one c σ):=λc hc=>by
   obtain⟨c1,c2⟩:=(hch v c).1 hc;have hix:=(H.pn c1 c2).2;have hkc:∀w,k c w->w≠c:=λw hw e=>by
    have:=H.kk c w c1 hw
    rw[e]at this;omega
   have ih:=λa (ha:R c (up σ c a))=>Elt.count hR hch hnd W one vals hW hv1 h1 h0 m c (up σ c a) c1 (by omega) ha;have hgo:∀τ:Nat->α,(∀w,k c w->τ w=σ w)->AllU n par R c τ->R c (up σ c (τ c)):=λτ t1 t2=>by
    refine hR c τ _ (zTu σ c _).symm (λw hw=>?_) (t2 c c1 (.refl _));grind [zNi]
   cases hf:fr c with
   | true=>
    rw[h1 c σ c1 ⟨v,c2⟩ hf];refine(Crd.sum (Q:=λa=>Pv n k par R ch fr m c (up σ c a)) (vals c σ) (hv1 c σ c1 ⟨v,c2⟩).1 λa ha=>ih a (((hv1 c σ c1 ⟨v,c2⟩).2 a).1 ha)).congr λy=>?_;unfold Qv;simp only[hf,if_true];constructor
    ·rintro⟨a,z,ha,⟨τ,t1,t2,t3,rfl⟩,rfl⟩;grind [zTu,zNi]
    rintro⟨τ,t1,t2,rfl⟩;refine⟨τ c,(Dn ch fr m c).map τ,((hv1 c σ c1 ⟨v,c2⟩).2 _).2 (hgo τ t1 t2),⟨τ,(zTu σ c _).symm,λw hw=>?_,t2,rfl⟩,rfl⟩;grind [zNi]
   | false=>
    obtain⟨e1,e0⟩:=h0 c σ c1 ⟨v,c2⟩ hf;refine(Crd.one e1 e0).congr λy=>?_;unfold Qv;simp only[hf,Bool.false_eq_true,if_false];constructor
    ·rintro⟨rfl,a,ha,hw⟩;obtain⟨z,τ,t1,t2,t3,_⟩:=(ih a ha).pos.1 hw;grind [zNi]
    rintro⟨τ,t1,t2,rfl⟩;have hr:=hgo τ t1 t2;exact⟨rfl,τ c,hr,(ih _ hr).pos.2 ⟨_,τ,(zTu σ c _).symm,λw hw=>by rw[zNi σ _ (hkc w hw)];exact t1 w hw,t2,rfl⟩⟩
  have hp:=Crd.prod (l:=λc=>if fr c then(c::Dn ch fr m c).length else 0) (ch v) (hnd v) hq λc hc y hy=>by
   obtain⟨τ,_,_,rfl⟩:=hy;split<;>simp
  rw[hW v σ hv hr];exact hp.congr λy=>(Elt.split H R ch fr hR hch hv hr (λc _=>Elt.Dn_und ch fr hch m c) y).symm
theorem Elt.Dn_nd(hch:∀v c,c∈ch v↔c<n/\par c v)(hnd:∀v,(ch v).Nodup):∀(m v:Nat),(Dn ch fr m v).Nodup
 |0,_=>Cf
 | m + 1,v=>by
  rw[Dn,BH,List.pairwise_flatMap];have hu:∀c∈ch v,∀u∈(if fr c then c::Dn ch fr m c else[]),Und par u c:=λc hc u hu=>by
   split at hu
   ·rcases A_.1 hu with rfl|hu
    ·exact .refl _
    exact Elt.Dn_und ch fr hch m c u hu
   cases hu
  refine⟨λc hc=>?_,?_⟩
  ·split
   ·refine Co.2 ⟨λhm=>?_,Elt.Dn_nd hch hnd m c⟩;have hcn:=((hch v c).1 hc).1;obtain⟨d,hd,hcd⟩:∃d,d∈ch c/\Und par c d:=by
     cases m with
     |zero=>cases hm
     | succ m=>
      obtain⟨d,hd,hx⟩:=BA.1 hm;refine⟨d,hd,?_⟩;split at hx
      ·rcases A_.1 hx with rfl|hx
       ·exact .refl _
       exact Elt.Dn_und ch fr hch m d c hx
      cases hx
    obtain⟨d1,d2⟩:=(hch c d).1 hd
    have:=(H.pn d1 d2).2
    have:=(H.und_ix hcd hcn).2
    omega
   exact Cf
  refine(hnd v).imp_of_mem λ{c d} hc hd hne x hx y hy e=>hne ?_;subst e;obtain⟨c1,c2⟩:=(hch v c).1 hc;obtain⟨d1,d2⟩:=(hch v d).1 hd;exact H.sib c1 d1 c2 d2 (hu c hc x hx) (hu d hd x hy)
theorem Elt.Dn_in(hch:∀v c,c∈ch v↔c<n/\par c v)(hfp:∀c v,c<n->fr c=Ab->par c v->fr v=Ab)(h:Und par u v)(hu:u<n)(hf:fr u=Ab)(hne:u≠v):∀m,ix v<=ix u+m->u∈Dn ch fr m v:=by
 have key:∀{u v:Nat},Und par u v->u<n->fr u=Ab->u≠v->∃c,c<n/\par c v/\Und par u c/\fr c=true:=by
  intro u v h;induction h with
  |refl=>exact λ_ _ h=>absurd rfl h
  | step hp hs ih=>
   rename_i u w v;intro hu hf _;by_cases e:w=v
   ·subst e;exact⟨u,hu,hp, .refl _,hf⟩
   obtain⟨c,c1,c2,c3,c4⟩:=ih (H.pn hu hp).1 (hfp u w hu hf hp) e;exact⟨c,c1,c2, .step hp c3,c4⟩
 intro m;induction m generalizing v with
 |zero=>
  intro hm;obtain⟨c,c1,c2,c3,c4⟩:=key h hu hf hne
  have:=(H.pn c1 c2).2
  have:=(H.und_ix c3 hu).2
  omega
 |succ m ih=>
  intro hm;obtain⟨c,c1,c2,c3,c4⟩:=key h hu hf hne;have h1:=(H.pn c1 c2).2;grind [Dn,Bm,Bf]
omit H in
theorem Elt.Dn_fr(hch:∀v c,c∈ch v↔c<n/\par c v):∀(m v:Nat),∀u∈Dn ch fr m v,fr u=Ab/\u<n
 |0,v,u,h=>by cases h
 | m+1,v,u,h=>by
  obtain⟨c,hc,hu⟩:=BA.1 h;split at hu
  ·rename_i hf;rcases A_.1 hu with rfl|hu
   ·grind
   exact Elt.Dn_fr hch m c u hu
  cases hu
end
theorem Crd.perm{α:Type}[Inhabited α]{S:(Nat->α)->Prop}{D D':List Nat}(hp:D.Perm D')(h:Crd (λy=>∃τ,S τ/\y=D.map τ) m):Crd (λy=>∃τ,S τ/\y=D'.map τ) m:=by
 obtain⟨L,h1,h2,h3⟩:=h;have hat:∀(E:List Nat)(τ:Nat->α)(w:Nat),w∈E->(E.map τ).getD (E.idxOf w) Af=τ w:=λE τ w hw=>by
  grind
 let f:List α->List α:=λy=>D'.map λw=>y.getD (D.idxOf w) Af;have hf:∀τ:Nat->α,f (D.map τ)=D'.map τ:=λτ=>AW λw hw=>hat D τ w (hp.mem_iff.2 hw);refine⟨L.map f,?_,λy=>?_,by rw[AN,h3]⟩
 ·rw[BH,BK];refine h1.imp_of_mem λ{a b} ha hb hne e=>hne ?_;obtain⟨τ,_,rfl⟩:=(h2 a).1 ha;obtain⟨ξ,_,rfl⟩:=(h2 b).1 hb;grind [AW]
 rw[AJ];constructor
 ·grind
 rintro⟨τ,ht,rfl⟩;exact⟨D.map τ,(h2 _).2 ⟨τ,ht,rfl⟩,hf τ⟩
theorem put_hi(v:Va)(w:Nat):∀t:WT,(∀x∈t.lst,vcmp x.1 v<0)->(t.put Ac v w).lst=t.lst++[(v,w)]
 | .nil,_=>rfl
 | .node u y l r,h=>by
  have hu:vcmp u v<0:=h (u,y) (by simp[WT.lst]);have h1:0<WT.cmp Ac v u:=by
   have:=(zAy u v).2.2
   show 0<vcmp v u;omega
  rw[WT.put,if_neg (by omega),if_pos h1,WT.bal_lst,put_hi v w r λx hx=>h x (by simp[WT.lst,hx])];simp[WT.lst]
theorem put_lo(v:Va)(w:Nat):∀t:WT,(∀x∈t.lst,vcmp x.1 v<0)->(t.put Ab v w).lst=(v,w)::t.lst
 | .nil,_=>rfl
 | .node u y l r,h=>by
  have hu:vcmp u v<0:=h (u,y) (by simp[WT.lst]);have h1:WT.cmp Ab v u<0:=hu;rw[WT.put,if_pos h1,WT.bal_lst,put_lo v w l λx hx=>h x (by simp[WT.lst,hx])];simp[WT.lst]
def asc(d:Bool)(l:List (Va×Nat)):List (Va×Nat):=if d then l.reverse else l
theorem asc_put(d:Bool)(v:Va)(w:Nat)(t:WT)(h:∀x∈t.lst,vcmp x.1 v<0):asc d (t.put d v w).lst=asc d t.lst++[(v,w)]:=by
 cases d
 ·exact put_hi v w t h
 show(t.put Ab v w).lst.reverse=t.lst.reverse++[(v,w)];grind [put_lo,Cg]
variable{d:Bool}{x:Va×Nat}
theorem zQq{l:List (Va×Nat)}:x∈asc d l↔x∈l:=by
 grind [asc]
theorem asc_sum(d:Bool)(l:List (Va×Nat)):((asc d l).map Prod.snd).sum=(l.map Prod.snd).sum:=by
 grind [asc,List.map_reverse]
theorem zHw:∀(p:List Va)(a b:Va),rcmp (p++[a]) (p++[b])=vcmp a b
 |[],a,b=>by
  grind [only,rcmp]
 |x::p,a,b=>by
  have:=(zAy x x).2.1.2 rfl
  simp only[List.cons_append,rcmp];rw[if_pos this];exact zHw p a b
theorem zG9{x:List Va}(h:x.length=n+1):x=kyX x++[vaX x]:=by
 have h1:x.drop n=[x.getD n Af]:=by
  grind [CI,List.drop_eq_nil_of_le,Aw]
 conv=>lhs;rw[<-Cl n x]
 grind
def sh2(d:Bool)(b:Bu):List Va×List (Va×Nat):=(b.key,asc d b.t.lst)
def gpA(l:List (List Va×List (Va×Nat)))(k:List Va)(e:Va×Nat):List (List Va×List (Va×Nat)):=match l.getLast? with
 |some b=>if b.1=k then l.dropLast++[(b.1,b.2++[e])]else l++[(k,[e])]
 |none=>[(k,[e])]
def gp(w:List Va->Nat)(rows:List (List Va)):List (List Va×List (Va×Nat)):=rows.foldl (λl x=>if 0<w x then gpA l (kyX x) (vaX x,w x)else l) []
theorem gAdd_sh(d:Bool)(l:List Bu)(k:List Va)(v:Va)(w:Nat)(h:∀b∈l,b.key=k->∀e∈b.t.lst,vcmp e.1 v<0):(gAdd d l k v w).map (sh2 d)=gpA (l.map (sh2 d)) k (v,w):=by
 rcases CM l with rfl|⟨m,b,rfl⟩
 ·rw[zJe];cases d<;>rfl
 rw[CN]at*;unfold gpA;rw[BE,Bz,List.map_nil,List.getLast?_concat];dsimp only;by_cases e:b.key=k
 ·rw[zMv _ _ _ _ _ _ e,if_pos (show(sh2 d b).1=k from e),List.dropLast_concat,BE]
  have:=asc_put d v w b.t (h b (by simp) e)
  grind [only,sh2]
 rw[zMu _ _ _ _ _ _ e,if_neg (show¬(sh2 d b).1=k from e),BE,BE];cases d<;>rfl
theorem gpA_mem{l:List (List Va×List (Va×Nat))}{k:List Va}{e:Va×Nat}{b:List Va×List (Va×Nat)}(hb:b∈gpA l k e)(hx:x∈b.2):(b.1=k/\x=e)\/∃c∈l,c.1=b.1/\x∈c.2:=by
 grind [gpA,List.mem_of_getLast?,List.dropLast_subset,AY]
theorem zVs(w:List Va->Nat)(rows:List (List Va))(x:List Va):gp w (rows++[x])=if 0<w x then gpA (gp w rows) (kyX x) (vaX x,w x)else gp w rows:=by
 grind [gp]
theorem gp_mem(w:List Va->Nat):∀(r rows:List (List Va)),rows.reverse=r->∀b∈gp w rows,∀e∈b.2,∃x∈rows,kyX x=b.1/\vaX x=e.1
 |[],rows,hr,b,hb,e,he=>by
  obtain rfl:rows=[]:=by simpa using hr
  cases hb
 | x::r,rows,hr,b,hb,e,he=>by
  obtain rfl:rows=r.reverse++[x]:=by rw[<-Bs rows,hr,Cg]
  have ih:=gp_mem w r r.reverse (Bs r);rw[zVs]at hb;split at hb
  ·rcases gpA_mem hb he with⟨h1,h2⟩|⟨c,h1,h2,h3⟩;all_goals grind
  grind
def Srn(n:Nat)(rows:List (List Va)):Prop:=rows.Pairwise (λx y=>rcmp x y<0)/\∀x∈rows,x.length=n+1
theorem zVr(d:Bool)(w:List Va->Nat)(n:Nat):∀(r rows:List (List Va)),rows.reverse=r->Srn n rows->(grpL d w rows).map (sh2 d)=gp w rows
 |[],rows,hr,_=>by
  obtain rfl:rows=[]:=by simpa using hr
  rfl
 | x::r,rows,hr,hs=>by
  obtain rfl:rows=r.reverse++[x]:=by rw[<-Bs rows,hr,Cg]
  obtain⟨s1,s2⟩:=hs;rw[BJ]at s1;have ih:=zVr d w n r r.reverse (Bs r) ⟨s1.1,λy hy=>s2 y (A3 _ hy)⟩;rw[zJb,zVs];split
  ·rw[gAdd_sh,ih];intro b hb hk e he;obtain⟨y,y1,y2,y3⟩:=gp_mem w r r.reverse (Bs r) (sh2 d b) (by rw[<-ih];exact CC hb) e (zQq.2 he);have h1:=s1.2.2 y y1 x (by simp);rw[zG9 (s2 y (A3 _ y1)),zG9 (s2 x (by simp)),y2,y3,show(sh2 d b).1=kyX x from hk,zHw]at h1;exact h1
  exact ih
theorem tot_asc(d:Bool)(t:WT):((asc d t.lst).map Prod.snd).sum=t.tot:=by rw[asc_sum,WT.tot_lst]
section
variable{I:Inp}(h:I.Ok)
include h
theorem Inp.srt(v:Nat):∃n,Srn n (I.b.R.getD v Af).2:=by
 by_cases hv:v<I.n
 ·have hj:=(zHb (Inp.aok h hv)).1;have ha:=Inp.jall h hv;have hm:=(Inp.mem_len h hv).1;refine⟨(zAf (bgS (I.bag v))).length-1,?_⟩;show Srn _ (I.R.getD v Af).2;rw[Inp.Rat hv];exact⟨hj,λx hx=>by have:=(ha x hx).1;omega⟩
 refine⟨0,?_⟩;have e:I.b.R.getD v Af=default:=by
  grind
 rw[e];exact⟨Cv.nil,λx hx=>by cases hx⟩
theorem Inp.U_ok(hc:c<I.n):(I.U c).length<=65536/\∀b∈I.U c,b.key.length<=10000/\b.t.Ok:=by
 have hb:=Inp.bal h;have h1:=hb.rl c hc;have h2:=hb.T c hc;have h3:=hb.V c hc;have h4:=hb.r c hc;show(if I.tot=0 then[]else buk I.b I.VT I.TT c).length<=65536/\∀b∈(if I.tot=0 then[]else buk I.b I.VT I.TT c),_;split
 ·grind
 obtain⟨g1,g2⟩:=zMs (desc:=I.b.desc.getD c Ac) (w:=λx=>wtL I.b.f I.VT I.TT x (chV I.b c)) (Q:=λk=>k.length<=10000) (I.b.R.getD c Af).2 λx hx=>by
  grind
 exact⟨AG g1 h1,λb hb=>⟨(g2 b hb).q,AG (g2 b hb).n (AG h1 (by omega)),h2.le (g2 b hb).s⟩⟩
theorem Inp.tot_sm:Sm I.tot:=by
 have hb:=Inp.bal h;show Sm (if zPp I.b.A then 0 else rtL I.b.L I.b.f I.VT I.TT I.b.L.length);split
 ·exact Sm.zero
 exact hb.Rt _ (by rw[hb.L];exact AE _)
end
def rowS(s:Nat)(σ:Nat->Va):List Va:=(zAf s).map σ
theorem mem_at(s v:Nat)(hv:v<32)(hb:s.testBit v=Ab):rk (λw=>s.testBit w) v<(zAf s).length/\(zAf s).getD (rk (λw=>s.testBit w) v) 0=v:=by
 have h1:rk (λw=>s.testBit w) v<(zAf s).length:=by rw[zSj];exact rk_lt hv hb
 refine⟨h1,?_⟩;obtain⟨g1,g2,g3⟩:=zXf (λw=>s.testBit w) 32 _ h1;show((Ak 32).filter λw=>s.testBit w).getD _ 0=v;generalize ((Ak 32).filter λw=>s.testBit w).getD (rk (λw=>s.testBit w) v) 0=u at*;rcases Nat.lt_trichotomy u v with h|h|h
 ·have:=rk_lt (p:=λw=>s.testBit w) h g2;omega
 ·exact h
 have:=rk_lt (p:=λw=>s.testBit w) h hb;omega
theorem zRx(s:Nat)(σ:Nat->Va)(hv:v<32)(hb:s.testBit v=Ab):(rowS s σ).getD (rk (λw=>s.testBit w) v) Af=σ v:=by
 obtain⟨h1,h2⟩:=mem_at s v hv hb;grind [rowS,Aw]
theorem zF8:v∈zAf s↔v<32/\s.testBit v=true:=by
 unfold zAf;grind
theorem row_of(s:Nat)(x:List Va)(h:x.length=(zAf s).length):x=rowS s λw=>x.getD (rk (λu=>s.testBit u) w) default:=by
 unfold rowS;apply BX
 ·rw[h,AN]
 intro i h1 h2;rw[List.getElem_map];have hi:i<((Ak 32).filter λw=>s.testBit w).length:=by
  have:i<(zAf s).length:=by omega
  exact this
 obtain⟨g1,g2,g3⟩:=zXf (λw=>s.testBit w) 32 i hi;have e:(zAf s)[i]'(by omega)=((Ak 32).filter λw=>s.testBit w).getD i 0:=by
  rw[AB,Aw hi];rfl
 grind
variable{σ:Nat->Va}
theorem zF2{τ:Nat->Va}(h:∀w,s.testBit w=Ab->σ w=τ w):rowS s σ=rowS s τ:=
 AW λw hw=>h w (zF8.1 hw).2
theorem row_inj{τ:Nat->Va}(h:rowS s σ=rowS s τ)(hw:w<32)(hb:s.testBit w=Ab):σ w=τ w:=by
 rw[<-zRx s σ hw hb,<-zRx s τ hw hb,h]
theorem zK5(q:Nat->Bool)(V:List Nat)(σ:Nat->Va):zM (V.map σ) (zBc q V)=(V.filter q).map σ:=by
 have e:V=(Ak V.length).map λj=>V.getD j 0:=by
  apply BX (by simp);grind
 unfold zM zBc;conv=>rhs;rw[e,List.filter_map,A4]
 refine AW λc hc=>?_;grind
theorem mem32_sub(h:∀w,k.testBit w=Ab->s.testBit w=Ab):(zAf s).filter (λu=>k.testBit u)=zAf k:=by
 unfold zAf;rw[List.filter_filter];grind
theorem zHx(h:∀w,k.testBit w=Ab->s.testBit w=Ab)(σ:Nat->Va):zM (rowS s σ) (zBc (λu=>k.testBit u) (zAf s))=rowS k σ:=by
 grind [rowS,zK5,mem32_sub]
theorem asc_sub{x y:Nat}{L M:List Nat}(l1:∀a∈L,x<a)(m1:∀a∈M,x<a)(h:∀v,v∈x::L↔v∈x::M):∀v∈L,v∈M:=by grind
theorem zZc:∀{L M:List Nat},L.Pairwise (· <·)->M.Pairwise (· <·)->(∀v,v∈L↔v∈M)->L=M
 |[],[],_,_,_=>rfl
 |[],y::M,_,_,h=>by have:=(h y).2 (by simp);cases this
 |x::L,[],_,_,h=>by have:=(h x).1 (by simp);cases this
 | x::L,y::M,hl,hm,h=>by
  obtain⟨l1,l2⟩:=BP.1 hl;obtain⟨m1,m2⟩:=BP.1 hm;have e:x=y:=by
   rcases A_.1 ((h x).1 (by simp))with e|hx
   ·exact e
   rcases A_.1 ((h y).2 (by simp))with e|hy;all_goals grind
  subst e;rw[zZc l2 m2 λv=>⟨asc_sub (y:=0) l1 m1 h v,asc_sub (y:=0) m1 l1 (λv=>(h v).symm) v⟩]
def FitS(s:Nat)(a:List Nat×List Rw)(σ:Nat->Va):Prop:=∃r∈a.2,zM r (zBc (λv=>s.testBit v) a.1)=(a.1.filter λv=>s.testBit v).map σ
variable{x:Rw}
section
variable{I:Inp}(h:I.Ok)
include h
theorem Inp.jn_row(hv:v<I.n)(σ:Nat->Va):rowS (bgS (I.bag v)) σ∈(I.R.getD v Af).2↔∀a∈I.A,FitS (bgS (I.bag v)) a σ:=by
 have hn:=h.n;rw[Inp.Rat hv];show rowS (bgS (I.bag v)) σ∈jn (mkP (bgS (I.bag v)) I.A)↔_;rw[(zHb (Inp.aok h hv)).2];have hl:(rowS (bgS (I.bag v)) σ).length=(mkP (bgS (I.bag v)) I.A).n:=by unfold rowS;rw[AN];rfl
 have hml:(mkP (bgS (I.bag v)) I.A).A.length=I.A.length:=AN _;have key:∀a,a<I.A.length->(prj (mkP (bgS (I.bag v)) I.A).vs a 0 (rowS (bgS (I.bag v)) σ)∈((mkP (bgS (I.bag v)) I.A).A.getD a Af).2↔FitS (bgS (I.bag v)) (I.A.getD a Af) σ):=λa ha=>by
  have hpa:(mkP (bgS (I.bag v)) I.A).A.getD a Af=zBb (bgS (I.bag v)) (I.A.getD a Af):=zEp _ I.A ha;have hvs:(mkP (bgS (I.bag v)) I.A).vs a=(zBb (bgS (I.bag v)) (I.A.getD a Af)).1:=congrArg AO hpa;have hp:prj (mkP (bgS (I.bag v)) I.A).vs a 0 (rowS (bgS (I.bag v)) σ)=((I.A.getD a Af).1.filter λv'=>(bgS (I.bag v)).testBit v').map σ:=by
   unfold prj;rw[hvs];unfold zBb;dsimp only;rw[List.filter_map,A4];have e:List.filter ((λw=>decide (0<=w))∘λv'=>(numL (bgS (I.bag v))).getD v' 0) (List.filter (λv'=>(bgS (I.bag v)).testBit v') (I.A.getD a Af).1)=List.filter (λv'=>(bgS (I.bag v)).testBit v') (I.A.getD a Af).1:=Ch.2 λw _=>by simp
   rw[e];refine AW λw hw=>?_;obtain⟨w1,w2⟩:=AV.1 hw;have hw32:w<32:=by have:=h.V.lt a ha w w1;omega
   show(rowS (bgS (I.bag v)) σ).getD ((numL (bgS (I.bag v))).getD w 0) Af=σ w;rw[zMc _ _ hw32 w2];exact zRx _ σ hw32 w2
  rw[hp,hpa];unfold zBb FitS;dsimp only;rw[mem_relR,AJ]
 grind [Bj,Aw,AR]
theorem Inp.jn_of(hv:v<I.n)(hx:x∈(I.R.getD v Af).2):∃σ,x=rowS (bgS (I.bag v)) σ:=by
 rw[Inp.Rat hv]at hx;exact⟨_,row_of _ x (Inp.jall h hv x hx).1⟩
def Inp.Sol(I:Inp)(σ:Nat->Va):Prop:=∀a∈I.A,a.1.map σ∈a.2
theorem Inp.bag_bit(hv:v<I.n):(bgS (I.bag v)).testBit w=Ab↔w=v\/(I.bag v).k.testBit w=true:=by
 rw[Inp.bits h hv,Ca,decide_eq_true_eq];exact Or.comm
theorem Inp.atom_bag{a:List Nat×List Rw}(ha:a∈I.A)(hne:a.1≠[]):∃u,u∈a.1/\u<I.n/\∀w∈a.1,(bgS (I.bag u)).testBit w=true:=by
 obtain⟨v1,v2⟩:=zNr h.V a ha;have hmin:∃u∈a.1,∀w∈a.1,I.O.idxOf u<=I.O.idxOf w:=by
  have:∀l:List Nat,l≠[]->∃u∈l,∀w∈l,I.O.idxOf u<=I.O.idxOf w:=by
   intro l;induction l with
   |nil=>exact λh=>absurd rfl h
   |cons x l ih=>
    intro _;by_cases hl:l=[]
    ·simp_all
    grind
  exact this a.1 hne
 obtain⟨u,hu,hm⟩:=hmin;have hun:=v2 u hu;refine⟨u,hu,hun,λw hw=>(Inp.bag_bit h hun).2 ?_⟩;by_cases e:w=u
 ·exact .inl e
 refine .inr (edge_bag (Inp.ook h) (Inp.Elt h) (zX0 (by have:=h.n;omega) (Inp.Elt h)) (AJ.2 ⟨a,ha,rfl⟩) ?_ ?_ e (hm w hw))
 ·rw[zD0];exact decide_eq_true hu
 rw[zD0];exact decide_eq_true hw
theorem Inp.sol_iff(hA:∀a∈I.A,a.2≠[])(σ:Nat->Va):(∀v,v<I.n->rowS (bgS (I.bag v)) σ∈(I.R.getD v Af).2)↔I.Sol σ:=by
 constructor
 ·intro hb a ha;by_cases hne:a.1=[]
  ·obtain⟨r,hr⟩:=CW _ (hA a ha);have hrl:=((h.R a ha).2.2 r hr).1;grind
  obtain⟨u,hu,hun,hall⟩:=Inp.atom_bag h ha hne;obtain⟨r,hr,e⟩:=(Inp.jn_row h hun σ).1 (hb u hun) a ha;have hrl:=((h.R a ha).2.2 r hr).1;have e1:a.1.filter (λv=>(bgS (I.bag u)).testBit v)=a.1:=Ch.2 hall;have e2:zBc (λv=>(bgS (I.bag u)).testBit v) a.1=Ak a.1.length:=Ch.2 λj hj=>hall _ (zBj a.1 j (AQ.1 hj));rw[e1,e2,zJs hrl]at e;rw[<-e];exact hr
 intro hs v hv;refine(Inp.jn_row h hv σ).2 λa ha=>⟨_,hs a ha,?_⟩;rw[zK5]
end
theorem zPt(K:List (List Va×Nat))(r key:List Va)(w:Nat):tlk (tput K r w) key=if key=r then AA w else tlk K key:=by
 unfold tput;split
 ·rename_i i hi;obtain⟨h1,h2,h3⟩:=List.findIdx?_eq_some_iff_getElem.1 hi;unfold tlk;have hset:∀(K:List (List Va×Nat))(i:Nat)(h1:i<K.length),r=K[i].1->(∀j (hj:j<i),¬r=K[j].1)->((K.set i (r,w)).find? λp=>decide (key=p.1)).map (·.2)=if key=r then AA w else(K.find? λp=>decide (key=p.1)).map (·.2):=by
   intro K;induction K with
   |nil=>intro i h1;simp at h1
   | cons p K ih=>
    intro i h1 hr hb;cases i with
    |zero=>
     grind
    |succ i=>
     have h0:¬r=p.1:=hb 0 (by omega);grind
  grind
 grind [CV,tlk,List.find?_eq_none]
theorem zLo(l:List Bu)(b:Bu):totL (l++[b])=tput (totL l) b.key b.t.tot:=by
 grind [totL]
theorem zXl:∀(p q:List Va)(a c:Va),p.length=q.length->rcmp (p++[a]) (q++[c])=if rcmp p q=0 then vcmp a c else rcmp p q
 |[],[],a,c,_=>by
  grind [rcmp]
 |[],y::q,a,c,h=>by simp at h
 |x::p,[],a,c,h=>by simp at h
 |x::p,y::q,a,c,h=>by
  have ih:=zXl p q a c (by simpa using h);grind [only,rcmp,vcmp]
theorem squeeze{p q:List Va}{a b c:Va}(h:p.length=q.length)(h1:rcmp (p++[a]) (q++[c])<0)(h2:rcmp (q++[c]) (p++[b])<0):p=q:=by
 grind [zXl,zBq,rcmp]
def sumK(w:List Va->Nat)(rows:List (List Va))(key:List Va):Nat:=((rows.filter λx=>decide (kyX x=key)).map w).sum
theorem zHu(w:List Va->Nat)(rows:List (List Va))(x key:List Va):sumK w (rows++[x]) key=sumK w rows key+if kyX x=key then w x else 0:=by
 unfold sumK;grind
theorem zT8{v:Va}{t:WT}(h:∀x∈t.lst,vcmp x.1 v<0):(t.put d v w).tot=t.tot+w:=by
 rw[<-tot_asc d,asc_put d v w t h,BE,List.sum_append,tot_asc];simp
theorem tot_sum(d:Bool)(w:List Va->Nat)(n:Nat):∀(r rows:List (List Va)),rows.reverse=r->Srn n rows->
  (∀key,(tlk (totL (grpL d w rows)) key).getD 0=sumK w rows key)/\∀m b,grpL d w rows=m++[b]->∃z∈rows,kyX z=b.key/\∀y∈rows,0<w y->y=z\/rcmp y z<0
 | [],rows,hr,_=>by
  obtain rfl:rows=[]:=by simpa using hr
  exact⟨λkey=>rfl,λm b e=>by
   have:=congrArg Aa e
   simp[grpL]at this⟩
 | x :: r, rows,hr,hs=>by
  obtain rfl:rows=r.reverse++[x]:=by rw[<-Bs rows,hr,Cg]
  obtain⟨s1,s2⟩:=hs;rw[BJ]at s1;have hsr:Srn n r.reverse:=⟨s1.1,λy hy=>s2 y (A3 _ hy)⟩;obtain⟨ih1,ih2⟩:=tot_sum d w n r r.reverse (Bs r) hsr;have hlt:∀y∈r.reverse,rcmp y x<0:=λy hy=>s1.2.2 y hy x (by simp);have hsh:=zVr d w n r r.reverse (Bs r) hsr;rw[zJb];by_cases hw:0<w x
  ·rw [if_pos hw];have hbel:∀b∈grpL d w r.reverse,b.key=kyX x->∀e∈b.t.lst,vcmp e.1 (vaX x)<0:=λb hb hk e he=>by
    obtain⟨y,y1,y2,y3⟩:=gp_mem w r r.reverse (Bs r) (sh2 d b) (by rw[<-hsh];exact CC hb) e (zQq.2 he);have h1:=hlt y y1;rw[zG9 (s2 y (A3 _ y1)),zG9 (s2 x (by simp)),y2,y3,show(sh2 d b).1=kyX x from hk,zHw]at h1;exact h1
   have hlast:∀y∈r.reverse++[x],0<w y->y=x\/rcmp y x<0:=λy hy _=>by
    grind
   rcases CM (grpL d w r.reverse)with e|⟨m,b,e⟩
   ·rw[e]at ih1⊢;rw[zJe];refine⟨λkey=>?_,λm b e2=>⟨x,by simp,?_,hlast⟩⟩
    ·rw[zHu,<-ih1 key,show[(⟨kyX x,d,WT.nil.put d (vaX x) (w x)⟩:Bu)]=[]++[⟨kyX x,d,WT.nil.put d (vaX x) (w x)⟩]from rfl,zLo,zPt];dsimp only;rw[zT8 (λx hx=>by cases hx)];by_cases ek:key=kyX x
     ·rw[if_pos ek,if_pos ek.symm];simp[totL,tlk,WT.tot]
     grind
    have:=BZ (show[]++[(⟨kyX x,d,WT.nil.put d (vaX x) (w x)⟩:Bu)]=m++[b]from e2) rfl
    rw[<-(BB.inj this).1]
   rw [CN]at e;rw[e]at ih1 ih2 hbel⊢;obtain⟨z,z1,z2,z3⟩:=ih2 m b rfl;by_cases ek:b.key=kyX x
   ·grind [zMv,zLo,zPt,zHu,only,zT8,BZ,BB.inj]
   rw [zMu _ _ _ _ _ _ ek];refine⟨λkey=>?_,λm' b' e2=>⟨x,by simp,?_,hlast⟩⟩
   ·rw [zHu,zLo,zPt];dsimp only;rw[zT8 (λx hx=>by cases hx)];by_cases e3:key=kyX x
    ·rw [if_pos e3,if_pos e3.symm];have h0:sumK w r.reverse key=0:=by
      unfold sumK;have:∀l:List Nat,(∀v∈l,v=0)->l.sum=0:=by
       intro l;induction l<;>simp_all
      refine this _ λv hv=>?_;obtain⟨y,hy,rfl⟩:=AJ.1 hv;obtain⟨y1,y2⟩:=AV.1 hy;have y2:kyX y=key:=by simpa using y2
      rcases B9 (w y)with h|h
      ·exact h
      exfalso;rcases z3 y y1 h with rfl|hyz
      ·grind
      have hzx:=hlt z z1;rw[zG9 (s2 y (A3 _ y1)),zG9 (s2 z (A3 _ z1))]at hyz;rw[zG9 (s2 z (A3 _ z1)),zG9 (s2 x (by simp)),<-e3,<-y2]at hzx;have hlen:(kyX y).length=(kyX z).length:=by
       grind
      grind [squeeze]
     rw[h0];simp[WT.tot]
    grind
   grind [BZ,BB.inj]
  grind [zHu,A3,AY]
def Inp.ix'(I:Inp)(v:Nat):Nat:=if v<I.n then I.O.idxOf v else I.n
def Inp.k'(I:Inp)(c w:Nat):Prop:=c<I.n/\((w<I.n/\(I.bag c).k.testBit w=Ab)\/(w=I.n/\(I.bag c).p<0))
def Inp.par'(I:Inp)(c v:Nat):Prop:=c<I.n/\((v<I.n/\(I.bag c).p=(v:Int))\/(v=I.n/\(I.bag c).p<0))
def Inp.R'(I:Inp)(v:Nat)(σ:Nat->Va):Prop:=v<I.n->rowS (bgS (I.bag v)) σ∈(I.R.getD v Af).2
def Inp.ch'(I:Inp)(v:Nat):List Nat:=(Ak I.n).filter λc=>decide ((v<I.n/\(I.bag c).p=(v:Int))\/(v=I.n/\(I.bag c).p<0))
def Inp.fr'(I:Inp)(v:Nat):Bool:=decide (v<I.f)||decide (v=I.n)
def Inp.one'(I:Inp)(c:Nat)(σ:Nat->Va):Nat:=if c<I.f then(tlk (I.TT c) (rowS (I.bag c).k σ)).getD 0 else if rowS (I.bag c).k σ∈I.VT c then 1 else 0
def Inp.w'(I:Inp)(v:Nat)(σ:Nat->Va):Nat:=if v<I.n then wtL I.f I.VT I.TT (rowS (bgS (I.bag v)) σ) (chV I.b v)else((I.ch' I.n).map λc=>I.one' c σ).foldr (· *·) 1
def Inp.vals(I:Inp)(c:Nat)(σ:Nat->Va):List Va:=((I.R.getD c Af).2.filter λx=>decide (zM x (zBc (λu=>(I.bag c).k.testBit u) (zAf (bgS (I.bag c))))=rowS (I.bag c).k σ)).map λx=>x.getD (rk (λu=>(bgS (I.bag c)).testBit u) c) Af
theorem zMx:∀(l:List Nat)(a:Nat),l.foldl (· *·) a=a*l.foldr (· *·) 1
 |[],a=>by simp
 |x::l,a=>by rw[BT,zMx l,BW,Cc]
section
variable{I:Inp}(h:I.Ok)
include h
theorem Inp.elt:Go.Proofs.YtjcofbkhoeockaaGreatDoor.Elt (I.n+1) I.ix' I.k' I.par':=by
 have hO:=Inp.ook h;have hb:=Inp.bok h;have hE:=Inp.Elt h;have h0:=zX0 (O:=I.O) (by have:=h.n;omega:I.n<=32) hE;have hix:∀v,v<I.n->I.ix' v<I.n/\I.ix' v=I.O.idxOf v:=λv hv=>by
  unfold Inp.ix';rw[if_pos hv];exact⟨(hO.ix hv).1,rfl⟩
 have hixn:I.ix' I.n=I.n:=if_neg (by omega);refine⟨λu v hu hv e=>?_,λc w hc hk=>?_,λc v hc hp=>?_,λc v v' hp hp'=>?_,λc w hc hk=>?_⟩
 ·rcases AC u I.n with h1|h1<;>rcases AC v I.n with h2|h2
  ·rw[(hix u h1).2,(hix v h2).2]at e;exact hO.inj h1 h2 e
  all_goals grind
 ·obtain⟨c1,⟨w1,w2⟩|⟨rfl,w2⟩⟩:=hk
  ·have:=(hb.r c w c1 w2).2
   grind
  grind
 ·obtain⟨c1,⟨v1,v2⟩|⟨rfl,v2⟩⟩:=hp
  ·obtain⟨p1,p2⟩:=hb.p c v c1 v2;refine⟨⟨c1, .inl ⟨v1,p1⟩⟩,λw hw hne=>?_⟩;obtain⟨_,⟨w1,w2⟩|⟨rfl,w2⟩⟩:=hw
   ·exact⟨v1, .inl ⟨w1,key_par hO h0 c1 v2 w2 hne⟩⟩
   omega
  refine⟨⟨c1, .inr ⟨rfl,v2⟩⟩,λw hw hne=>?_⟩;obtain⟨_,⟨w1,w2⟩|⟨rfl,w2⟩⟩:=hw
  ·rw[hb.q c c1 v2]at w2;simp at w2
  exact absurd rfl hne
 ·obtain⟨_,⟨v1,v2⟩|⟨rfl,v2⟩⟩:=hp<;>obtain⟨_,⟨v3,v4⟩|⟨rfl,v4⟩⟩:=hp'<;>omega
 have c1:=hk.1;rcases hb.pz c c1 with e|⟨v,e,hv⟩
 ·exact⟨I.n,c1, .inr ⟨rfl,by omega⟩⟩
 exact⟨v,c1, .inl ⟨hv,e⟩⟩
theorem Inp.locR:Loc I.k' I.R':=λv σ τ e1 e2 hr hv=>by
 have:=hr hv
 rwa[zF2 (τ:=τ) λw hw=>?_]at this;rcases(Inp.bag_bit h hv).1 hw with rfl|hk
 ·exact e1
 exact e2 w ⟨hv, .inl ⟨((Inp.bok h).r v w hv hk).1,hk⟩⟩
omit h in
theorem Inp.mem_ch'(v c:Nat):c∈I.ch' v↔c<I.n+1/\I.par' c v:=by
 grind [Inp.ch',Inp.par']
omit h in
theorem Inp.nd_ch'(v:Nat):(I.ch' v).Nodup:=Ct.filter _
theorem Inp.key_sub(hc:c<I.n):∀w,(I.bag c).k.testBit w=Ab->(bgS (I.bag c)).testBit w=true:=λw hw=>(Inp.bag_bit h hc).2 (.inr hw)
theorem Inp.row_up(hc:c<I.n)(σ:Nat->Va)(hx:x∈(I.R.getD c Af).2)(hk:zM x (zBc (λu=>(I.bag c).k.testBit u) (zAf (bgS (I.bag c))))=rowS (I.bag c).k σ):rowS (bgS (I.bag c)) (up σ c (x.getD (rk (λu=>(bgS (I.bag c)).testBit u) c) Af))=x:=by
 have hn:=h.n;obtain⟨ξ,rfl⟩:=Inp.jn_of h hc hx;rw[zHx (Inp.key_sub h hc)]at hk;rw[zRx _ ξ (by omega:c<32) ((Inp.bag_bit h hc).2 (.inl rfl))];refine zF2 λw hw=>?_;by_cases e:w=c
 ·subst e;exact zTu σ _ _
 rw[zNi σ _ e];have hk2:=((Inp.bag_bit h hc).1 hw).resolve_left e;have hwn:=((Inp.bok h).r c w hc hk2).1;exact(row_inj hk (by omega) hk2).symm
theorem Inp.up_row(hc:c<I.n)(σ:Nat->Va)(a:Va):zM (rowS (bgS (I.bag c)) (up σ c a)) (zBc (λu=>(I.bag c).k.testBit u) (zAf (bgS (I.bag c))))=rowS (I.bag c).k σ:=by
 rw[zHx (Inp.key_sub h hc)];refine zF2 λw hw=>zNi σ _ λe=>?_
 have:=((Inp.bok h).r c w hc hw).2
 rw[e]at this;omega
theorem Inp.vals_ok(hc:c<I.n)(σ:Nat->Va):(I.vals c σ).Nodup/\∀a,a∈I.vals c σ↔I.R' c (up σ c a):=by
 have hn:=h.n;have hnd:(I.R.getD c Af).2.Nodup:=by
  rw[Inp.Rat hc];exact((zHb (Inp.aok h hc)).1).imp λ{a b} hab e=>by
   subst e
   have:=(zBq a a).2.1.2 rfl
   omega
 constructor
 ·unfold Inp.vals;rw[BH,BK];refine(hnd.filter _).imp_of_mem λ{x y} hx hy hne e=>hne ?_;obtain⟨x1,x2⟩:=AV.1 hx;obtain⟨y1,y2⟩:=AV.1 hy;have x2:=of_decide_eq_true x2;have y2:=of_decide_eq_true y2;rw[<-Inp.row_up h hc σ x1 x2,<-Inp.row_up h hc σ y1 y2,e]
 intro a;unfold Inp.vals;rw[AJ];constructor
 ·rintro⟨x,hx,rfl⟩ _;grind [Inp.row_up]
 intro hr;refine⟨_,AV.2 ⟨hr hc,decide_eq_true (Inp.up_row h hc σ a)⟩,?_⟩;rw[zRx _ _ (by omega:c<32) ((Inp.bag_bit h hc).2 (.inl rfl))];exact zTu σ c a
theorem Inp.free_key(hc:c<I.f)(hw:(I.bag c).k.testBit w=Ab):w<c:=by
 have hf:=h.f;obtain⟨w1,w2⟩:=(Inp.bok h).r c w (by omega) hw;rw[Inp.ixF h hc]at w2;rcases AC w I.f with h1|h1
 ·rw[Inp.ixF h h1]at w2;omega
 exfalso;have hP:=zGl (Inp.ook h).nd (Inp.ook h).len (Inp.ook h).lt w w1;unfold Inp.O ordL at hP;rcases A0.1 hP with hP|hP
 ·have:I.O.idxOf w<I.P.length:=by
   show(I.P++_).idxOf w<_;grind
  omega
 grind
theorem Inp.free_mem(hc:c<I.f):zAf (bgS (I.bag c))=zAf (I.bag c).k++[c]:=by
 have hf:=h.f;have hn:=h.n;refine zZc (Ci.filter _) (BJ.2 ⟨Ci.filter _,by simp,λw hw x hx=>?_⟩) λw=>?_
 ·rw[AY.1 hx];exact Inp.free_key h hc (zF8.1 hw).2
 rw[A0,zF8,zF8,Inp.bag_bit h (by omega),AY];grind
theorem Inp.free_all(hc:c<I.f)(σ:Nat->Va):rowS (bgS (I.bag c)) σ=rowS (I.bag c).k σ++[σ c]:=by
 unfold rowS;grind [Inp.free_mem]
theorem Inp.free_row(hc:c<I.f)(σ:Nat->Va):kyX (rowS (bgS (I.bag c)) σ)=rowS (I.bag c).k σ:=by
 simp_all [Inp.free_all]
end
theorem zL6(q:Nat->Bool)(g g':Nat->Nat):∀l:List Nat,(∀c∈l,g c=if q c=Ab then g' c else 1)->(l.map g).foldr (· *·) 1=((l.filter q).map g').foldr (· *·) 1
 |[],_=>rfl
 |c::l,hl=>by
  have ih:=zL6 q g g' l λd hd=>hl d (Bf _ hd);grind
section
variable{I:Inp}(h:I.Ok)
include h
omit h in
theorem Inp.fr_c(hc:c<I.n):I.fr' c=decide (c<I.f):=by
 unfold Inp.fr';grind
theorem Inp.w_prod(hv:v<I.n+1):I.w' v σ=((I.ch' v).map λc=>I.one' c σ).foldr (· *·) 1:=by
 unfold Inp.w';by_cases hvn:v<I.n
 ·rw[if_pos hvn];unfold wtL;rw[zMx,Cd];have hL:I.b.L.length=I.n:=by simp
  have e:chV I.b v=(I.ch' v).map λc=>(c,zBc (λu=>(I.bag c).k.testBit u) (zAf (bgS (I.bag v)))):=by
   show chI I.L (I.R.getD v Af).1 v I.L.length=_;unfold chI Inp.ch';rw[show I.L.length=I.n by simp];grind [Ak,CO,AW]
  rw[e,A4];congr 1;refine AW λc hc=>?_;obtain⟨_,c1,c2⟩:=(Inp.mem_ch' v c).1 hc;have hp:(I.bag c).p=(v:Int):=by rcases c2 with c2|c2<;>omega
  have hsub:∀w,(I.bag c).k.testBit w=Ab->(bgS (I.bag v)).testBit w=true:=λw hw=>by
   refine(Inp.bag_bit h hvn).2 ?_;by_cases ew:w=v
   ·exact .inl ew
   exact .inr (key_par (Inp.ook h) (zX0 (O:=I.O) (by have:=h.n;omega) (Inp.Elt h)) c1 hp hw ew)
  show wone I.f I.VT I.TT (rowS (bgS (I.bag v)) σ) (c,_)=I.one' c σ;unfold wone Inp.one';dsimp only;rw[zHx hsub]
 grind
omit h in
theorem Inp.keyC_eq(hc:c<I.n):keyC I.b c=zBc (λu=>(I.bag c).k.testBit u) (zAf (bgS (I.bag c))):=by
 grind
theorem Inp.one_free(hc:c<I.f)(σ:Nat->Va):I.one' c σ=((I.vals c σ).map λa=>I.w' c (up σ c a)).sum:=by
 have hcn:c<I.n:=by have:=h.f;omega
 obtain⟨m,hm⟩:=Inp.srt h c;have ht:=(Inp.teq h hcn).2;unfold Inp.one';rw[if_pos hc,ht,(tot_sum _ _ m _ _ rfl hm).1];unfold sumK Inp.vals;rw[A4];have e:(I.b.R.getD c Af).2.filter (λx=>decide (kyX x=rowS (I.bag c).k σ))=(I.R.getD c Af).2.filter (λx=>decide (zM x (zBc (λu=>(I.bag c).k.testBit u) (zAf (bgS (I.bag c))))=rowS (I.bag c).k σ)):=CO λx hx=>by
  obtain⟨ξ,rfl⟩:=Inp.jn_of h hcn hx;rw[Inp.free_row h hc,zHx (Inp.key_sub h hcn)]
 rw[e];congr 1;refine AW λx hx=>?_;obtain⟨x1,x2⟩:=AV.1 hx;show wtL _ _ _ x _=I.w' c (up σ c _);unfold Inp.w';rw[if_pos hcn,Inp.row_up h hcn σ x1 (of_decide_eq_true x2)]
theorem Inp.one_non(hc:I.f<=c)(hcn:c<I.n)(σ:Nat->Va):rowS (I.bag c).k σ∈I.VT c↔∃a,I.R' c (up σ c a)/\0<I.w' c (up σ c a):=by
 rw[(Inp.teq h hcn).1];unfold redK;rw[zZg,AJ,Inp.keyC_eq hcn];constructor
 ·rintro⟨x,hx,e⟩;obtain⟨x1,x2⟩:=AV.1 hx;have hru:=Inp.row_up h hcn σ x1 e;refine⟨_,λ_=>by rw[hru];exact x1,?_⟩;unfold Inp.w';grind
 rintro⟨a,hr,hw⟩;unfold Inp.w' at hw;rw[if_pos hcn]at hw;exact⟨_,AV.2 ⟨hr hcn,decide_eq_true hw⟩,Inp.up_row h hcn σ a⟩
theorem Inp.cnt(hv:v<I.n+1)(hm:I.ix' v<m)(hr:I.R' v σ):Crd (Pv (I.n+1) I.k' I.par' I.R' I.ch' I.fr' m v σ) (I.w' v σ):=by
 refine Elt.count (Inp.elt h) I.R' I.ch' I.fr' (Inp.locR h) Inp.mem_ch' Inp.nd_ch' I.w' I.one' I.vals (λv σ hv _=>Inp.w_prod h hv) (λc σ _ hp=>?_) (λc σ _ hp hf=>?_) (λc σ _ hp hf=>?_) m v σ hv hm hr
 ·obtain⟨v,c1,_⟩:=hp;exact Inp.vals_ok h c1 σ
 ·obtain⟨v,c1,_⟩:=hp;grind [Inp.fr_c,Inp.one_free]
 obtain⟨v,c1,_⟩:=hp;rw[Inp.fr_c c1]at hf;have hcf:¬c<I.f:=of_decide_eq_false hf
 have:=Inp.one_non h (by omega) c1 σ
 unfold Inp.one';grind
theorem Inp.und_root(hu:u<I.n):Und I.par' u I.n:=by
 have key:∀d u,u<I.n->I.n<=I.ix' u+d->Und I.par' u I.n:=by
  intro d;induction d with
  |zero=>
   intro u hu hd
   have:=((Inp.elt h).kk u I.n (by omega))
   exfalso;unfold Inp.ix' at hd;rw[if_pos hu]at hd
   have:=((Inp.ook h).ix hu).1
   omega
  | succ d ih=>
   intro u hu hd;rcases(Inp.bok h).pz u hu with e|⟨v,e,hv⟩
   ·exact .step ⟨hu, .inr ⟨rfl,by omega⟩⟩ (.refl _)
   have hp:I.par' u v:=⟨hu, .inl ⟨hv,e⟩⟩
   have:=((Inp.elt h).pn (by omega) hp).2
   exact .step hp (ih v hv (by omega))
 exact key I.n u hu (by omega)
theorem Inp.tot_w(hA:∀a∈I.A,a.2≠[])(σ:Nat->Va):I.tot=I.w' I.n σ:=by
 have hb:=Inp.bok h;show(if zPp I.b.A then 0 else rtL I.b.L I.b.f I.VT I.TT I.b.L.length)=_;rw[if_neg]
 ·unfold rtL;rw[zMx,Cd];unfold Inp.w';rw[if_neg (by omega)];show((Ak I.L.length).map _).foldr _ _=_;rw[show I.L.length=I.n by simp];unfold Inp.ch';refine zL6 _ _ _ _ λc hc=>?_;have hcn:=AQ.1 hc;show rone I.L I.f I.VT I.TT c=_;unfold rone;rw[Inp.Lat hcn];by_cases hp:0<=(I.bag c).p
  ·grind
  rw [if_neg hp,if_pos (decide_eq_true (.inr ⟨rfl,by omega⟩))];have hk:=hb.q c hcn (by omega);have hr0:rowS (I.bag c).k σ=[]:=by
   rw[hk];unfold rowS zAf;simp
  unfold Inp.one';rw[hr0];by_cases hcf:c<I.f
  ·grind
  rw[if_neg hcf,if_neg hcf];by_cases hV:I.VT c=[]
  ·grind
  rw[if_neg hV,if_pos];obtain⟨r,hr⟩:=CW _ hV;have hr':=hr;rw[(Inp.teq h hcn).1]at hr';unfold redK at hr';rw[zZg,AJ]at hr';obtain⟨x,hx,e⟩:=hr';obtain⟨ξ,rfl⟩:=Inp.jn_of h hcn (AV.1 hx).1;rw[Inp.keyC_eq hcn,zHx (Inp.key_sub h hcn),hk]at e;have:r=[]:=by
   rw[<-e];unfold rowS zAf;simp
  rw[<-this];exact hr
 unfold zPp;grind
end
section
variable{n:Nat}{ix:Nat->Nat}{k:Nat->Nat->Prop}{par:Nat->Nat->Prop}(H:Elt n ix k par){ch:Nat->List Nat}{fr:Nat->Bool}
include H
theorem Elt.Dn_ix(hch:∀v c,c∈ch v↔c<n/\par c v):∀(m v:Nat),∀u∈Dn ch fr m v,ix u<ix v
 |0,v,u,h=>by cases h
 | m+1,v,u,h=>by
  obtain⟨c,hc,hu⟩:=BA.1 h;obtain⟨c1,c2⟩:=(hch v c).1 hc;have h1:=(H.pn c1 c2).2;split at hu
  ·rcases A_.1 hu with rfl|hu
   ·exact h1
   have:=(H.und_ix (Elt.Dn_und ch fr hch m c u hu) (Elt.Dn_fr ch fr hch m c u hu).2).2
   omega
  cases hu
end
inductive Cn(A:List (List Nat×List Rw))(r:Nat):Nat->Prop
 |refl:Cn A r r
 |step {u w:Nat} (a:List Nat×List Rw):a∈A->u∈a.1->w∈a.1->Cn A r w->Cn A r u
section
variable{I:Inp}(h:I.Ok)
include h
theorem Inp.fr_par(c v:Nat)(hc:c<I.n+1)(hf:I.fr' c=Ab)(hp:I.par' c v):I.fr' v=true:=by
 obtain⟨c1,⟨v1,v2⟩|⟨rfl,v2⟩⟩:=hp
 ·rw[Inp.fr_c c1,decide_eq_true_eq]at hf
  have:=Inp.free_key h hf ((Inp.bok h).p c v c1 v2).1
  rw[Inp.fr_c v1,decide_eq_true_eq];omega
 unfold Inp.fr';simp
theorem Inp.tot_sol(hA:∀a∈I.A,a.2≠[]):Crd (λy=>∃τ,I.Sol τ/\y=(Ak I.f).map τ) I.tot:=by
 have hf:=h.f;have hixn:I.ix' I.n=I.n:=if_neg (by omega);have hc:=Inp.cnt h (m:=I.n+1) (v:=I.n) (σ:=λ_=>Af) (by omega) (by omega) (λhlt=>absurd hlt (by omega));rw[<-Inp.tot_w h hA]at hc;have hmem:∀w,w∈Dn I.ch' I.fr' (I.n+1) I.n↔w∈Ak I.f:=λw=>by
  rw[AQ];constructor
  ·intro hw;obtain⟨f1,f2⟩:=Elt.Dn_fr I.ch' I.fr' Inp.mem_ch' _ _ w hw;have f3:=Elt.Dn_ix (Inp.elt h) (fr:=I.fr') Inp.mem_ch' _ _ w hw;have hne:w≠I.n:=λe=>by rw[e]at f3;omega
   rw[Inp.fr_c (by omega),decide_eq_true_eq]at f1;exact f1
  intro hw;exact Elt.Dn_in (Inp.elt h) I.ch' I.fr' Inp.mem_ch' (Inp.fr_par h) (Inp.und_root h (by omega)) (by omega) (by rw[Inp.fr_c (by omega)];exact decide_eq_true hw) (by omega) _ (by omega)
 have hperm:=(List.perm_ext_iff_of_nodup (Elt.Dn_nd (Inp.elt h) I.ch' I.fr' Inp.mem_ch' Inp.nd_ch' (I.n+1) I.n) Ct).2 hmem;refine Crd.perm hperm (hc.congr λy=>⟨?_,?_⟩)
 ·rintro⟨τ,_,_,t3,rfl⟩;exact⟨τ,(Inp.sol_iff h hA τ).1 λv hv=>t3 v (by omega) (Inp.und_root h hv) hv,rfl⟩
 rintro⟨τ,hs,rfl⟩;refine⟨up τ I.n Af,zTu τ _ _,λw hw=>absurd hw.1 (by omega),λu hu _ hun=>?_,AW λw hw=>?_⟩
 ·have:=(Inp.sol_iff h hA τ).2 hs u hun
  rwa[zF2 (τ:=up τ I.n Af) λw hw=>?_]at this;have hwn:w<I.n:=by
   rcases(Inp.bag_bit h hun).1 hw with rfl|hk
   ·exact hun
   exact((Inp.bok h).r u w hun hk).1
  exact(zNi τ _ (by omega)).symm
 have:=AQ.1 ((hmem w).1 hw)
 exact(zNi τ _ (by omega)).symm
end
theorem zSu{g:Nat->Nat}:∀{l:List Nat},0<(l.map g).foldr (· *·) 1->∀c∈l,0<g c
 |a::l,h,c,hc=>by
  rw[Bz,BW]at h;rcases A_.1 hc with rfl|hc
  ·grind
  exact zSu (Nat.pos_of_ne_zero λe=>by rw[e,Nat.mul_zero]at h;omega) c hc
section
variable{I:Inp}(h:I.Ok)
include h
theorem Inp.und_fr(hu:Und I.par' w c)(hw:w<I.n+1)(hf:I.fr' w=Ab):I.fr' c=true:=by
 induction hu with
 |refl=>exact hf
 |step hp hs ih=>exact ih ((Inp.elt h).pn hw hp).1 (Inp.fr_par h _ _ hw hf hp)
theorem Inp.ext_go(r:Nat->Va)(hall:∀v,v<I.f->I.R' v r/\0<I.w' v r):∀(m v:Nat),v<I.n+1->I.ix' v<m->I.R' v r->0<I.w' v r->∃τ,(∀w,w<I.f\/w=I.n->τ w=r w)/\AllU (I.n+1) I.par' I.R' v τ
 |0,v,_,hm,_,_=>by omega
 | m +1,v,hv,hm,hr,hw=>by
  classical
  have hfn:=h.f;rw[Inp.w_prod h hv]at hw;have hpos:=zSu hw;have hch:∀c,c<I.n+1->I.par' c v->∃τ:Nat->Va,(∀w,I.k' c w->τ w=r w)/\AllU (I.n+1) I.par' I.R' c τ/\(c<I.f->∀w,w<I.f\/w=I.n->τ w=r w):=λc hc hp=>by
   have hcn:=hp.1;have hone:=hpos c ((Inp.mem_ch' v c).2 ⟨hc,hp⟩);have hix:=((Inp.elt h).pn hc hp).2;by_cases hcf:c<I.f
   ·obtain⟨h1,h2⟩:=hall c hcf;obtain⟨τ,t1,t2⟩:=Inp.ext_go r hall m c hc (by omega) h1 h2;refine⟨τ,λw hk=>?_,t2,λ_=>t1⟩;obtain⟨_,⟨_,hk⟩|⟨rfl,hk⟩⟩:=hk
    ·exact t1 w (.inl (by have:=Inp.free_key h hcf hk;omega))
    exact t1 _ (.inr rfl)
   unfold Inp.one' at hone;rw[if_neg hcf]at hone;have hin:rowS (I.bag c).k r∈I.VT c:=Cu λhh=>by rw[if_neg hh]at hone;omega
   obtain⟨a,ha,hwa⟩:=(Inp.one_non h (by omega) hcn r).1 hin;obtain⟨y,τ,t1,t2,t3,_⟩:=(Inp.cnt h (m:=I.n+1) (v:=c) (σ:=up r c a) hc (by
    unfold Inp.ix';rw[if_pos hcn]
    have:=((Inp.ook h).ix hcn).1
    omega) ha).pos.1 hwa
   refine⟨τ,λw hk=>?_,t3,λhh=>absurd hh hcf⟩;have hne:w≠c:=λe=>by
    have:=((Inp.elt h).kk c w hc hk).2
    rw[e]at this;omega
   rw[t2 w hk,zNi r _ hne]
  obtain⟨g,hg⟩:∃g:Nat->Nat->Va,∀c,c<I.n+1->I.par' c v->(∀w,I.k' c w->g c w=r w)/\AllU (I.n+1) I.par' I.R' c (g c)/\(c<I.f->∀w,w<I.f\/w=I.n->g c w=r w):=by
   refine⟨λc=>if hh:c<I.n+1/\I.par' c v then BI (hch c hh.1 hh.2)else r,λc h1 h2=>?_⟩;grind
  obtain⟨τ,⟨t0,t1⟩,t2⟩:=(Inp.elt h).join2 I.R' (Inp.locR h) hv hr g λc c1 c2=>⟨(hg c c1 c2).1,(hg c c1 c2).2.1⟩;refine⟨τ,λw hwf=>?_,t2⟩;by_cases hex:∃c,c<I.n+1/\I.par' c v/\Und I.par' w c
  ·obtain⟨c,c1,c2,c3⟩:=hex;have hwn:w<I.n:=by
    rcases hwf with hwf|rfl
    ·omega
    exfalso;have h1:=((Inp.elt h).und_ix c3 (by omega)).2;have h3:I.ix' I.n=I.n:=if_neg (by omega);have h4:I.ix' c=I.O.idxOf c:=if_pos c2.1
    have:=((Inp.ook h).ix c2.1).1
    omega
   have hwf2:w<I.f:=hwf.resolve_right (by omega);rw[t1 w c c1 c2 c3];have hfc:=Inp.und_fr h c3 (by omega) (by rw[Inp.fr_c hwn];exact decide_eq_true hwf2);rw[Inp.fr_c c2.1,decide_eq_true_eq]at hfc;exact(hg c c1 c2).2.2 hfc w hwf
  exact t0 w hex
theorem Inp.ans_iff(hA:∀a∈I.A,a.2≠[])(r:Nat->Va):((∀v,v<I.f->I.R' v r/\0<I.w' v r)/\0<I.tot)↔∃τ,I.Sol τ/\∀v,v<I.f->τ v=r v:=by
 have hfn:=h.f;have hixn:I.ix' I.n=I.n:=if_neg (by omega);constructor
 ·rintro⟨hall,ht⟩;rw[Inp.tot_w h hA r]at ht;obtain⟨τ,t1,t2⟩:=Inp.ext_go h r hall (I.n+1) I.n (by omega) (by omega) (λhlt=>absurd hlt (by omega)) ht;exact⟨τ,(Inp.sol_iff h hA τ).1 λv hv=>t2 v (by omega) (Inp.und_root h hv) hv,λv hv=>t1 v (.inl hv)⟩
 rintro⟨τ,hs,he⟩;have hb:=(Inp.sol_iff h hA τ).2 hs;refine⟨λv hv=>?_,(Inp.tot_sol h hA).pos.2 ⟨_,τ,hs,rfl⟩⟩;have hvn:v<I.n:=by omega
 have hrow:rowS (bgS (I.bag v)) τ=rowS (bgS (I.bag v)) r:=zF2 λw hw=>by
  rcases(Inp.bag_bit h hvn).1 hw with rfl|hk
  ·exact he w hv
  exact he w (by have:=Inp.free_key h hv hk;omega)
 have hR:I.R' v r:=λ_=>by rw[<-hrow];exact hb v hvn
 refine⟨hR,?_⟩;have hw:I.w' v r=I.w' v τ:=by
  unfold Inp.w';grind
 rw[hw];refine(Inp.cnt h (m:=I.n+1) (v:=v) (σ:=τ) (by omega) ?_ λ_=>hb v hvn).pos.2 ⟨_,τ,rfl,λ_ _=>rfl,λu hu _ hun=>hb u hun,rfl⟩;unfold Inp.ix';rw[if_pos hvn]
 have:=((Inp.ook h).ix hvn).1
 omega
end
structure Gst(w:List Va->Nat)(rows:List (List Va))(G:List (List Va×List (Va×Nat))):Prop where
 nd:(G.map (·.1)).Nodup
 i:∀b∈G,∀e∈b.2,∃x∈rows,0<w x/\kyX x=b.1/\vaX x=e.1/\w x=e.2
 o:∀x∈rows,0<w x->∃b∈G,b.1=kyX x/\(vaX x,w x)∈b.2
 a:∀b∈G,b.2.Pairwise λe f=>vcmp e.1 f.1<0
 l:∀m b,G=m++[b]->∃z∈rows,kyX z=b.1/\∀y∈rows,0<w y->y=z\/rcmp y z<0
 e:∀b∈G,b.2≠[]
theorem gp_st(w:List Va->Nat)(n:Nat):∀(r rows:List (List Va)),rows.reverse=r->Srn n rows->Gst w rows (gp w rows)
 | [],rows,hr,_=>by
  obtain rfl:rows=[]:=by simpa using hr
  exact⟨Cf,λb hb=>(by cases hb),λx hx=>(by cases hx),λb hb=>(by cases hb),λm b e=>(by
   have:=congrArg Aa e
   simp[gp]at this),λb hb=>(by cases hb)⟩
 | x :: r,rows,hr,hs=>by
  obtain rfl:rows=r.reverse++[x]:=by rw[<-Bs rows,hr,Cg]
  obtain⟨s1,s2⟩:=hs;rw[BJ]at s1;have hsr:Srn n r.reverse:=⟨s1.1,λy hy=>s2 y (A3 _ hy)⟩;have ih:=gp_st w n r r.reverse (Bs r) hsr;have hlt:∀y∈r.reverse,rcmp y x<0:=λy hy=>s1.2.2 y hy x (by simp);rw[zVs];by_cases hw:0<w x
  ·rw [if_pos hw];have hbel:∀b∈gp w r.reverse,b.1=kyX x->∀e∈b.2,vcmp e.1 (vaX x)<0:=λb hb hk e he=>by
    obtain⟨y,y1,_,y2,y3,_⟩:=ih.i b hb e he;have h1:=hlt y y1;rw[zG9 (s2 y (A3 _ y1)),zG9 (s2 x (by simp)),y2,y3,hk,zHw]at h1;exact h1
   have hlast:∀y∈r.reverse++[x],0<w y->y=x\/rcmp y x<0:=λy hy _=>by
    grind
   rcases CM (gp w r.reverse)with e|⟨m,b,e⟩
   ·rw[e]at ih⊢;show Gst w (r.reverse++[x]) [(kyX x,[(vaX x,w x)])];refine⟨by simp,λb hb f hf=>?_,λy hy hwy=>?_,λb hb=>?_,λm b e2=>⟨x,by simp,?_,hlast⟩,λb hb=>by rw[AY]at hb;subst hb;simp⟩
    ·grind
    ·rcases A0.1 hy with hy|hy
     ·obtain⟨b,hb,_⟩:=ih.o y hy hwy;cases hb
     simp_all
    ·grind
    have:=BZ (show[]++[(kyX x,[(vaX x,w x)])]=m++[b]from e2) rfl
    rw[<-(BB.inj this).1]
   rw [CN]at e;rw[e]at ih hbel⊢;obtain⟨z,z1,z2,z3⟩:=ih.l m b rfl;unfold gpA;rw[List.getLast?_concat];dsimp only;by_cases ek:b.1=kyX x
   ·rw [if_pos ek,List.dropLast_concat];refine⟨?_,λb' hb' f hf=>?_,λy hy hwy=>?_,λb' hb'=>?_,λm' b' e2=>⟨x,by simp,?_,hlast⟩,λb' hb'=>by
     rcases A0.1 hb' with hb'|hb'
     ·exact ih.e b' (A3 _ hb')
     rw[AY]at hb';subst hb';simp⟩
    ·have:=ih.nd
     grind
    ·rcases A0.1 hb' with hb'|hb'
     ·obtain⟨y,y1,y2⟩:=ih.i b' (A3 _ hb') f hf;grind
     rw[AY]at hb';subst hb';rcases A0.1 hf with hf|hf
     ·obtain⟨y,y1,y2⟩:=ih.i b (by simp) f hf;grind
     grind
    ·rcases A0.1 hy with hy|hy
     ·obtain⟨b',hb',h1,h2⟩:=ih.o y hy hwy;rcases A0.1 hb' with hb'|hb'
      ·grind
      simp_all
     simp_all
    ·rcases A0.1 hb' with hb'|hb'
     ·exact ih.a b' (A3 _ hb')
     rw[AY]at hb';subst hb';refine BJ.2 ⟨ih.a b (by simp),by simp,λf hf g hg=>?_⟩;grind
    grind [BZ,BB.inj]
   rw [if_neg ek];have hnew:kyX x∉(m++[b]).map (·.1):=λhm=>by
    obtain⟨b',hb',e3⟩:=AJ.1 hm;have hne:∃y∈r.reverse,0<w y/\kyX y=kyX x:=by
     cases hb2:b'.2 with
     |nil=>exact absurd hb2 (ih.e b' hb')
     |cons f fs=>
      obtain⟨y,y1,y2,y3,_⟩:=ih.i b' hb' f (by rw[hb2];simp);grind
    obtain⟨y,y1,hwy,y2⟩:=hne;rcases z3 y y1 hwy with rfl|hyz
    ·grind
    have hzx:=hlt z z1;rw[zG9 (s2 y (A3 _ y1)),zG9 (s2 z (A3 _ z1))]at hyz;rw[zG9 (s2 z (A3 _ z1)),zG9 (s2 x (by simp)),<-y2]at hzx;have hlen:(kyX y).length=(kyX z).length:=by
     grind
    exact ek (z2.symm.trans ((squeeze hlen hyz hzx).symm.trans y2))
   refine⟨?_,λb' hb' f hf=>?_,λy hy hwy=>?_,λb' hb'=>?_,λm' b' e2=>⟨x,by simp,?_,hlast⟩,λb' hb'=>by
    rcases A0.1 hb' with hb'|hb'
    ·exact ih.e b' hb'
    rw[AY]at hb';subst hb';simp⟩
   ·rw[BE,List.nodup_append];refine⟨ih.nd,by simp,λp hp q hq e4=>?_⟩;grind
   ·rcases A0.1 hb' with hb'|hb'
    ·obtain⟨y,y1,y2⟩:=ih.i b' hb' f hf;grind
    grind
   ·rcases A0.1 hy with hy|hy
    ·obtain⟨b',hb',h1,h2⟩:=ih.o y hy hwy;grind
    rw[AY]at hy;subst hy;exact⟨_,List.mem_append_right _ (AY.2 rfl),rfl,AY.2 rfl⟩
   ·rcases A0.1 hb' with hb'|hb'
    ·exact ih.a b' hb'
    grind
   grind [BZ,BB.inj]
  rw[if_neg hw];refine⟨ih.nd,λb hb f hf=>?_,λy hy hwy=>?_,ih.a,λm b e=>?_,ih.e⟩
  ·obtain⟨y,y1,y2⟩:=ih.i b hb f hf;grind
  ·rcases A0.1 hy with hy|hy
   ·exact ih.o y hy hwy
   grind
  obtain⟨z,z1,z2,z3⟩:=ih.l m b e;grind
theorem cmp_f(d:Bool)(a b:Va):(WT.cmp d a b=0↔a=b)/\WT.cmp d b a=-WT.cmp d a b:=by
 obtain⟨_,h2,h3⟩:=zAy a b;obtain⟨_,k2,k3⟩:=zAy b a;cases d
 ·exact⟨h2,h3⟩
 exact⟨k2.trans eq_comm,k3⟩
theorem zLa(d:Bool)(u:Va):∀t:WT,(t.lst.Pairwise λe f=>WT.cmp d e.1 f.1<0)->((t.look d u).isSome=Ab↔∃w,(u,w)∈t.lst)
 | .nil,_=>by simp[WT.look,WT.lst]
 | .node v w l r,hp=>by
  have hp:(l.lst++(v,w)::r.lst).Pairwise λe f=>WT.cmp d e.1 f.1<0:=hp;obtain⟨p1,p2,p3⟩:=BJ.1 hp;obtain⟨q1,q2⟩:=BP.1 p2;have ihl:=zLa d u l p1;have ihr:=zLa d u r q2;obtain⟨c1,c2⟩:=cmp_f d u v;unfold WT.look;show _↔∃x,(u,x)∈l.lst++(v,w)::r.lst;simp only[A0,A_];split
  ·grind
  split
  ·rename_i hge hgt;rw[ihr];constructor
   ·grind
   rintro⟨x,hx|hx|hx⟩
   ·have:WT.cmp d u v<0:=p3 (u,x) hx (v,w) (by simp);omega
   all_goals grind
  grind
theorem zZb(d:Bool)(l:List (Va×Nat))(h:(asc d l).Pairwise λe f=>vcmp e.1 f.1<0):l.Pairwise λe f=>WT.cmp d e.1 f.1<0:=by
 cases d
 ·exact h
 have h:l.reverse.Pairwise λe f=>vcmp e.1 f.1<0:=h;rw[List.pairwise_reverse]at h;exact h
section
variable{I:Inp}(h:I.Ok)
include h
theorem Inp.buk_ok(hv:v<I.n):((I.U v).map (·.key)).Nodup/\∀key a,(∃p,p<(I.U v).length/\((I.U v).getD p Af).key=key/\(((I.U v).getD p Af).t.look (I.desc.getD v Ac) a).isSome=Ab)↔I.tot≠0/\∃x∈(I.R.getD v Af).2,0<wtL I.f I.VT I.TT x (chV I.b v)/\kyX x=key/\vaX x=a:=by
 obtain⟨n,hn⟩:=Inp.srt h v;have hg:=gp_st (λx=>wtL I.f I.VT I.TT x (chV I.b v)) n _ _ rfl hn;have hsh:=zVr (I.desc.getD v Ac) (λx=>wtL I.f I.VT I.TT x (chV I.b v)) n _ _ rfl hn;have hU:I.U v=if I.tot=0 then[]else grpL (I.desc.getD v Ac) (λx=>wtL I.f I.VT I.TT x (chV I.b v)) (I.b.R.getD v Af).2:=rfl
 rw[hU];by_cases ht:I.tot=0
 ·grind
 rw[if_neg ht];generalize hG:grpL (I.desc.getD v Ac) (λx=>wtL I.f I.VT I.TT x (chV I.b v)) (I.b.R.getD v Af).2=G at*;have hkey:(G.map (·.key))=(gp (λx=>wtL I.f I.VT I.TT x (chV I.b v)) (I.b.R.getD v Af).2).map (·.1):=by
  rw[<-hsh,A4];rfl
 refine⟨by rw[hkey];exact hg.nd,λkey a=>⟨?_,?_⟩⟩
 ·rintro⟨p,hp,hk,hl⟩;have hb:G.getD p Af∈G:=by rw[AB,Aw hp];exact AR _
  generalize G.getD p Af=b at*;have hs:sh2 (I.desc.getD v Ac) b∈gp (λx=>wtL I.f I.VT I.TT x (chV I.b v)) (I.b.R.getD v Af).2:=by rw[<-hsh];exact CC hb
  obtain⟨w,hw⟩:=(zLa _ a b.t (zZb _ _ (hg.a _ hs))).1 hl;obtain⟨x,x1,x2,x3,x4,_⟩:=hg.i _ hs (a,w) (zQq.2 hw);exact⟨ht,x,x1,x2,x3.trans hk,x4⟩
 rintro⟨_,x,x1,x2,rfl,rfl⟩;obtain⟨s,s1,s2,s3⟩:=hg.o x x1 x2;rw[<-hsh]at s1;obtain⟨b,hb,rfl⟩:=AJ.1 s1;obtain⟨p,hp,e⟩:=Bj hb;have e2:G.getD p Af=b:=by rw[AB,Aw hp];exact e
 refine⟨p,hp,by rw[e2];exact s2,?_⟩;rw[e2];have hs:sh2 (I.desc.getD v Ac) b∈gp (λx=>wtL I.f I.VT I.TT x (chV I.b v)) (I.b.R.getD v Af).2:=by rw[<-hsh];exact CC hb
 exact(zLa _ _ b.t (zZb _ _ (hg.a _ hs))).2 ⟨_,zQq.1 s3⟩
end
variable{A:List Nat}
theorem fit_row(l:List Rw)(hA:A.Pairwise (· <·))(i:Nat)(τ:Nat->Va):fitA A l (Ak i) ((Ak i).map τ)=Ab↔∃q∈l,zM q (zBc (λv=>(msk (Ak i)&&&msk A).testBit v) A)=(A.filter λv=>decide (v<i)).map τ:=by
 unfold fitA agr;rw[BV];have e:((Ak i).filter λv=>(msk (Ak i)&&&msk A).testBit v)=A.filter λv=>decide (v<i):=zZc (Ci.filter _) (hA.filter _) λv=>by
  rw[AV,AV,AQ,CP,zD0,zD0,BG,decide_eq_true_eq,decide_eq_true_eq,decide_eq_true_eq,AQ];grind
 simp only[decide_eq_true_eq,zK5,e]
theorem fit_full(hA:A.Pairwise (· <·))(hn:∀v∈A,v<n)(hl:∀q∈l,q.length=A.length)(τ:Nat->Va):fitA A l (Ak n) ((Ak n).map τ)=Ab↔A.map τ∈l:=by
 rw[fit_row l hA];have e1:A.filter (λv=>decide (v<n))=A:=Ch.2 λv hv=>decide_eq_true (hn v hv);have e2:zBc (λv=>(msk (Ak n)&&&msk A).testBit v) A=Ak A.length:=Ch.2 λj hj=>by
  have h1:=zBj A j (AQ.1 hj);have h2:=hn _ h1;show(msk (Ak n)&&&msk A).testBit (A.getD j 0)=Ab;rw[CP,zD0,zD0,decide_eq_true h1,decide_eq_true (AQ.2 h2)];rfl
 rw[e1,e2];constructor
 ·rintro⟨q,hq,e⟩;rw[zJs (hl q hq)]at e;rw[<-e];exact hq
 exact λh=>⟨_,h,zJs (hl _ h)⟩
theorem fit_of(hA:A.Pairwise (· <·))(i:Nat)(τ:Nat->Va)(h:A.map τ∈l):fitA A l (Ak i) ((Ak i).map τ)=true:=by
 refine(fit_row l hA i τ).2 ⟨_,h,?_⟩;rw[zK5];refine congrArg (Ae τ) (CO λv hv=>?_);rw[CP,zD0,zD0,decide_eq_true hv,Bool.and_true];grind
theorem pvC_le(l:List Rw)(k:Nat)(L:List Rw):∀j,j<=l.length->(pvC l k j L).length<=L.length+j
 |0,_=>AE _
 |j+1,h=>by
  rw[zQc l k j L (by omega)]
  have:=pvC_le l k L j (by omega)
  have:=zQd (pvC l k j L) [(l.getD j []).getD k Af]
  omega
theorem pvK_le{A:List Nat}(l:List Rw)(v:Nat)(L:List Rw)(hn:A.Nodup):∀k,k<=A.length->(pvK A l v k L).length<=L.length+if v∈A.take k then l.length else 0
 |0,_=>by show L.length<=_;omega
 | k+1,h=>by
  have ih:=pvK_le l v L hn k (by omega);have e:=A7 (show k<A.length by omega);have eg:A.getD k 0=A[k]:=by rw[AB,Aw (by omega)];rfl
  rw[zQa,eg];by_cases hv:A[k]=v
  ·have hni:v∉A.take k:=λhm=>by
    have h1:(A.take (k+1)).Nodup:=hn.sublist (List.take_sublist _ _);rw[e,List.nodup_append]at h1;exact h1.2.2 v hm v (by rw[hv];simp) rfl
   rw[if_neg hni]at ih;rw[if_pos hv,if_pos (by rw[e,hv];simp)]
   have:=pvC_le l k (pvK A l v k L) l.length (AE _)
   omega
  rw[if_neg hv];refine AG ih (Nat.add_le_add_left ?_ _);by_cases hm:v∈A.take k
  ·rw[if_pos hm,if_pos (by rw[e];exact A3 _ hm)];exact AE _
  rw[if_neg hm];exact Bv _
theorem pvI_le{V:List (List Nat)}{R:List (List Rw)}(v:Nat)(hn:∀i,i<V.length->(V.getD i []).Nodup)(hR:∀i,i<V.length->(R.getD i []).length<=10):∀i,i<=V.length->(pvI V R v i).length<=10*i
 |0,_=>AE _
 |i+1,h=>by
  rw[zQb];have h1:=pvI_le v hn hR i (by omega);have h2:=pvK_le (R.getD i []) v (pvI V R v i) (hn i (by omega)) _ (AE _);have h3:=hR i (by omega);split at h2<;>omega
theorem us_of{V:List (List Nat)}{R:List (List Rw)}{b:Nat}{a:Nat}(hok:Vst (pvI V R ((V.getD a []).getD c 0) V.length) (vlI V R ((V.getD a []).getD c 0) V.length) b)(ha:a<V.length)(hc:c<(V.getD a []).length)(τ:Nat->Va)(hq:(V.getD a []).map τ∈R.getD a []):τ ((V.getD a []).getD c 0)∈usR V R ((V.getD a []).getD c 0):=by
 refine AJ.2 ⟨[τ ((V.getD a []).getD c 0)],(hok.w _).2 (BA.2 ⟨a,AQ.2 ha,BA.2 ⟨c,AQ.2 hc,?_⟩⟩),rfl⟩;rw[if_pos rfl];unfold vlC;grind
section
variable(V:List (List Nat))(R:List (List Rw))(n:Nat)
theorem bgR_all(τ:Nat->Va)(hu:∀j,j<n->τ j∈usR V R j)(hf:∀j,j<=n->fitR V R (Ak j) ((Ak j).map τ)=Ab):∀i,i<=n->(Ak i).map τ∈bgR V R (Ak n) i
 |0,_=>AY.2 rfl
 |i+1,h=>by
  have e1:(Ak n).getD i 0=i:=by rw[AB,BS (by omega)];rfl
  have e2:(Ak n).take (i+1)=Ak (i+1):=by rw[List.take_range,B5 h]
  refine BA.2 ⟨_,bgR_all τ hu hf i (by omega),AV.2 ⟨AJ.2 ⟨τ i,?_,by rw[Bp,BE];rfl⟩,?_⟩⟩;all_goals grind
theorem bgR_fit(h:i+1<=n)(x:Rw)(hx:x∈bgR V R (Ak n) (i+1)):fitR V R (Ak (i+1)) x=true:=by
 obtain⟨y,_,h2⟩:=BA.1 hx;have h3:=(AV.1 h2).2;grind
theorem bgR_le(vars:List Nat)(hu:∀v,(usR V R v).length<=50):∀i,(bgR V R vars i).length<=50^i
 |0=>AE _
 |i+1=>by
  refine AG (zWg _ _ _) ?_;rw[Cb];exact Cp (bgR_le vars hu i) (hu _)
def zNp:List Rw:=if n=0 then(if fitR V R [] []then[[]]else[])else bgR V R (Ak n) n
end
theorem set_rng:∀n:Fin 7,zAf (2^n.val-1)=Ak n.val:=by decide
section
variable{I:Inp}(h:I.Ok){V:List (List Nat)}{R:List (List Rw)}(hV:V.length = I.A.length)(hVi:∀ i, i < I.A.length->V.getD i [] = (I.A.getD i default).1)(hR10:∀ i, i < I.A.length->(R.getD i []).length ≤ 10)(hRm:∀ i, i < I.A.length->∀ x, x ∈ R.getD i [] ↔ x ∈ (I.A.getD i default).2)
include h hV hVi hR10 hRm
theorem Inp.raw(hi:i<V.length):((V.getD i []).Pairwise (· <·)/\∀v∈V.getD i [],v<I.n)/\((V.getD i []).length<=8/\∀v∈V.getD i [],v<32)/\(R.getD i []).length<=10/\∀q∈R.getD i [],q.length=(V.getD i []).length:=by
 rw[hV]at hi;have hm:I.A.getD i Af∈I.A:=by rw[AB,Aw hi];exact AR _
 obtain⟨v1,v2⟩:=zNr h.V _ hm;have hn:=h.n;have hl:=zHg (n:=I.n) 0 v1 λw hw=>⟨Bv _,v2 w hw⟩;rw[hVi i hi];exact⟨⟨v1,v2⟩,⟨by omega,λv hv=>by have:=v2 v hv;omega⟩,hR10 i hi,λq hq=>((h.R _ hm).2.2 q ((hRm i hi q).1 hq)).1⟩
theorem Inp.fit_sol(τ:Nat->Va):fitR V R (Ak I.n) ((Ak I.n).map τ)=Ab↔I.Sol τ:=by
 unfold fitR;rw[Bi];have key:∀i (hi:i<I.A.length),fitA (V.getD i []) (R.getD i []) (Ak I.n) ((Ak I.n).map τ)=Ab↔I.A[i].1.map τ∈I.A[i].2:=λi hi=>by
  grind [Inp.raw,fit_full,Aw]
 constructor
 ·intro hh a ha;grind [Bj]
 intro hh i hi;have hi:=AQ.1 hi;exact(key i (by omega)).2 (hh _ (AR _))
theorem Inp.us_len(v:Nat):(usR V R v).length<=50:=by
 have hA:=h.A
 have:=pvI_le (V:=V) (R:=R) v (λi hi=>(Inp.raw h hV hVi hR10 hRm hi).1.1.imp λhlt=>by omega) (λi hi=>(Inp.raw h hV hVi hR10 hRm hi).2.2.1) _ (AE _)
 rw[AN];omega
theorem Inp.join_mem(x:Rw):x∈zNp V R I.n↔∃τ,I.Sol τ/\x=(Ak I.n).map τ:=by
 have hs:=Inp.fit_sol h hV hVi hR10 hRm;unfold zNp;rcases B9 I.n with h0|h0
 ·rw[h0]at hs⊢;rw[if_pos rfl];split;all_goals simp_all
 rw[if_neg (by omega)];obtain⟨m,hm⟩:∃m,I.n=m+1:=⟨I.n-1,by omega⟩;constructor
 ·intro hx;have hl:=zWf V R (Ak I.n) I.n x hx;have hf:fitR V R (Ak I.n) x=true:=by
   rw[hm]at hx⊢;exact bgR_fit V R (m+1) (AE _) x hx
  have e:x=(Ak I.n).map λj=>x.getD j default:=by
   have:=zJs (r:=x) hl
   unfold zM at this;exact this.symm
  grind
 rintro⟨τ,ht,rfl⟩;have hat:∀i,i<V.length->(V.getD i []).map τ∈R.getD i []:=λi hi=>by
  rw[hV]at hi;rw[hRm i hi,hVi i hi];refine ht _ ?_;grind
 refine bgR_all V R I.n τ (λj hj=>?_) (λj hj=>?_) I.n (AE _)
 ·obtain⟨a,ha,hja⟩:=h.V.cov j hj;have hja:j∈(I.A.getD a Af).1:=hja;rw[<-hVi a ha]at hja;obtain⟨c,hc,e⟩:=Bj hja;have e2:(V.getD a []).getD c 0=j:=by rw[AB,Aw hc];exact e
  have:=us_of (V:=V) (R:=R) (zXn V R _ (λi hi=>(Inp.raw h hV hVi hR10 hRm hi).2.1.1) (λi hi=>(Inp.raw h hV hVi hR10 hRm hi).2.2.1) _ (AE _)) (by omega) hc τ (hat a (by omega))
  rwa[e2]at this
 unfold fitR;grind [Bi,fit_of,Inp.raw]
theorem Inp.answers_c(hRl:R.length=I.A.length)(P:List Int):∃An:List Rw,Rsc An/\(∀x∈An,x.length=I.f)/\(∀x,x∈An↔∃τ,I.Sol τ/\x=(Ak I.f).map τ)/\An.length<=500000000000/\
  Pure Ai 24 [.agg (rfD I.n I.f P V R), .val (.slice AT 0 0)] [] (.row (An.map rowV) An.length):=by
 have hn:=h.n;have hfn:=h.f;have hA:=h.A;have hraw:=λi (hi:i<V.length)=>Inp.raw h hV hVi hR10 hRm hi;have hus:=Inp.us_len h hV hVi hR10 hRm;have hle:=bgR_le V R (Ak I.n) hus;have hmem:=Inp.join_mem h hV hVi hR10 hRm;have hpw:∀i,i<=6->50^i<=50^6:=λi hi=>AZ (by omega) hi;have hbag:Pure Ai 104 [.agg (rfD I.n I.f P V R),u32D (2^I.n-1:Nat)] [] (.row ((zNp V R I.n).map rowV) (zNp V R I.n).length)/\(zNp V R I.n).length<=500000000000:=by
  unfold zNp;rcases B9 I.n with h0|h0
  ·have hb:=bag0_c I.n I.f P V R (by omega) (by omega) (λi hi=>(hraw i hi).2.1) (λi hi=>(hraw i hi).2.2);rw[if_pos h0];have e0:2^I.n-1=0:=by rw[h0]
   rw[e0];generalize fitR V R [] []=b at*;cases b
   ·exact⟨hb,by simp⟩
   exact⟨hb,by simp⟩
  rw[if_neg (by omega)];have e:zAf (2^I.n-1)=Ak I.n:=set_rng ⟨I.n,by omega⟩;have h2:2^I.n<=2^6:=AZ (by omega) hn;have hb:=bag40_c I.n I.f P V R (2^I.n-1) (by omega) (by omega) (λi hi=>(hraw i hi).2.1) (λi hi=>(hraw i hi).2.2) (by omega) (λi hi=>by
   rw[e,B8]at hi;rw[e];have h3:50^i<=50^5:=AZ (by omega) (by omega)
   have:=hle i
   omega) (by rw[e,B8];exact h0)
  grind
 obtain⟨hb1,hb2⟩:=hbag;have hJl:∀x∈zNp V R I.n,x.length=I.n:=λx hx=>by
  grind
 have hj:=join40_c I.n I.f P V R (zNp V R I.n) (by omega) hb1;have ha:=zWl I.n I.f P V R (zNp V R I.n) hfn (by omega) hJl hb2 hj;obtain⟨a1,a2,a3⟩:=zWm I.f (zNp V R I.n) _ (AE _);rw[A8]at a3;have htk:∀τ:Nat->Va,((Ak I.n).map τ).take I.f=(Ak I.f).map τ:=λτ=>by
  rw[<-CJ,List.take_range,B5 hfn]
 grind
end
section
attribute [local irreducible] seqW awp zAd zAi zY Weak updS zAr retL Pure Acts rP setP setQ cP nP fr
set_option maxRecDepth 4096
section
variable(desc:List Bool)(L:List Bg)(U:Nat->List Bu)(tot:Nat)
set_option maxHeartbeats 2000000 in
theorem ikey_c(v:Nat)(hd:desc.length<=1000000)(hv:v<desc.length)(hvL:v<L.length)(hL:L.length<=1000)(hk:(L.getD v Af).k<4294967296)(r:List Va)(m:Nat)(hr:r.length=m)(hm:m<=1000)(hlen:Bo (L.getD v Af).k<=m)(h32:Bo (L.getD v Af).k<=32):
  Pure Ai 22 [ixD desc L U tot,iD (v:Nat), .row (zG r) m] [] (.row (zG (zM r ((Ak (Bo (L.getD v Af).k)).filter λu=>(L.getD v Af).k.testBit u))) ((Ak (Bo (L.getD v Af).k)).filter λu=>(L.getD v Af).k.testBit u).length):=by
 subst hr;have hf:=zVp desc L U tot (v:Nat) hd;rw[show(decide (0<=((v:Nat):Int))&&decide (((v:Nat):Int)<(desc.length:Int)))=Ab by rw[BG,decide_eq_true_eq,decide_eq_true_eq];omega]at hf;have hbc:∀a:Bg,(bgC a).length=3:=λ_=>rfl;have hbat:=zK0 hbc L v hvL;have hbne:=zDe hbc (by decide) L;have hl2:=len32_c (L.getD v Af).k hk;generalize (L.getD v Af)=b at*;generalize hN:Bo b.k=N at*;refine zF zAx mixed Tryz.func22 rfl<|vAu<|zA<|vA<|vr 2 (5<=5)<|vc (hf)<|vr 6 (True/\0<4/\ix (v:Int) (Aa L:Int) (As bgC L≠[]))<|vs 17 (D.ptr<|Ag (Ap (v:Int)*3)<|As bgC L) (D.ptr (iD (↑(Bg.v b):Int)::u32D (Bh b)::iD (Bg.p b)::As bgC (Ag (v+1) L)))<|vr 2 (True/\0<Aa (u32D (Bh b)::iD (Bg.p b)::As bgC (Ag (v+1) L)))<|vc (hl2)<|veT<|vF ((N:Int)>(Aa r:Int))<|vK<|vA<|ve (aQ_)<|zA<|vA<|vr 4 (True/\0<4/\ix (v:Int) (Aa L:Int) (As bgC L≠[]))<|vs 29 (D.ptr<|Ag (Ap (v:Int)*3)<|As bgC L) (D.ptr (iD (↑(Bg.v b):Int)::u32D (Bh b)::iD (Bg.p b)::As bgC (Ag (v+1) L)))<|vr 2 (True/\0<Aa (u32D (Bh b)::iD (Bg.p b)::As bgC (Ag (v+1) L)))<|vc (hl2)<|veT<|zJ<|zB4 (λ(i:Nat)(l:List Nat)=>fr 55 [(1,iD (v:Int)),(2,Ad (zG r)<|Aa r),(3,Ar 0 0),(6,nl),(7,Ax 1 0 (Aa l) (Aa l*3) Ab),(32,iD (N:Int)),(33,iD (i:Int))]) (λi l=>[ixK [.row (desc.map bD) desc.length,.row (L.flatMap bgC) L.length,.row (fA desc.length λc=>busD (U c)) desc.length,.row (fA desc.length λc=>zB9 (U c)) desc.length,natD tot],vaB<|zM r l]) (λi l=>N-i) (λ(i:Nat)(l:List Nat)=>i<=N/\l=(Ak i).filter λu=>b.k.testBit u) 0 [] ?_ ?_ ?_
 ·grind
 ·refine vk 2
 rintro i l ⟨h1,h2⟩;rcases AC i N with h3|h3
 ·have h4:(Ak (i+1)).filter (λu=>b.k.testBit u)=l++if b.k.testBit i=Ab then[i]else[]:=by
   grind [Bp]
  have hlen2:l.length<=1000:=by rw[h2];exact AG (BC _ _) (by simp;omega)
  have hpl:(zM r l).length=l.length:=by simp[zM]
  have hcl:(zG (zM r l)).length=l.length*3:=by rw[zAg,hpl]
  have hvb:vaB (zM r (l++[i]))=⟨zG (zM r l)++vaC (r.getD i Af),64,3,Ab,Ac, .plain⟩:=by
   show AL (zG (zM r (l++[i]))) _ _ _ _ _=_;unfold zM;rw[BE,zC8];simp[zG]
  focus
   refine vAu<|zA<|vT ((i:Int)<↑N)<|vKB<|vAe<|vA<|vr 4 (True/\0<4/\ix ↑v ↑(Aa L) (As bgC L≠[]))<|vs 39 (D.ptr<|Ag (Ap (v:Int)*3)<|As bgC L) (D.ptr (iD ↑(Bg.v b)::u32D (Bh b)::iD (Bg.p b)::As bgC (Ag (v+1) L)))<|vr 4 (True/\0<Aa (u32D (Bh b)::iD (Bg.p b)::As bgC (Ag (v+1) L))/\(0:Int)<=(i:Int))<|vs 43 (Al<|Aq Ah<|BL (↑(Bh b):Int) ((2:Int)^min (Ap (i:Int)) 32)) (dig (Bh b>>>i)) (hd:=by simp(disch:=omega) only[AX,zDw])<|vrT 1<|vs 44 (Al<|Aq Ah<|AH Ah (↑(AF (Ao 32 (↑(Bh b>>>i):Int)&&&Ao 32 (1:Int))):Int)) (dig<|AF (Ao 32 (↑(Bh b>>>i):Int)&&&Ao 32 (1:Int))) (hd:=by simp(disch:=omega) only[zAu])<|vrT 1<|vs 45 (bD ((↑(AF (Ao 32 (↑(Bh b>>>i):Int)&&&Ao 32 (1:Int))):Int)==(1:Int))) (bD<|BM (Bh b) i) (hd:=by simp(disch:=omega) only[zWe])<|veT<|zA5 (t:=BM (Bh b) i) (by kernel_rfl) (λhc=>?_)<|λhc=>?_;refine zB rfl<|vr 5 (ix ↑i ↑(Aa r) (zG r≠[])/\3<=Aa (Ag (i*3)<|zG r)) (vs 50 (Ay<|Aj 3<|Ag (i*3)<|zG r) (Ay<|vaC<|Az r i Af) (hd:=by simp(disch:=omega) only[zB5])<|vr 3 (aN_ (Bk.arr (vaB<|zM r l)=Ab/\Aa (AU<|vaB<|zM r l)=Aa l*3/\Aa l*3=Aa l*3/\Bk.ty (vaB<|zM r l)=64/\Bk.sz (vaB<|zM r l)=3/\3=3/\0<3/\0<32/\64=64/\(Aa l+1)*32<=140737488355328/\3=3/\Ba (Bl<|vaB<|zM r l)=Ac/\(Ac=Ac\/Bb (Bl<|vaB<|zM r l)=Ab)))<|vnil<|zD<|vN<|zB rfl<|vr 2 (i6 (↑i+1))<|vnil<|zC ?_) ⟨⟨(by omega),⟨(by omega),(by exact zE4 _)⟩⟩,(by exact zC3 _ _)⟩;rotate_left;refine zT<|zD<|vN<|zB rfl<|vr 2 (i6 (↑i+1))<|vnil<|zC ?_;rotate_left
  ·have hc2:b.k.testBit i=true:=by assumption
   rw[hc2,if_pos rfl]at h4;refine⟨i+1,l++[i],⟨by omega,h4.symm⟩,by omega,?_⟩;rw[hvb,Bt];refine vk 2
  have hc2:b.k.testBit i=false:=by assumption
  rw[hc2,if_neg (by decide),BR]at h4;refine⟨i+1,l,⟨by omega,h4.symm⟩,by omega,?_⟩;refine vk 2
 obtain rfl:i=N:=by omega
 have ht:=zFy (zM r l) l.length (by simp[zM]);refine vAu<|zA<|vF ((i:Int)<↑i)<|vZ2<|vAe<|zE<|zBm (True) (Ad (Aj (Aa l*3)<|Ag 0<|AU<|vaB<|zM r l)<|Aa l) (Ad (zG<|zM r l)<|Aa l) (.inr rfl) (by simp(disch:=omega) only[A1,ht]) ?_;rw[h2]
end
end
section
set_option maxRecDepth 4096
theorem zTg:∀f x,x<2^f->x<2^Lib.bitLenAux f x
 |0,x,h=>h
 | f+1,x,h=>by
  unfold Lib.bitLenAux;split
  ·grind
  have:=zTg f (x/2) (by rw[Cb]at h;omega)
  grind
theorem bit_len{x:Nat}(hx:x<2^64)(hb:x.testBit w=Ab):w<Bo x:=by
 rcases AC w (Bo x)with h|h
 ·exact h
 have:=B6 (By (zTg 64 x hx) (AZ (by omega) h):x<2^w)
 rw[this]at hb;cases hb
theorem tup2_le{a a' b:D}(h:LeD a a'):LeD (.tup [a,b]) (.tup [a',b]):=λI w β v hr=>by
 simp only[Rel,RelL]at hr⊢;obtain⟨vs,rfl,v1,us,rfl,h1,h2⟩:=hr;exact⟨_,rfl,v1,us,rfl,h _ _ _ _ h1,h2⟩
def Fnd(I:Inp)(r:Rw)(v:Nat)(q:Bool×Bool×Bool×WT×List Va×Nat):Prop:=
 (Pure Ai 22 [I.ix,iD (v:Nat), .row (zG r) r.length] [] (.row (zG q.2.2.2.2.1) q.2.2.2.2.1.length)/\
  Pure Ai 21 [I.ix,iD (v:Nat), .row (zG q.2.2.2.2.1) q.2.2.2.2.1.length] [] (.tup [zGz q.1 q.2.2.2.1,bD q.2.1])/\
  Pure Ai 23 [zGz q.1 q.2.2.2.1,vaD (r.getD v Af)] [] (.tup [natD q.2.2.2.2.2,bD q.2.2.1]))/\
 ((q.2.1&&q.2.2.1)=Ab↔I.tot≠0/\I.R' v (λw=>r.getD w Af)/\0<I.w' v λw=>r.getD w Af)
section
variable{I:Inp}(h:I.Ok)
include h
omit h in
theorem Inp.U_d:∀b∈I.U c,b.desc=I.desc.getD c false:=by
 show∀b∈(if I.tot=0 then[]else buk I.b I.VT I.TT c),_;split
 ·grind
 exact λb hb=>((zMs (Q:=λ_=>True) _ λ_ _=>trivial).2 b hb).d
theorem Inp.find(hv:v<I.f)(r:Rw)(hr:r.length=I.f)(hrt:∀a∈r,Vb 2000000 a):∃q,Fnd I r v q:=by
 have hn:=h.n;have hfn:=h.f;have hd:=h.d;have hvn:v<I.n:=by omega
 have hk:∀w,(I.bag v).k.testBit w=Ab->w<v:=λw hw=>Inp.free_key h hv hw;have hkl:(I.bag v).k<2^v:=zQ8 λw hw=>CL.2 λhh=>by have:=hk w hh;omega
 have hk6:(I.bag v).k<2^6:=By hkl (AZ (by omega) (by omega));have hLv:(I.L.take I.f).getD v Af=I.bag v:=by
  grind
 have hbl:Bo (I.bag v).k<=v:=Lib.bitLen_le _ v (by omega) hkl;have hl:((Ak (Bo (I.bag v).k)).filter λu=>(I.bag v).k.testBit u)=zAf (I.bag v).k:=zZc (Ci.filter _) (Ci.filter _) λw=>by
  rw[zF8,AV,AQ];grind [bit_len]
 have c1:=ikey_c I.desc (I.L.take I.f) I.U I.tot v (by omega) (by omega) (by rw[Bq];simp;omega) (by rw[Bq];omega) (by rw[hLv];omega) r r.length rfl (by omega) (by rw[hLv];omega) (by rw[hLv];omega);rw[hLv,hl]at c1;have hpk:zM r (zAf (I.bag v).k)=rowS (I.bag v).k λw=>r.getD w default:=rfl;have hkn:(zAf (I.bag v).k).length=(rowS (I.bag v).k λw=>r.getD w Af).length:=(AN _).symm;rw[hpk,hkn]at c1;obtain⟨b1,b2⟩:=Inp.buk_ok h hvn;have hU:=Inp.U_ok h hvn;have hUd:=Inp.U_d (I:=I) (c:=v);have hsem:(I.tot≠0/\I.R' v (λw=>r.getD w Af)/\0<I.w' v λw=>r.getD w Af)↔∃p,p<(I.U v).length/\((I.U v).getD p Af).key=(rowS (I.bag v).k λw=>r.getD w Af)/\(((I.U v).getD p Af).t.look (I.desc.getD v Ac) (r.getD v Af)).isSome=true:=by
  rw[b2];refine and_congr Iff.rfl ?_;have hw:(I.w' v λw=>r.getD w Af)=wtL I.f I.VT I.TT (rowS (bgS (I.bag v)) λw=>r.getD w Af) (chV I.b v):=if_pos hvn;rw[hw];have hfa:=Inp.free_all h hv λw=>r.getD w Af;constructor
  ·rintro⟨h1,h2⟩;refine⟨_,h1 hvn,h2,Inp.free_row h hv _,?_⟩;grind
  rintro⟨x,h1,h2,h3,h4⟩;obtain⟨n,hs⟩:=Inp.srt h v;have e:=zG9 (hs.2 x h1);rw[h3,h4]at e;have e2:x=rowS (bgS (I.bag v)) λw=>r.getD w default:=e.trans hfa.symm;rw[<-e2];exact⟨λ_=>by rw[<-e2];exact h1,h2⟩
 have hkr:∀a∈rowS (I.bag v).k λw=>r.getD w Af,Vb 2000000 a:=λa ha=>by
  obtain⟨w,hw,rfl⟩:=AJ.1 ha;grind
 have hk32:(rowS (I.bag v).k λw=>r.getD w Af).length<=32:=by
  grind
 generalize (rowS (I.bag v).k λw=>r.getD w Af)=key at*;have hid:=zMp 2000000 key key.length rfl (by
  have:=Cr 2000100 hk32
  omega) (by omega) hkr
 unfold Fnd;rw[hsem];by_cases hex:∃p,p<(I.U v).length/\((I.U v).getD p Af).key=key
 ·obtain⟨p,hp,rfl⟩:=hex;have hm:(I.U v).getD p Af∈I.U v:=by rw[AB,Aw hp];exact AR _
  have c2:=zKc I.desc (I.L.take I.f) I.U I.tot v p _ hid (by omega) (by omega) b1 hp (by have:=hU.1;omega);have c3:=wget_c ((I.U v).getD p Af).desc ((I.U v).getD p Af).t (r.getD v Af) (hU.2 _ hm).2;refine⟨(_,_,_,_,_,_),⟨c1,c2,c3⟩,?_⟩;show(_&&_)=Ab↔_;rw[Bool.true_and,hUd _ hm];constructor
  ·grind
  rintro⟨q,hq,e,hh⟩;have:q=p:=by
   rw[AB,AB,Aw hq,Aw hp]at e;rcases Nat.lt_trichotomy q p with hlt|e2|hlt
   ·grind [Ce]
   all_goals grind [Ce]
  rw[this]at hh;exact hh
 have c2:=(bucketNo_c I.desc (I.L.take I.f) I.U I.tot v key _ hid (by omega) (by omega) b1 (λb hb e=>hex (by
  obtain⟨p,hp,e2⟩:=Bj hb;exact⟨p,hp,by rw[AB,Aw hp];exact(congrArg Bu.key e2).trans e⟩))).res (tup2_le (agg2_le nilx_le))
 have c3:=wget_c Ac .nil (r.getD v Af) ⟨by simp[WT.sz],by exact Sm.zero⟩;refine⟨(_,_,_,_,_,_),⟨c1,c2,c3⟩,?_⟩;grind
theorem Inp.find_iff(r:Rw)(hr:r.length=I.f):((∀v,v<I.f->I.tot≠0/\I.R' v (λw=>r.getD w Af)/\0<I.w' v λw=>r.getD w Af)/\0<I.tot)↔∃τ,I.Sol τ/\r=(Ak I.f).map τ:=by
 have hext:∀τ:Nat->Va,r=(Ak I.f).map τ↔∀v,v<I.f->τ v=r.getD v default:=λτ=>by
  constructor
  ·grind
  intro e;have e1:=zJs hr;unfold zM at e1;grind [AW]
 by_cases hA:∀a∈I.A,a.2≠[]
 ·rw[show(∃τ,I.Sol τ/\r=(Ak I.f).map τ)↔∃τ,I.Sol τ/\∀v,v<I.f->τ v=r.getD v Af from exists_congr λτ=>and_congr Iff.rfl (hext τ),<-Inp.ans_iff h hA λw=>r.getD w Af];grind
 have hA:∃a∈I.A,a.2=[]:=by simpa using hA
 obtain⟨a,ha,he⟩:=hA;have h0:I.tot=0:=if_pos (BV.2 ⟨a,ha,decide_eq_true he⟩);constructor
 ·omega
 rintro⟨τ,ht,_⟩
 have:=ht a ha
 rw[he]at this;cases this
end
theorem zWk(c:Cs)(h:c.Small)(ht:c.Typ)(r:Rw)(hrt:∀a∈r,Vt a):Pure Ai 4 [.agg (csC c),rowV r] [] (bD Ab):=by
 obtain⟨b,hb,hfew⟩:=few_c c h;obtain⟨mm,ok1,h1,h2,h3,h4⟩:=valid_c c h;by_cases hall:b=Ab/\ok1=Ab/\(r.length:Int)=c.f
 ·obtain⟨rfl,rfl,hm⟩:=hall;obtain⟨hl,he,hc⟩:=h2.1 rfl;obtain rfl:=h3 rfl;have hok:=Cs.inp_ok hl he hc (hb rfl) ht;obtain⟨n1,n2⟩:=Cs.inp_n hc;have hf:r.length=c.inp.f:=by omega
  have hn:=hok.n;have hfn:=hok.f;obtain⟨S,_,_,b1⟩:=zQ7 c h hl he hc (hb rfl) ht;have hsm:=Inp.tot_sm hok;obtain⟨z,hz1,hz2⟩:=nbits_c c.inp.tot hsm;have hAl:c.inp.A.length=c.V.length:=by simp[Cs.inp]
  have hAt:∀i,i<c.inp.A.length->c.inp.A.getD i Af=((c.V.getD i []).map Ap,relR (c.R.getD i [])):=λi hi=>by
   unfold Cs.inp;grind
  obtain⟨An,a1,a2,a3,a4,a5⟩:=Inp.answers_c hok (V:=c.inp.A.map (·.1)) (R:=c.R) (AN _) (λi hi=>by
   rw[AB,CD,AB,Aw hi];rfl) (λi hi=>(hb rfl).r _ (by rw[AB,Aw (by omega)];exact AR _)) (λi hi x=>by
   rw[hAt i hi];exact mem_relR.symm) (by omega) c.P
  have hrf:rfD c.inp.n c.inp.f c.P (c.inp.A.map (·.1)) c.R=rfC c:=by
   have hv:=Cs.inp_V hc;grind
  rw[hrf]at a5;have key:∀v,∃q,v<c.inp.f->Fnd c.inp r v q:=λv=>by
   by_cases hv:v<c.inp.f
   ·obtain⟨q,hq⟩:=Inp.find hok hv r hf hrt;exact⟨q,λ_=>hq⟩
   exact⟨(Ac,Ac,Ac, .nil,[],0),λhh=>absurd hh hv⟩
  obtain⟨g,hg⟩:∃g:Nat->Bool×Bool×Bool×WT×List Va×Nat,∀v,v<c.inp.f->Fnd c.inp r v (g v):=⟨λv=>BI (key v),λv=>CE (key v)⟩;refine answersW c r r.length _ (c.inp.L.take c.inp.f) c.inp.U c.inp.tot z _ (λv=>(g v).1) (λv=>(g v).2.1) (λv=>(g v).2.2.1) (λv=>(g v).2.2.2.1) (λv=>(g v).2.2.2.2.1) (λv=>(g v).2.2.2.2.2) An hm rfl (by omega) h4 hfew b1 (zQy _ _ _ _ hsm) hz2 (λv hv=>(hg v (by omega)).1) a5 (λx hx=>(a2 x hx).trans hf.symm) a4 ?_;rw[Bool.eq_iff_iff,BG,decide_eq_true_eq,decide_eq_true_eq,Bi,a3,<-Inp.find_iff hok r hf,hz1,and_comm];refine and_congr ⟨λhh v hv=>(hg v hv).2.1 (hh v (AQ.2 (by omega))),λhh v hv=>(hg v (by have:=AQ.1 hv;omega)).2.2 (hh v (by have:=AQ.1 hv;omega))⟩ Iff.rfl
 refine answersNo c r r.length _ b ok1 ?_ h4 hfew;grind
end
end Go.Proofs.YtjcofbkhoeockaaGreatDoor
