/- Texts of this claim, joined: Dnw LlP Dex Fn Wg Jq Jr Oy Drn Dry Ft FlcP Dlc Dle Dbm Dbp Dbr Dbt Dic Oc DapP Dap -/
import Derived.Test.YtjcofbkhoeockaaGreatDoorO03
import Derived.Lib.RowBridge
import Derived.BigCall
import Derived.Lib.ItoaLen
import Derived.Lib.Walk
import Derived.WalkKit
import Derived.Lib.Strings
import Derived.Lib.ItoaWalk
import Derived.Lib.LaidTab
import Derived.Lib.Hide
set_option linter.unusedVariables false
set_option linter.unusedSimpArgs false
namespace Go.Proofs.YtjcofbkhoeockaaGreatDoor
open _root_.List renaming length->Aa,map->Ah,drop->An,range->As,flatMap->Ax,replicate->AA,getD->AE,take->AK,length_append->AN,headD->AO,getElem?_eq_getElem->A2,range'->A6,length_map->A7,drop_zero->A9,mem_range->A_,ext_getElem?->Ba,getD_eq_getElem?_getD->Bf,length_set->Bl,getElem?_map->Bp,take_of_length_le->Bq,range_succ->Bs,getElem?_set->Bw,take_length->Bx,mem_singleton->By,getElem?_eq_none->BA,length_filter_le->BB,append_assoc->BC,map_cons->BD,mem_append->BN,map_congr_left->BO,getElem_mem->BP,getElem?_append_left->BS,append_nil->BU,toArray->BZ,all_eq_true->B3,mem_map->B5,getElem?_cons_zero->B6,map_nil->B7,mem_cons->B8,cons_append->Cc,mem_of_mem_take->Ce,foldl_append->Cf,getElem?_set_ne->Cg,getElem_of_mem->Ch,getElem?_append_right->Ci,getElem?_range->Cj,mem_filter->Ck,replicate_succ->Cl,pairwise_cons->Cm,length_replicate->Cp,length_take->Cq,map_append->Cr,nil_append->Ct,length_cons->Cu,not_mem_nil->Cv,ext_getElem->Cx,take_succ_eq_append_getElem->Cy,pairwise_iff_getElem->CD,getElem?_eq_some_iff->CE
open _root_.Bool renaming true->Ab,false->Ad,or_false->AP,or_eq_false_iff->BE,false_or->BF
open D renaming own->Ae,osl->Ag,row->Aj,val->Am,agg->AD,clo->AG,ptr->AU
open _root_.Inhabited renaming default->Af
open Lay renaming ix->Ai,n->Ar,jb->Az,ab->AC,ib->AM,rb->AQ,cb->A1,tb->A3,ch->A4
open _root_.Prod renaming fst->Ak,snd->Aw
open Bk renaming mk->Al,cells->A5,kd->A8,ty->Bt,sz->Bv,arr->BM
open Kd renaming plain->Ao,sh->AW,isMap->Bi,isSh->Bj
open Value renaming int->Ap,bool->BR
open _root_.Option renaming some->Aq,none->AS,some->BI,map_some->BT
open _root_.Int renaming toNat->Au,toNat_natCast->AT,natAbs->Cb
open IntKind renaming u8->Ay,u64->Bo,wrap->BJ,i64->BK,u32->BL
open _root_.Go.Proofs.Tryz renaming prog->AB
open _root_.Nat renaming le_trans->AF,lt_or_ge->AH,le->AJ,mul_one->AR,le_succ->AX,le_refl->A0,zero_add->Bh,testBit->Bn,mul_le_mul_right->Br,zero_le->Bz,succ_mul->BQ,min_eq_left->Cd,eq_zero_or_pos->Co
open Lib renaming decDigits->AI,nDigits->AL,itoa->Bc,bitLen->B9,byteCells->B_,decDigits_length->Cz,nDigits_le20->CC
open Js renaming s->AV,ys->AY,its->BG
open LeL renaming refl->AZ,of_eq->BH
open Bg renaming k->Bb
open _root_.BitVec renaming ofInt->Bm,toNat->BV
open _root_.Array renaming toList->BW,replicate->CA,size_replicate->CB
open _root_.ByteArray renaming data->BX,mk->BY
section
open Go.RowKit
attribute [local irreducible] seqW awp zAf zAn zAd Weak updS zAx retL Pure Acts rP setP setQ cP nP fr
set_option maxRecDepth 4096
theorem zYn{B:Nat}:∀(f:Nat)(x:List Va)(t:Tri),SzT B t->SzT (B+1) (adT x f t)
 |0,[],t,h=>λk=>⟨AF (h k).1 (AX _),AF (h k).2.1 (AX _),λc hc=>AF ((h k).2.2 c hc) (AX _)⟩
 |f+1,[],t,h=>λk=>by
  rw[show adT [] (f+1) t=t by cases t<;>rfl];exact⟨AF (h k).1 (AX _),AF (h k).2.1 (AX _),λc hc=>AF ((h k).2.2 c hc) (AX _)⟩
 |0,v::x,[],h=>λk=>⟨AF (h k).1 (AX _),AF (h k).2.1 (AX _),λc hc=>AF ((h k).2.2 c hc) (AX _)⟩
 |f+1,v::x,[],h=>λk=>⟨AF (h k).1 (AX _),AF (h k).2.1 (AX _),λc hc=>AF ((h k).2.2 c hc) (AX _)⟩
 | 0,v::x,l::t,h=>λk=>by
  have ht:SzT B t:=λk=>h (k+1);cases k with
  | zero=>
   obtain⟨h1,h2,h3⟩:=h 0;refine⟨?_,?_,λc hc=>?_⟩
   ·show(l.1++[v]).length<=B+1;grind
   ·show(l.2++[szT t]).length<=B+1;grind
   have hc:c∈l.2++[szT t]:=hc;rcases BN.1 hc with hc|hc
   ·grind
   rw[By.1 hc,zTk];exact AF (ht 0).1 (AX _)
  |succ k=>exact zYn 0 x t ht k
 | f+1,v::x,l::t,h=>λk=>by
  have ht:SzT B t:=λk=>h (k+1);cases k with
  |zero=>
   obtain⟨h1,h2,h3⟩:=h 0;exact⟨AF h1 (AX _),AF h2 (AX _),λc hc=>AF (h3 c hc) (AX _)⟩
  |succ k=>exact zYn f x t ht k
theorem stF_sz{B:Nat}{t:Tri}{l:Nat}(h:SzT B t):SzT (B+1) (stF t l):=λk=>by
 unfold stF vls fst';rw[zSk];split
 ·refine⟨AF (h l).1 (AX _),by rw[AN];exact Nat.succ_le_succ (h l).2.1,λc hc=>?_⟩;rcases BN.1 hc with hc|hc
  ·have:=(h l).2.2 c hc;omega
  rw[By.1 hc];have:=(h (l+1)).1;exact AF this (AX _)
 exact⟨AF (h k).1 (AX _),AF (h k).2.1 (AX _),λc hc=>AF ((h k).2.2 c hc) (AX _)⟩
theorem kst1{m o:Nat}{base:Nat->Bk}{t:Tri}{B:Bk}{k:Nat}{b':Bk}(hk:k<o+2*t.length)(hB:zAk k B=B):((tlay m o base t++[B]).map (zAk k)).set k b'=((tlay m o base t).map (zAk k)).set k b'++[B]:=by
 grind [List.set_append_left,zB7]
theorem shr_le:∀(x y:List Va),shr x y<=y.length
 |[],y=>by rw[zPu];exact Bz _
 |a::x,[]=>Bz _
 |a::x,b::y=>by
  rw[shr];split
  ·have:=shr_le x y;simpa using this
  exact Bz _
theorem zS5(x:List Va):∀(L:List (List Va))(last:List Va)(t:Tri),bldT last (L++[x]) t=adT x (shr (L.getLastD last) x) (bldT last L t)
 |[],last,t=>rfl
 |y::L,last,t=>by
  rw[Cc,bldT,zS5 x L y,List.getLastD_cons];rfl
theorem uqA_id:∀(L:List Rw)(p:Rw),Rsc (p::L)->uqA p L=L
 |[],p,h=>rfl
 | b::L,p,h=>by
  obtain⟨h1,h2⟩:=Cm.1 h;have hne:b≠p:=λe=>by
   have:=h1 b (by simp)
   grind [zBk]
  rw[uqA,if_neg hne,uqA_id L b h2]
theorem relR_id{L:List Rw}(h:Rsc L):relR L=L:=by
 have hs:srtB L=true:=by
  unfold srtB;rw[B3];intro j hj;have hj:=A_.1 hj;unfold zTh;rcases Co j with h0|h0
  ·grind
  have:=CD.1 h (j-1) j (by omega) hj (by omega)
  grind [only,A2,zBk,rcmp]
 unfold relR;rw[hs,if_pos rfl];cases L with
 |nil=>rfl
 |cons a L=>show a::uqA a L=_;rw[uqA_id L a h]
theorem zTz{r:Rw}{n:Nat}(h:r.length=n):zT r (As n)=r:=by
 unfold zT;apply Ba;grind
abbrev rgD(n:Nat):List D:=(As n).map λc=>iD (c:Nat)
theorem rg_hd{n i:Nat}(h:i<n):((rgD n).drop i).headD .unk=iD (i:Nat):=by
 simp_all
theorem rg_take{n i:Nat}(h:i<=n):(rgD n).take i=rgD i:=by
 rw[<-List.map_take,List.take_range,Cd h]
theorem indexNo_c(i:Nat)(hi:i<=1000000):Pure AB 180 [.row (rgD i) i,iD (i:Nat)] [] (iD (-1)):=by
 refine zF zBb mixed Tryz.func180 rfl ?_;focus
  refine vAu<|zA<|vAe<|zH ?_;rotate_left
 refine zK (λ(j:Nat)=>fr 19 [(0,Aj (rgD i) i),(1,iD i),(7,iD i),(8,iD j)]) (λ(j:Nat)=>[]) (λ(j:Nat)=>i-j) (λ(j:Nat)=>j<=i) 0 ?_ ?_ ?_
 ·omega
 ·refine vk 0
 intro j h1;rcases AH j i with h2|h2
 ·have hx:=rg_hd h2;have hne:rgD i≠[]:=zAm (by simp;omega);focus
   refine vAu<|zA<|vT ((j:Int)<↑i)<|vKB<|vAe ?_;refine vA<|vr 4 (ix ↑j ↑i (rgD i≠[]))<|vp 14 j (rgD i)<|vr 1 (0<Aa (An j<|rgD i))<|vsh 15 hx<|veT<|vEf ((i:Int)) ((j:Int))<|zQ<|zD<|vN<|zB rfl<|vr 2 (i6 (↑j+1)) ?_;refine vnil<|zC ?_;rotate_left
  refine⟨j+1,by omega,by omega,?_⟩;refine vk 0
 focus
  refine vAu<|zA<|vF ((j:Int)<↑i)<|vZ2<|vA ?_;refine veT<|zE<|vret (True)<|.inr rfl
theorem zS0(i:Nat)(hi:i<=1000000):Pure AB 162 [.row (rgD i) i,iD (i:Nat)] [] (bD Ad):=by
 have h:=indexNo_c i hi;refine zF zBb mixed Tryz.func162 rfl ?_;refine vAu<|vA<|vrT 2<|vc h<|veT<|zE<|vret (True)<|.inr rfl
def Tq:Par:=⟨(Tt 5).imp,λ_ _=>AS,λ_=>Ad,λ_=>Ad,λt=>t==244⟩
theorem Tq_ok:zA7 AB Tq:=by intro t n f h;cases h
abbrev rlB(n:Nat)(L:List Rw):Bk:=⟨[iD (n:Nat), .row (L.map rowV) L.length],85,0,Ad,Ad, .plain⟩
def nwb(n:Nat)(L:List Rw)(r:D)(k:Nat):Bk:=([rlB n L,⟨[r],222,0,Ad,Ad, .plain⟩,rlB n L,Af,tvB 3 n]:List Bk).getD k Af
theorem nw_set(n:Nat)(L:List Rw)(t:Tri)(r r':D):(tlay 3 5 (nwb n L r) t).set 1 ⟨[r'],222,0,Ad,Ad, .plain⟩=tlay 3 5 (nwb n L r') t:=by
 apply Ba;intro j;rw[Bw,zB7];split
 ·rename_i e;subst e;rw[if_pos (by omega),zDg (by omega)];rfl
 rename_i e;rcases AH j (5+2*t.length)with hj|hj
 ·rw[zDg hj,zDg hj];unfold tblk;split
  ·rfl
  split
  ·rename_i h5;match j,h5,e with
   |0,_,_=>rfl
   |2,_,_=>rfl
   |3,_,_=>rfl
   |4,_,_=>rfl
   |1,_,e=>exact absurd rfl e
  rfl
 grind [BA,zB7]
abbrev q8_:=Al [nl] 222 0 Ad Ad Ao
theorem trieNew_c(n:Nat)(L:List Rw)(hn:n<=32)(hL:L.length<=65536)(hl:∀r∈L,r.length=n)(hs:Rsc L):Pure AB 144 [relD (n:Nat) L, .row (rgD n) n] [] (.tup [.agg [triC (zB6 n L)],iD 0]):=by
 have hra:=zP2 (n:Nat) (L.map rowV) L.length;have hpr:=zRs n L (As n) hL (by simpa using hn) hl (by omega) (by simp);have e1:(L.map λr=>zT r (As n))=L:=by
  conv=>rhs;rw[<-List.map_id L]
  grind [BO,zTz]
 rw[e1,relR_id hs,List.length_range]at hpr;have hrw:=zTv (n:Nat) L hL (λr hr=>by have:=hl r hr;omega);refine zF Tq_ok mixed Tryz.func144 rfl ?_;focus
  refine vAu<|zA<|vAe<|zH ?_;rotate_left
 refine zK (λ(i:Nat)=>fr 92 [(1,Aj (rgD n) n),(2,Ae 0 0),(4,Ae 1 0),(15,Aj (rgD n) n),(16,iD n),(17,iD i)]) (λ(i:Nat)=>[⟨[iD (n:Nat),.row (L.map rowV) L.length],85,0,Ad,Ad,.plain⟩,⟨[nlD],222,0,Ad,Ad,.plain⟩]) (λ(i:Nat)=>n-i) (λ(i:Nat)=>i<=n) 0 ?_ ?_ ?_
 ·omega
 ·refine vk 2
 intro i h1;rcases AH i n with h2|h2
 ·have hx:=rg_hd h2;have hne:rgD n≠[]:=zAm (by simp;omega);have htk:=rg_take h1;have hco:=zS0 i (by omega);focus
   refine vAu<|zA<|vT ((i:Int)<↑n)<|vKB<|vA<|vr 2 (ix ↑i ↑n (rgD n≠[])) ?_;refine vp 20 i (rgD n)<|vr 1 (0<Aa (An i<|rgD n))<|vsh 21 hx<|veT<|zA<|vA<|vw 5 [] [(2,Ad)] (decide ((i:Int)<0)=Ad/\2<=2)<|vc hra<|veT<|vF ((i:Int)>=(n:Int))<|vK ?_;refine vA<|vr 3 (True/\(0:Int)<=(i:Int)/\True/\0<1/\0<=Au (i:Int)/\Au (i:Int)<=n/\Au (i:Int)=Au (i:Int))<|vs 33 (Aj (AK ((Au (i:Int)-0)*1)<|An 0<|rgD n) (Au (i:Int)-0)) (Aj (rgD i) i) (by simp(disch:=omega) only[AT,Nat.sub_zero,AR,A9,htk])<|vrT 1<|vc hco<|veT<|vf<|zQ<|zD<|vN<|zB rfl<|vr 2 (i6 (↑i+1)) ?_;refine vnil<|zC ?_;rotate_left
  refine⟨i+1,by omega,by omega,?_⟩;refine vk 2
 obtain rfl:i=n:=by omega
 focus
  refine vAu<|zA<|vF ((i:Int)<↑i)<|vZ2<|vA ?_;refine vr 2 (2<=2)<|vc hpr<|ve (0<2/\1<2/\Ad=Ad/\Ab=Ab/\2=2/\2<=2)<|zA<|vAe<|vf<|vK<|vA<|ve (((0:Int)<=(i:Int)/\(i:Int)<=↑i/\(↑(48:Nat):Int)*(i:Int)<=(281474976710656:Int)/\(i:Int)<=(281474976710656:Int)/\0<2/\2=2)/\((1=1/\1<=1/\True)/\Ab=Ab)/\Ad=Ad/\Ab=Ab/\1=1/\1<=1) ?_;refine vA<|vrT 1<|vnil<|zC<|vnn (fr 92 [(4,Ae 1 0),(8,Ae 2 0),(10,Ae 4 0),(11,nl)]) [Al [iD i,Aj (Ah rowV L)<|Aa L] (85:TypeId) 0 Ad Ad Ao,Al [nlD] (222:TypeId) 0 Ad Ad Ao,Al [iD i,Aj (Ah rowV L)<|Aa L] 85 0 Ad Ad Ao,Al (repL i [nl,nl]) 244 2 Ab Ad<|kdOf Ab,Al [Ag 3 0 i (i*2) Ab] 222 0 Ad Ad Ao] ?_;rotate_left
 refine zBx (weak_mk (rlB i L) ⟨[nlD],222,0,Ad,Ad,.plain⟩ (rlB i L) (tvB 3 i) (nwb i L nlD) i rfl rfl rfl rfl) ?_;have hl4:∀t:Tri,(tlay 3 5 (nwb i L nlD) t)[4]?=Aq (tvB 3 i):=λt=>by rw[zDg (by omega)];rfl
 have hl2:∀t:Tri,(tlay 3 5 (nwb i L nlD) t)[2]?=Aq (rlB i L):=λt=>by rw[zDg (by omega)];rfl
 have hbs:Bss 5 (nwb i L nlD):=λk hk=>by
  match k,hk with
  |0,_=>exact .inr λj _=>by simp[nwb,zX,refs]
  |1,_=>exact .inr λj _=>by simp[nwb,zX,refs]
  |2,_=>exact .inr λj _=>by simp[nwb,zX,refs]
  |3,_=>exact .inr λj _=>by simp[nwb,zX,Af,instInhabitedBk.default]
  |4,_=>exact .inr λj hj=>by simp[nwb,zX,refs];omega
 focus
  refine zA<|vA ?_;rotate_left
 refine zAe (Al [iD i,Aj (Ah rowV L)<|Aa L] 85 0 Ad Ad Ao) (2) (AJ 2 2) (AD [iD i,Aj (Ah rowV L)<|Aa L]) (hl2 _) (by simp) ?_;focus
  refine zRj [AD [iD i,Aj (Ah rowV L)<|Aa L]] (by exact hrw) ?_;refine zAb [8,52] [(54,iD<|Aa L),(55,iD 0)] ?_;refine zH ?_;rotate_left
 have htl:∀j,(bldT [] (L.take j) (AA i ([],[]))).length=i:=λj=>by rw[zK9,Cp]
 refine zK (λ(j:Nat)=>fr 92 [(4,Ae 1 0),(10,Ae 4 0),(11,rowV<|List.getLastD (AK j L) []),(53,Aj (Ah rowV L)<|Aa L),(54,iD<|Aa L),(55,iD j)]) (λ(j:Nat)=>tlay 3 5 (nwb i L nlD) (bldT [] (L.take j)<|AA i ([],[]))) (λ(j:Nat)=>L.length-j) (λ(j:Nat)=>j<=L.length/\SzT j (bldT [] (L.take j)<|AA i ([],[]))) 0 ?_ ?_ ?_
 ·refine⟨by omega,λk=>?_⟩;show(vls (AA i ([],[])) k).length<=0/\(fst' (AA i ([],[])) k).length<=0/\∀c∈fst' (AA i ([],[])) k,c<=0;simp_all [zPx]
 ·refine zAs [(4,1),(10,1),(11,3),(53,1),(54,1),(55,1)] (Ae 1 0=Ae 1 0/\Ae 4 0=Ae 4 0/\Aj (Ah rowV L) (Aa L)=Aj (Ah rowV L) (Aa L)/\iD (Aa L:Int)=iD (Aa L:Int)/\iD 0=iD (↑(0:Nat):Int)) ⟨rfl,rfl,rfl,rfl,(by kernel_rfl)⟩
 rintro j ⟨c1,c2⟩;rcases AH j L.length with hj|hj
 ·have hrow:=zB1 L j hj;have hne:L.map rowV≠[]:=zAm (by omega);have htk2:=zBs L [] j hj;have hxl:=hl (L.getD j []) (by rw[Bf,A2 hj];exact BP hj);have hbl:bldT [] (L.take (j+1)) (AA i ([],[]))=adT (L.getD j []) (shr ((L.take j).getLastD []) (L.getD j [])) (bldT [] (L.take j) (AA i ([],[]))):=by rw[htk2,zS5]
  have hgl:(L.take (j+1)).getLastD []=L.getD j []:=by rw[htk2];simp
  have hll:((L.take j).getLastD []).length<=(L.getD j []).length:=by
   rw[hxl];rcases Co j with h0|h0
   ·simp_all
   have hm:(L.take j).getLastD []∈L:=by
    have hne2:L.take j≠[]:=λe=>by
     simp_all
    grind [List.getLast?_eq_some_getLast,Ce,List.getLast_mem]
   grind
  have hsh:=shared_c ((L.take j).getLastD []) (L.getD j []) hll (by omega);have hsl:=shr_le ((L.take j).getLastD []) (L.getD j []);have htj:=htl j;have had:=add_a (m:=3) (o:=5) (base:=nwb i L nlD) (by decide) hbs (L.getD j []) (bldT [] (L.take j) (AA i ([],[]))) (shr ((L.take j).getLastD []) (L.getD j [])) (by omega) (by omega) (by omega) (by decide) j (by omega) c2 ((As (2*i)).map (5+·)) (λk hk=>by
   rcases AH k 5 with h|h
   ·exact .inl h
   refine .inr (B5.2 ⟨k-5,A_.2 (by omega),by omega⟩))
  rw[htj]at had;rw[<-hbl]at had;have hsz3:=zYn (shr ((L.take j).getLastD []) (L.getD j [])) (L.getD j []) _ c2;rw[<-hbl]at hsz3;rw[<-hgl]at had hsh hrow hsl;generalize (L.take j).getLastD []=last at*;generalize hgx:(L.take (j+1)).getLastD []=x at*;generalize shr last x=f at*;have hl4j:=hl4 (bldT [] (L.take j) (AA i ([],[])));focus
   refine vA ?_;refine zAb [] [(56,bD<|decide ((j:Int)<↑(Aa L)))] ?_;refine zA<|vT ((j:Int)<↑(Aa L))<|vKB<|vA ?_;refine zR 1 [] [] (ix ↑j ↑(Aa L) (Ah rowV L≠[])) [(57,AU<|An (Au (j:Int)*1)<|Ah rowV L)] ⟨(by omega),⟨(by omega),(by assumption)⟩⟩ ?_;refine zAl 57 (AU<|An (Au (j:Int)*1)<|Ah rowV L) (AU<|An j<|Ah rowV L) (by simp(disch:=omega) only[AT,AR]) ?_;refine zR 1 [] [] (0<Aa (An j<|Ah rowV L)) [(58,AO (An j<|Ah rowV L) Uk)] (by(simp;omega)) ?_;refine zAl 58 (AO (An j<|Ah rowV L) Uk) (rowV x) (by simp(disch:=omega) only[hrow]) ?_;refine zAb [56,57,58] [(13,(q3_ x))] ?_;refine zA<|vd [1,2,3,0,4,5] ?_;refine zA3 3 [(60,(q3_ x)),(61,(q3_ last)),(62,(q3_ x))] ?_;rotate_left
  refine zAe (Al [Ag 3 0 i (i*2) Ab] 222 0 Ad Ad Ao) (4) (AJ 1 1) (AD [Ag 3 0 i (i*2) Ab]) hl4j (by simp) ?_;focus
   refine zRj [(q3_ last),(q3_ x)] (by exact hsh) ?_;refine zJn [] [] [AD [Ag 3 0 i (i*2) Ab],(q3_ x),iD f] [AD [Ag 3 0 i (i*2) Ab],(q3_ x),iD f] (¬1∈Ah (λ(x:Nat)=>5+x) (As (2*i))/\¬4∈Ah (λ(x:Nat)=>5+x) (As (2*i))/\¬3∈Ah (λ(x:Nat)=>5+x) (As (2*i))/\True) (by kernel_rfl) trivial (AZ _) (by exact had) (by kernel_rfl) ?_ ?_ ?_;rotate_left;rotate_left;refine zAb [59,60,61,62,63,64] [] ?_;refine zB rfl ?_;refine zA3 2 [(11,(q3_ x)),(65,(q3_ x))] ?_;refine zAh ?_ (by kernel_rfl);refine zD<|vN<|zB rfl ?_;refine zR 2 [] [] (i6 (↑j+1)) [(55,iD (↑j+1)),(66,iD (↑j+1))] (by omega) ?_;refine zAh ?_ (by kernel_rfl);refine zC ?_;rotate_left
  ·exact λ_ _=>rfl
  ·grind
  refine⟨j+1,⟨hj,hsz3⟩,by omega,?_⟩;rw[hgx];refine zAs [(4,1),(10,1),(11,1),(53,1),(54,1),(55,1)] (Ae 1 0=Ae 1 0/\Ae 4 0=Ae 4 0/\Aj (zJ x) (Aa x)=rowV x/\Aj (Ah rowV L) (Aa L)=Aj (Ah rowV L) (Aa L)/\iD (Aa L:Int)=iD (Aa L:Int)/\iD ((j:Int)+(1:Int))=iD (↑(j+1):Int)) ⟨rfl,rfl,rfl,rfl,rfl,(by kernel_rfl)⟩
 obtain rfl:j=L.length:=by omega
 rw[Bx]at c2⊢;have htl2:=htl L.length;rw[Bx]at htl2;obtain⟨tb,htb⟩:∃tb,tb=bldT [] L (AA i ([],[])):=⟨_,rfl⟩;rw[<-htb]at c2 htl2⊢;focus
  refine vA ?_;refine zAb [] [(56,bD<|decide ((Aa L:Int)<(Aa L:Int)))] ?_;refine zA<|vF ((Aa L:Int)<↑(Aa L))<|vZ2<|zA<|vA ?_;refine zA3 1 [(67,Ae 4 0)] ?_;rotate_left
 refine zAe (Al [Ag 3 0 i (i*2) Ab] 222 0 Ad Ad Ao) (4) (AJ 1 1) (Ag 3 0 i (i*2) Ab) (hl4 tb) (by simp) ?_;focus
  refine zAb [11,53,54,55,56,67,68] [(69,iD i),(70,iD 0)] ?_;refine zH ?_;rotate_left
 refine zK (λ(l:Nat)=>fr 92 [(4,Ae 1 0),(10,Ae 4 0),(69,iD i),(70,iD l)]) (λ(l:Nat)=>tlay 3 5 (nwb i L nlD) ((A6 0 l).foldl stF tb)) (λ(l:Nat)=>i-l) (λ(l:Nat)=>l<=i/\SzT (L.length+l) ((A6 0 l).foldl stF tb)) 0 ?_ ?_ ?_
 ·exact⟨by omega,c2⟩
 ·refine zAs [(4,1),(10,1),(69,1),(70,1)] (Ae 1 0=Ae 1 0/\Ae 4 0=Ae 4 0/\iD (i:Int)=iD (i:Int)/\iD 0=iD (↑(0:Nat):Int)) ⟨rfl,rfl,rfl,(by kernel_rfl)⟩
 rintro l ⟨c3,c4⟩;rcases AH l i with hli|hli
 ·have hsu:(A6 0 (l+1)).foldl stF tb=stF ((A6 0 l).foldl stF tb) l:=by
   simp_all [List.range'_concat,Cf]
  have hln:((A6 0 l).foldl stF tb).length=i:=by rw[zSm,htl2]
  generalize (A6 0 l).foldl stF tb=u at*;have hul:l<u.length:=by omega
  have hl4u:=hl4 u;have hhd1:=lv_hd1 (o:=5) hul;have hll:=zNz (o:=5) (t:=u);have hnu:=zRb (m:=3) (t:=u) hbs;have hsz2:=size_g (m:=3) (o:=5) (t:=u) (st:=tlay 3 5 (nwb i L nlD) u) (tl_m (by decide)) (λb hb=>by rw[zB7];exact hnu b hb) (l+1) (by omega);rw[hln]at hsz2;have hvl2:=(c4 (l+1)).1;have hfl2:=(c4 l).2.1;have htl5:(tlay 3 5 (nwb i L nlD) u).length=5+2*u.length:=zB7;have htk9:(tlay 3 5 (nwb i L nlD) u).take 100000=tlay 3 5 (nwb i L nlD) u:=zD6 (by rw[htl5];omega);have htB3:((tlay 3 5 (nwb i L nlD) u).take 100000)[4]?=Aq (tvB 3 i):=by rw[htk9];exact hl4u
  have htm3:((tlay 3 5 (nwb i L nlD) u).take 100000)[3]?=Aq (lvB 5 u):=by rw[htk9];exact tl_m (by decide)
  focus
   refine vA ?_;refine zAb [] [(71,bD<|decide ((l:Int)<↑i))] ?_;refine zA<|vT ((l:Int)<↑i)<|vKB<|vA ?_;refine zAb [71,72] [(14,iD l)] ?_;refine zA6 [0,2,3,5,10,11,1,4,6,7,8,9] [(12,[(1,100000),(4,100000),(6,100000),(7,100000),(8,100000)],[13]),(14,[(1,100000)],[15,16,17])] rfl ?_;refine zR 6 [] [] (True/\True/\i6 (↑l+1)) [(73,Ae 4 0),(75,iD l),(76,Ae 4 0),(78,iD l),(83,iD l),(84,iD (↑l+1))] ⟨trivial,trivial,(by omega)⟩ ?_;rotate_left
  refine zAe (Al [Ag 3 0 i (i*2) Ab] 222 0 Ad Ad Ao) (4) (AJ 1 1) (Ag 3 0 i (i*2) Ab) hl4u (by simp) ?_;refine zAe (Al [Ag 3 0 i (i*2) Ab] 222 0 Ad Ad Ao) (4) (AJ 1 1) (Ag 3 0 i (i*2) Ab) hl4u (by simp) ?_;focus
   refine zR 1 [] [] ((0:Int)<=(l:Int)/\(l:Int)<↑i) [(79,Ae 3 (0+Au (l:Int)*2))] (by omega) ?_;refine zAl 79 (Ae 3 (0+Au (l:Int)*2)) (Ae 3 (l*2)) (by simp(disch:=omega) only[AT,Bh]) ?_;refine zA3 1 [(80,Ae 3 (l*2+1))] ?_;rotate_left
  refine zAe (Al (lvCs 5 u) 244 2 Ab Ad AW) (3) (AJ 1<|Aa<|An (l*2+1)<|lvCs 5 u) (AO (An (l*2+1)<|lvCs 5 u) Uk) (tl_m (by decide:3<5)) (by(simp;omega)) ?_;rw[hhd1];refine zAe (Al [Ag 3 0 i (i*2) Ab] 222 0 Ad Ad Ao) (4) (AJ 1 1) (AD [Ag 3 0 i (i*2) Ab]) hl4u (by simp) ?_;focus
   refine zAh ?_ (by kernel_rfl);rotate_left
  refine zBz rfl rfl ?_ (hf:=zDn (λx hx=>by rw[htl5];simp at hx;rcases hx with rfl|rfl|rfl|rfl|rfl<;>(show _<=100000;omega)));focus
   refine zY [] [] [AD [Ag 3 0 i (i*2) Ab],iD (↑l+1)] [AD [Ag 3 0 i (i*2) Ab],iD ↑(l+1)] (AZ _) (by exact hsz2) ?_;refine zAh ?_ (by kernel_rfl);rotate_left
  refine zDk (A0 _) (zDa (zDd 1 100000 (tvB 3 i) 4 (0<1) (.osl 3 0 i (i*2) Ab) (by kernel_rfl) htB3 (by decide) (by kernel_rfl))
   (zDa (zDd 4 100000 (tvB 3 i) 4 (0<1) (.osl 3 0 i (i*2) Ab) (by kernel_rfl) htB3 (by decide) (by kernel_rfl))
   (zDa (zK4 6 100000 ((0:Int)<=(l:Nat)/\((l:Nat):Int)<(i:Nat)) (.own 3 (0+Au (l:Nat)*2)) (.own 3 (l*2)) (by kernel_rfl) (by simp) (by omega) (by kernel_rfl))
   (zDa (zK4 7 100000 True (.own 3 (l*2+1)) (.own 3 (l*2+1)) (by kernel_rfl) rfl trivial (by kernel_rfl))
   (zXp 8 100000 (lvB 5 u) 3 (0<((lvCs 5 u).drop (l*2+1)).length) (((lvCs 5 u).drop (l*2+1)).headD .unk) (.osl (5+2*l+1) 0 (fst' u l).length (fst' u l).length Ab) (by kernel_rfl) hhd1 htm3 (by rw[List.length_drop,hll];omega) (by kernel_rfl)))))) ?_
  rotate_left;refine zBc (5+2*Aa u) ((1=1/\1<=1/\True)/\0<1/\1=1/\1<=16777216/\1<=9223372036854775807) (Al [iD (↑(Aa<|vls u (l+1)):Int)] 3 1 Ab Ad Ao) (Ag 0 0 1 1 Ab) htl5 ?_ (hp:=⟨⟨(by kernel_rfl),⟨(by omega),trivial⟩⟩,(by omega)⟩);focus
   refine zAh ?_ (by kernel_rfl);rotate_left
  refine zBz rfl rfl ?_ (hf:=zDn (λx hx=>by rw[AN,htl5];simp at hx;subst hx;show _+1<=100000;omega));refine zLm (Al (Ah (λ(c:Nat)=>iD c)<|fst' u l) 3 1 Ab Ad Ao) (Al [iD (↑(Aa<|vls u (l+1)):Int)] 3 1 Ab Ad Ao) 81 (5+2*l+1) (5+2*Aa u) (Ab=Ab/\Aa (Ah (λ(c:Nat)=>iD c)<|fst' u l)=Aa (fst' u l)*1/\Aa (fst' u l)=Aa (fst' u l)*1/\3=3/\1=1/\1=1/\0<1/\0<8/\3=3/\(Aa (fst' u l)+1)*8<=140737488355328/\1=1/\Bi Ao=Ad/\(Ad=Ad\/Bj Ao=Ab)) (1≠5+2*l+1/\4≠5+2*l+1/\4≠5+2*l+1/\3≠5+2*l+1/\4≠5+2*l+1/\3≠5+2*l+1/\3≠5+2*l+1/\3≠5+2*l+1/\3≠5+2*l+1/\5+2*Aa u≠5+2*l+1/\True) (Al (Ah (λ(c:Nat)=>iD c) (fst' u l)++[iD (↑(Aa<|vls u (l+1)):Int)]) 3 1 Ab Ad Ao) (Ag (5+2*l+1) 0 (Aa (fst' u l)+1) ((Aa (fst' u l)+1)*1) Ab) (by kernel_rfl) (zA2<|tl_f (m:=3) (o:=5) (by decide) hul) (zAr htl5) ⟨(by kernel_rfl),⟨(by simp),⟨(by omega),⟨(by kernel_rfl),⟨(by kernel_rfl),⟨(by kernel_rfl),⟨(by omega),⟨(by omega),⟨(by kernel_rfl),⟨(by omega),⟨(by kernel_rfl),⟨(by kernel_rfl),(by simp)⟩⟩⟩⟩⟩⟩⟩⟩⟩⟩⟩⟩ (by kernel_rfl) ⟨(by omega),⟨(by omega),⟨(by omega),⟨(by omega),⟨(by omega),⟨(by omega),⟨(by omega),⟨(by omega),⟨(by omega),⟨(by omega),trivial⟩⟩⟩⟩⟩⟩⟩⟩⟩⟩ ?_ ?_
  ·exact rfl
  rw[kst1 (t:=u) (k:=5+2*l+1) (by omega) (zB4 rfl)];rw[AR];focus
   refine zAh ?_ (by kernel_rfl);rotate_left
  refine zDk (by rw[AN,htl5,AN,zEt];exact A0 _) (zDd 1 100000 (tvB 3 i) 4 (0<1) (.osl 3 0 i (i*2) Ab) (by kernel_rfl) (by
   rw[zD6 (by rw[AN,zEt];show _+1<=100000;omega)];refine zA2 ?_;rw[Cg (by omega),Bp,hl4u];exact congrArg Aq (zTj (by omega))) (by decide) (by kernel_rfl)) ?_
  focus
   refine zR 1 [] [] ((0:Int)<=(l:Int)/\(l:Int)<↑i) [(88,Ae 3 (0+Au (l:Int)*2))] (by omega) ?_;refine zAl 88 (Ae 3 (0+Au (l:Int)*2)) (Ae 3 (l*2)) (by simp(disch:=omega) only[AT,Bh]) ?_;refine zA3 1 [(89,Ae 3 (l*2+1))] ?_;rotate_left
  refine zB3 (Al (Ah (zAi (5+2*l+1))<|lvCs 5 u) 244 2 Ab Ad AW) (3) (Ad=Ad/\Ab=Ab/\1=1/\l*2+1+1<=Aa (Ah (zAi (5+2*l+1))<|lvCs 5 u)) (Al (setAt (Ah (zAi (5+2*l+1))<|lvCs 5 u) (l*2+1)<|cellsOf<|Ag (5+2*l+1) 0 (Aa (fst' u l)+1) (Aa (fst' u l)+1) Ab) 244 2 Ab Ad AW) (zA2<|ks_m (by decide:3<5) (by omega:5+2*l+1≠3)) ⟨(by kernel_rfl),⟨(by kernel_rfl),⟨(by kernel_rfl),(by(simp;omega))⟩⟩⟩ ?_;have hA2:=zWi (m:=3) (o:=5) (base:=nwb i L nlD) (by decide) hbs hul (vls u (l+1)).length;refine zFy (tlay 3 5 (nwb i L nlD) (stF u l)++[⟨[iD ((vls u (l+1)).length:Nat)],3,1,Ab,Ad,.plain⟩]) ?_ ?_
  ·rw[zBj (by rw[zEt];omega)];exact congrArg (λs=>s++[_]) hA2
  focus
   refine zAh ?_ (by kernel_rfl);refine zBu<|zD<|zC ?_;rotate_left
  refine zF4 (A6 5 5++A6 11 58++A6 71 21) ([Uk,Uk,Uk,Uk,.own 1 0,Uk,Uk,Uk,Uk,Uk,.own 4 0]++AA 58 Uk++[iD (i:Nat),iD (l:Nat)]++AA 21 Uk) (1<5+2*u.length/\4<5+2*u.length/\True) (by rw[zB7,zTo]) (λb hb=>by have:=zRb hbs b hb;rwa[zTo]at this) (λ_ _=>rfl) (by kernel_rfl) (by kernel_rfl) ⟨by omega,by omega,trivial⟩ ?_;focus
   refine zB rfl ?_;refine zR 2 [] [] (i6 (↑l+1)) [(70,iD ↑(l+1)),(90,iD ↑(l+1))] (by omega) ?_;refine zAh ?_ (by kernel_rfl);refine zC ?_;rotate_left
  refine⟨l+1,⟨hli,?_⟩,by omega,?_⟩
  ·grind [stF_sz]
  rw[hsu];refine zAs [(4,1),(10,1),(69,1),(70,1)] (Ae (1:Nat) (0:Nat)=Ae (1:Nat) (0:Nat)/\Ae (4:Nat) (0:Nat)=Ae (4:Nat) (0:Nat)/\iD (i:Int)=iD (i:Int)/\iD (↑(l+(1:Nat)):Int)=iD (↑(l+(1:Nat)):Int)) ⟨rfl,rfl,rfl,rfl⟩
 obtain rfl:l=i:=by omega
 have hff:=foldF tb;rw[htl2]at hff;rw[hff]at c4⊢;have htt:finT tb=zB6 l L:=by rw[htb];rfl
 rw[htt];have htlen:=zHr l L;have hl1:(tlay 3 5 (nwb l L nlD) (zB6 l L))[1]?=Aq ⟨[nlD],222,0,Ad,Ad, .plain⟩:=by rw[zDg (by omega)];rfl
 focus
  refine vA ?_;refine zAb [] [(71,bD<|decide ((l:Int)<↑l))] ?_;refine zA<|vF ((l:Int)<↑l)<|vZ2<|vA ?_;rotate_left
 refine zAe (Al [Ag 3 0 l (l*2) Ab] 222 0 Ad Ad Ao) (4) (AJ 1 1) (AD [Ag 3 0 l (l*2) Ab]) (hl4 _) (by simp) ?_;refine zB3 (q8_) (1) (Ad=Ad/\Ab=Ab/\1=1/\1<=1) (Al [Ag 3 0 l (l*2) Ab] 222 0 Ad Ad Ao) hl1 ⟨(by kernel_rfl),⟨(by kernel_rfl),(by omega)⟩⟩ ?_;refine zFy (tlay 3 5 (nwb l L<|.osl 3 0 l (l*2) Ab)<|zB6 l L) (nw_set l L _ nlD _) ?_;refine zR 1 [] [] True [(5,iD 0)] trivial ?_;refine zAh ?_ (by kernel_rfl);refine zC ?_;refine next_trie (rlB l L) (A6 6 86) ([Uk,Uk,Uk,Uk, .own 1 0,iD 0]++AA 86 Uk) (1<2/\True) rfl (by rw[htlen];rfl) (.inr λj hj=>by simp only[zX,refs,AP]) (λ_ _=>rfl) (by kernel_rfl) (by kernel_rfl) ⟨by decide,trivial⟩ ?_;refine zE<|vret (1<=1)<|.inr rfl
end
section
variable {n na : Nat} {vs : Nat → List Nat}
def Szs(na M:Nat)(its:List It):Prop:=∀a,a<na->∀k,(vls (its.getD a Af).t k).length<=M
theorem Szs.of{M:Nat}{its its':List It}(h:Szs na M its)(ht:∀a,a<na->(its'.getD a Af).t=(its.getD a Af).t):Szs na M its':=λa ha k=>by rw[ht a ha];exact h a ha k
theorem zXe{k l M:Nat}(h:k<=l):mtF k M<=mtF l M:=by
 unfold mtF;have h1:=Br M h
 have:=Nat.mul_le_mul h1 (Nat.succ_le_succ h)
 grind
def cM(na M:Nat):Nat:=mtF na M*(M+2)
def cE(na M:Nat):Nat->Nat
 |0=>1
 |m+1=>cM na M+M*(cE na M m+cM na M)
theorem mtF_cM(na M:Nat):mtF na M<=cM na M:=by
 grind [cM,Nat.le_mul_of_pos_right]
theorem ats_len(v:Nat):(ats na vs v).length<=na:=by
 grind [ats,AF,BB]
theorem rng_le{M:Nat}{it:It}(h:LvI it)(hM:∀k,(vls it.t k).length<=M):it.e-it.p<=M:=by
 rcases AH it.p it.e with hp|hp
 ·have:=(h.len hp).1
  have:=hM (it.l-1)
  omega
 omega
theorem zK2{v M:Nat}(hv:Vok n na vs)(hvn:v<n){its:List It}{s:Nat}(hi:InV na vs v its)(hM:Szs na M its)(hs:s+cM na M+1<=big)(hst:∀a,a<na->(its.getD a Af).s+cM na M<=big)
  (hp:∀i∈ats na vs v,i≠(ats na vs v).getD 0 0->(its.getD i Af).p<(its.getD i Af).e):
  (metJ (ats na vs v) its s).2.1<=s+cM na M/\∀a,a<na->((metJ (ats na vs v) its s).1.getD a Af).s<=(its.getD a Af).s+cM na M:=by
 have h0:=hv.pos hvn;have hm:=zAy h0;have hla:∀i∈ats na vs v,i<na/\v∈vs i:=λi h=>(zV na vs).1 h;have hlv:∀i∈ats na vs v,LvI (its.getD i Af):=λi h=>(hi.inn i (hla i h).1 (hla i h).2).lv;have hrg:∀i∈ats na vs v,(its.getD i Af).e-(its.getD i Af).p<=M:=λi h=>rng_le (hlv i h) (hM i (hla i h).1);have hmet:=zDv (ats na vs v) (zKq na vs v) h0 its s (λi h=>⟨by rw[hi.len];exact(hla i h).1,hlv i h⟩) hp;unfold metJ at hmet⊢;have hon:=zNu (hlv _ hm);by_cases h:(its.getD ((ats na vs v).getD 0 0) Af).p<(its.getD ((ats na vs v).getD 0 0) Af).e
 ·rw[decide_eq_true h]at hon;rw[hon,if_pos rfl]at hmet⊢;have hms:=msr_le (ats na vs v) its (keyI (its.getD ((ats na vs v).getD 0 0) Af)) 1 M hrg;have hmn:=zXe (M:=M) (ats_len (na:=na) (vs:=vs) v);have hmm:msr (ats na vs v) its (keyI (its.getD ((ats na vs v).getD 0 0) Af)) 1*(M+2)<=cM na M:=Br _ (AF hms hmn);have hf:=mtF_cM na M;have hMI:MI (ats na vs v) na M its (keyI (its.getD ((ats na vs v).getD 0 0) Af)) 1 1 s (msr (ats na vs v) its (keyI (its.getD ((ats na vs v).getD 0 0) Af)) 1):=by
   refine⟨hi.len,λi h=>(hla i h).1,λi h'=>⟨hlv i h',?_,hrg i h'⟩,λi h'=>by have:=hst i (hla i h').1;omega,A0 _,h0,by omega,by omega,A0 _⟩;grind
  obtain⟨c1,c2⟩:=mtL_cost (ats na vs v) na M _ _ _ _ _ _ hMI;refine⟨by omega,λa ha=>?_⟩;by_cases hma:a∈ats na vs v
  ·have:=c2 a hma;omega
  rw[hmet.out a hma];omega
 grind
theorem lp_atv{v:Nat}(hv:Vok n na vs){its:List It}(hi:InV na vs v its){c:Va}(hc:∀i∈ats na vs v,(its.getD i Af).p<(its.getD i Af).e/\keyI (its.getD i Af)=c):AtV na vs (v+1) its:=⟨hi.len,λa ha=>by
  by_cases hva:v∈vs a
  ·rw[cnt_in hv ha hva];exact(hi.inn a ha hva).at (hc a ((zV na vs).2 ⟨ha,hva⟩)).1
  rw[cnt_out hv ha hva];exact hi.out a ha hva⟩
theorem lp_nx{v:Nat}(hv:Vok n na vs)(hvn:v<n){its its1:List It}(hi:InV na vs v its)(hc:∀i∈ats na vs v,(its.getD i Af).p<(its.getD i Af).e)(hl:its1.length=na)(hr:∀a,a<na->Res (its.getD a Af) (its1.getD a Af)):
  InV na vs v (its1.set ((ats na vs v).getD 0 0) (nxI (its1.getD ((ats na vs v).getD 0 0) Af)))/\∀i∈ats na vs v,i≠(ats na vs v).getD 0 0->((its1.set ((ats na vs v).getD 0 0) (nxI (its1.getD ((ats na vs v).getD 0 0) Af))).getD i Af).p<((its1.set ((ats na vs v).getD 0 0) (nxI (its1.getD ((ats na vs v).getD 0 0) Af))).getD i Af).e:=by
 have h0:=hv.pos hvn;have hi0:=zAy h0;obtain⟨hi1,hi2⟩:=(zV na vs).1 hi0;have hl1:(ats na vs v).getD 0 0<its1.length:=by rw[hl];exact hi1
 refine⟨⟨by rw[Bl];exact hl,λa ha hva=>?_,λa ha hva=>?_⟩,λa ha hne=>?_⟩
 ·have hh:=res_inn (hi.inn a ha hva) (hr a ha);by_cases e:a=(ats na vs v).getD 0 0
  ·subst e;rw[zZ hl1];exact nx_inn hh (by rw[(hr _ ha).p,(hr _ ha).e];exact hc _ hi0)
  grind
 ·rw[zBh (λe=>hva (by rw[e];exact hi2))];exact(hi.out a ha hva).res (hr a ha)
 rw[zBh hne,(hr a ((zV na vs).1 ha).1).p,(hr a ((zV na vs).1 ha).1).e];exact hc a ha
theorem zL2(v:Nat){its:List It}(hl:its.length=na)(j:Nat):(zCd (ats na vs v) its).getD j Af=if j∈ats na vs v then opI (its.getD j Af)else its.getD j default:=
 zHh opI _ _ (zKq na vs v) (λi hi=>by rw[hl];exact((zV na vs).1 hi).1) j
theorem op_inv{v:Nat}(hv:Vok n na vs){its:List It}(ha:AtV na vs v its):InV na vs v (zCd (ats na vs v) its)/\∀i∈ats na vs v,((zCd (ats na vs v) its).getD i Af).p<((zCd (ats na vs v) its).getD i Af).e:=by
 have hg:=zL2 (vs:=vs) v ha.len;refine⟨⟨by rw[show(zCd (ats na vs v) its).length=its.length from zKa opI _ _];exact ha.len,λa h1 h2=>?_,λa h1 h2=>?_⟩,λi hi=>?_⟩
 ·rw[hg,if_pos ((zV na vs).2 ⟨h1,h2⟩)];exact(zL1 (ha.one a h1) (zKo hv h1 h2)).1
 ·rw[hg,if_neg λh=>h2 ((zV na vs).1 h).2];exact ha.one a h1
 obtain⟨h1,h2⟩:=(zV na vs).1 hi;rw[hg,if_pos hi];exact(zL1 (ha.one i h1) (zKo hv h1 h2)).2.1
theorem opI_s(it:It):(opI it).s=it.s/\(opI it).t=it.t/\(opI it).fr.length=it.fr.length:=by
 grind [opI]
theorem op_same(v:Nat){its:List It}(hl:its.length=na)(a:Nat):((zCd (ats na vs v) its).getD a Af).s=(its.getD a Af).s/\((zCd (ats na vs v) its).getD a Af).t=(its.getD a Af).t/\((zCd (ats na vs v) its).getD a Af).fr.length=(its.getD a Af).fr.length:=by
 grind [zL2,opI_s]
theorem zZ8(v:Nat){its:List It}(hl:its.length=na)(j:Nat):(zGu (ats na vs v) its).getD j Af=if j∈ats na vs v then upI (its.getD j Af)else its.getD j default:=
 zHh upI _ _ (zKq na vs v) (λi hi=>by rw[hl];exact((zV na vs).1 hi).1) j
theorem up_same(v:Nat){its:List It}(hl:its.length=na)(a:Nat):((zGu (ats na vs v) its).getD a Af).s=(its.getD a Af).s:=by
 rw[zZ8 v hl];split<;>rfl
theorem metJ_no(ix:List Nat)(its:List It)(s:Nat)(h:onI (its.getD (ix.getD 0 0) Af)=Ad):metJ ix its s=(its,s,Ad):=by
 grind [metJ]
theorem lp_cost{v M m:Nat}(hv:Vok n na vs)(hvn:v<n)(rec:Js->Js)(hrec:∀S,AtV na vs (v+1) S.its->S.row.length=n->ExtP n na vs (v+1) S (rec S))
  (hcost:∀S,AtV na vs (v+1) S.its->S.row.length=n->Szs na M S.its->S.s+cE na M m+1<=big->(∀a,a<na->(S.its.getD a Af).s+cE na M m<=big)->(rec S).s<=S.s+cE na M m/\∀a,a<na->((rec S).its.getD a Af).s<=(S.its.getD a Af).s+cE na M m):
  ∀(f:Nat)(b:Bool)(S:Js),InV na vs v S.its->S.row.length=n->Szs na M S.its->(b=Ab->∃c,∀i∈ats na vs v,(S.its.getD i Af).p<(S.its.getD i Af).e/\keyI (S.its.getD i Af)=c)->S.s+f*(cE na M m+cM na M)+1<=big->(∀a,a<na->(S.its.getD a Af).s+f*(cE na M m+cM na M)<=big)->
   (lpJ rec (ats na vs v) v f b S).s<=S.s+f*(cE na M m+cM na M)/\∀a,a<na->((lpJ rec (ats na vs v) v f b S).its.getD a Af).s<=(S.its.getD a Af).s+f*(cE na M m+cM na M):=by
 have h0:=hv.pos hvn;have hi0:=zAy h0;obtain⟨hi1,hi2⟩:=(zV na vs).1 hi0;intro f;induction f with
 |zero=>intro b S hi hr hM hb hs hst;exact⟨by show S.s<=_;omega,λa ha=>by show(S.its.getD a Af).s<=_;omega⟩
 | succ f ih=>
  intro b S hi hr hM hb hs hst;cases b with
  |false=>rw[zH3];exact⟨by omega,λa ha=>by omega⟩
  | true=>
   rw[BQ]at hs⊢;have hst:∀a,a<na->(S.its.getD a Af).s+(f*(cE na M m+cM na M)+(cE na M m+cM na M))<=big:=λa ha=>by have:=hst a ha;rw[BQ]at this;exact this
   obtain⟨c,hc⟩:=hb rfl;obtain⟨S1,hS1⟩:∃S1,S1=rec {S with row:=S.row.set v (keyI (S.its.getD ((ats na vs v).getD 0 0) Af))}:=⟨_,rfl⟩;have hR:=hrec {S with row:=S.row.set v (keyI (S.its.getD ((ats na vs v).getD 0 0) Af))} (lp_atv hv hi hc) (by simpa using hr);have hC:=hcost {S with row:=S.row.set v (keyI (S.its.getD ((ats na vs v).getD 0 0) Af))} (lp_atv hv hi hc) (by simpa using hr) hM (by show S.s+_+1<=_;omega) (λa ha=>by show(S.its.getD a Af).s+_<=_;have:=hst a ha;omega);rw[<-hS1]at hR hC;obtain⟨r1,r2,r3,r4,r5⟩:=hR;obtain⟨c1,c2⟩:=hC;simp only at r2 c1 c2;have hl1:(ats na vs v).getD 0 0<S1.its.length:=by rw[r1];exact hi1
   rw[zQh rec _ v f S S1 _ hS1 rfl hl1];obtain⟨n1,n2⟩:=lp_nx hv hvn hi (λi h=>(hc i h).1) r1 r2;have hsz:∀a,a<na->((S1.its.set ((ats na vs v).getD 0 0) (nxI (S1.its.getD ((ats na vs v).getD 0 0) Af))).getD a Af).s=(S1.its.getD a Af).s/\((S1.its.set ((ats na vs v).getD 0 0) (nxI (S1.its.getD ((ats na vs v).getD 0 0) Af))).getD a Af).t=(S.its.getD a Af).t:=λa ha=>by
    by_cases e:a=(ats na vs v).getD 0 0
    ·subst e;rw[zZ hl1];exact⟨rfl,(r2 _ ha).t⟩
    rw[zBh e];exact⟨rfl,(r2 _ ha).t⟩
   generalize S1.its.set ((ats na vs v).getD 0 0) (nxI (S1.its.getD ((ats na vs v).getD 0 0) Af))=its2 at*;have hm:=zDv (ats na vs v) (zKq na vs v) h0 its2 S1.s (λa ha=>⟨by rw[n1.len];exact((zV na vs).1 ha).1,(n1.inn a ((zV na vs).1 ha).1 ((zV na vs).1 ha).2).lv⟩) n2;have hM2:=hM.of λa ha=>(hsz a ha).2;obtain⟨m1,m2⟩:=zK2 hv hvn n1 hM2 (s:=S1.s) (by omega) (λa ha=>by have:=(hsz a ha).1;have:=c2 a ha;have:=hst a ha;omega) n2;generalize metJ (ats na vs v) its2 S1.s=r at*;have hM3:Szs na M r.1:=hM2.of λa ha=>by
    by_cases hma:a∈ats na vs v
    ·exact(hm.adv a hma).t
    rw[hm.out a hma]
   obtain⟨i1,i2⟩:=ih r.2.2 {S1 with its:=r.1,s:=r.2.1} (zFi n1 hm) r3 hM3 hm.key (by show r.2.1+_+1<=_;omega) (λa ha=>by
    show(r.1.getD a Af).s+_<=_
    have:=(hsz a ha).1;have:=c2 a ha;have:=hst a ha;have:=m2 a ha;omega)
   grind
theorem zQr(hv:Vok n na vs)(M:Nat):∀(m v:Nat)(S:Js),m+v=n->AtV na vs v S.its->S.row.length=n->Szs na M S.its->S.s+cE na M m+1<=big->(∀a,a<na->(S.its.getD a Af).s+cE na M m<=big)->(extJ (ats na vs) m v S).s<=S.s+cE na M m/\∀a,a<na->((extJ (ats na vs) m v S).its.getD a Af).s<=(S.its.getD a Af).s+cE na M m:=by
 intro m;induction m with
 |zero=>intro v S hmv ha hr hM hs hst;exact⟨A0 _,λa _=>by show(S.its.getD a Af).s<=_;omega⟩
 | succ m ih=>
  intro v S hmv ha hr hM hs hst;have hvn:v<n:=by omega
  have h0:=hv.pos hvn;have hi0:=zAy h0;obtain⟨hi1,hi2⟩:=(zV na vs).1 hi0;obtain⟨o1,o2⟩:=op_inv hv ha;have o3:=op_same (vs:=vs) v ha.len;rw[cE]at hs⊢;have hst:∀a,a<na->(S.its.getD a Af).s+(cM na M+M*(cE na M m+cM na M))<=big:=hst;unfold extJ;simp only;generalize zCd (ats na vs v) S.its=its1 at*;have hM1:Szs na M its1:=hM.of λa _=>(o3 a).2.1;have hm:=zDv (ats na vs v) (zKq na vs v) h0 its1 S.s (λa h=>⟨by rw[o1.len];exact((zV na vs).1 h).1,(o1.inn a ((zV na vs).1 h).1 ((zV na vs).1 h).2).lv⟩) (λa h _=>o2 a h);obtain⟨m1,m2⟩:=zK2 hv hvn o1 hM1 (s:=S.s) (by omega) (λa ha=>by rw[(o3 a).1];have:=hst a ha;omega) (λa h _=>o2 a h);have hfe:(its1.getD ((ats na vs v).getD 0 0) Af).e<=M:=by
   have:=((o1.inn _ hi1 hi2).lv.len (o2 _ hi0)).1
   have:=hM1 _ hi1 ((its1.getD ((ats na vs v).getD 0 0) Af).l-1)
   omega
  generalize metJ (ats na vs v) its1 S.s=r at*;have hM3:Szs na M r.1:=hM1.of λa ha=>by
   by_cases hma:a∈ats na vs v
   ·exact(hm.adv a hma).t
   rw[hm.out a hma]
  have hmul:=Br (cE na M m+cM na M) hfe;have hL:=lp_cost (m:=m) hv hvn (extJ (ats na vs) m (v+1)) (λS h1 h2=>zJd hv m (v+1) S (by omega) h1 h2) (λS h1 h2 h3 h4 h5=>ih (v+1) S (by omega) h1 h2 h3 h4 h5) ((its1.getD ((ats na vs v).getD 0 0) Af).e) r.2.2 {S with its:=r.1,s:=r.2.1} (zFi o1 hm) hr hM3 hm.key (by show r.2.1+_+1<=big;omega) (λa ha=>by
   show(r.1.getD a Af).s+_<=big
   have:=m2 a ha;have:=(o3 a).1;have:=hst a ha;omega)
  ·obtain⟨l1,l2⟩:=hL;simp only at l1 l2;refine⟨by omega,λa ha=>?_⟩;have e:=up_same (vs:=vs) v (its:=(lpJ (extJ (ats na vs) m (v+1)) (ats na vs v) v ((its1.getD ((ats na vs v).getD 0 0) Af).e) r.2.2 {S with its:=r.1,s:=r.2.1}).its) (na:=na) ?_ a
   ·grind
   exact(zT6 hv hvn (extJ (ats na vs) m (v+1)) (λS h1 h2=>zJd hv m (v+1) S (by omega) h1 h2) ((its1.getD ((ats na vs v).getD 0 0) Af).e) r.2.2 {S with its:=r.1,s:=r.2.1} (zFi o1 hm) hr (λhf' d hd=>by
    have:=(hm.com d).1 λi hi=>(hm.adv i hi).has (hd i hi)
    rw[hf']at this;exact absurd this.1 (by decide)) hm.key (by
    show(r.1.getD _ Af).e-_<=_;rw[(hm.adv _ hi0).e];omega)).len
end
section
open Go.RowKit
attribute [local irreducible] seqW awp zAf zAn zAd Weak updS zAx retL Pure Acts rP setP setQ cP nP fr
set_option maxRecDepth 4096
theorem lp_ys(rec:Js->Js)(ix:List Nat)(v:Nat)(hrec:∀S,S.ys.length<=(rec S).ys.length):∀(f:Nat)(b:Bool)(S:Js),S.ys.length<=(lpJ rec ix v f b S).ys.length
 |0,b,S=>A0 _
 |f+1,Ad,S=>A0 _
 | f+1,Ab,S=>by
  have h1:=hrec {S with row:=S.row.set v (keyI (S.its.getD (ix.getD 0 0) Af))};rw[lpJ];split
  ·refine AF h1 (AF (Nat.le_of_eq ?_) (lp_ys rec ix v hrec f _ _));rfl
  exact h1
theorem ext_ys(ats:Nat->List Nat):∀(m v:Nat)(S:Js),S.ys.length<=(extJ ats m v S).ys.length
 |0,v,S=>by
  show S.ys.length<=(S.ys++[S.row]).length;simp
 |m+1,v,S=>lp_ys (extJ ats m (v+1)) (ats v) v (ext_ys ats m (v+1)) _ _ {S with its:=(metJ (ats v) (zCd (ats v) S.its) S.s).1,s:=(metJ (ats v) (zCd (ats v) S.its) S.s).2.1}
def YOk(L:Lay)(K:Nat):Prop:=∀S:Js,S.its.length=L.na->S.row.length=L.n->S.ys.length<K->Acts AB 135 [.osl L.rb 0 L.n (L.n*3) Ab, .own L.cb 0] (lay L S) L.ch (bD Ab) (lay L {S with ys:=S.ys++[S.row]})
theorem zYr{L:Lay}{S:Js}:∀k,k<(lay L S).length->(Tj L.N L.ch).keep k=Ab\/k∈L.ch:=λk hk=>by
 rw[zAq]at hk;by_cases h:k∈L.ch
 ·exact .inr h
 refine .inl ?_;show(decide (k<L.N)&&!L.ch.contains k)=Ab;rw[decide_eq_true hk];simpa using h
theorem Tj_ch{N:Nat}{ch:List Nat}:∀k∈ch,(Tj N ch).keep k=false:=λk hk=>by
 show(decide (k<N)&&!ch.contains k)=Ad;simp[hk]
theorem LOk.cht{L:Lay}(h:LOk L):L.jb∉L.ch/\L.rb∉L.ch/\L.tb∉L.ch/\(∀v,v<L.n->L.ab v∉L.ch)/\∀i,i<L.na->L.ib i∉L.ch:=
 ⟨λk=>(h.ch _ k).1 rfl,λk=>(h.ch _ k).2.1 rfl,λk=>(h.ch _ k).2.2.1 rfl,λv hv k=>(h.ch _ k).2.2.2.1 v hv rfl,λi hi k=>(h.ch _ k).2.2.2.2 i hi rfl⟩
theorem extend0_a(L:Lay)(hL:LOk L)(K:Nat)(hY:YOk L K)(S:Js)(hn:S.its.length=L.na)(hr:S.row.length=L.n)(h32:L.n<=1000000)(hs:S.s+1<=big)(hK:S.ys.length<K):Acts AB 146 [.own L.jb 0,iD (L.n:Nat)] (lay L S) L.ch (bD Ab) (lay L {S with s:=S.s+1,ys:=S.ys++[S.row]}):=by
 have hy:=hY {S with s:=S.s+1} hn hr hK;have hs2:S.s+1<=100000000000000000:=hs;obtain⟨c1,c2,c3,c4,c5⟩:=hL.cht;have hj2:(lay L {S with s:=S.s+1})[L.jb]?=Aq (jB L (S.s+1)):=zNf hL;refine zAj (Tj_ok L.N L.ch) mixed Tryz.func146 rfl zYr ?_;focus
  refine vA ?_;refine zAb [] [(4,bD Ad)] ?_;refine zA<|vA ?_;refine zA3 4 [(12,iD ↑(Ar L)),(13,Ae (Az L) 0),(14,Ae (Az L) 0),(15,Ae (Az L) 0)] ?_;rotate_left
 refine zAe (Al [Ag (AQ L) 0 (Ar L) (Ar L*3) Ab,Ag (A3 L) 0 (Ar L) (Ar L) Ab,iD ↑(AV S),AG (Fn.func 135) [] [Ae (A1 L) 0]] 218 0 Ad Ad Ao) (Az L) (AJ 1 4) (Ag (AQ L) 0 (Ar L) (Ar L*3) Ab) (zNf (S:=S) hL) (by simp) ?_;focus
  refine zAb [12,13,14,15,16,17] [(18,bD ((↑(Ar L):Int)==(↑(Ar L):Int)))] ?_;refine vEt ((↑(Ar L):Int)) ((↑(Ar L):Int))<|vA ?_;refine zA3 3 [(19,Ae (Az L) 0),(20,Ae (Az L) 0),(21,Ae (Az L) 2)] ?_;rotate_left
 refine zAe (Al [Ag (AQ L) 0 (Ar L) (Ar L*3) Ab,Ag (A3 L) 0 (Ar L) (Ar L) Ab,iD ↑(AV S),AG (Fn.func 135) [] [Ae (A1 L) 0]] 218 0 Ad Ad Ao) (Az L) (AJ 1 2) (iD ↑(AV S)) (zNf (S:=S) hL) (by simp) ?_;focus
  refine zR 3 [] [] (i6 (↑(AV S)+1)/\True) [(23,iD ↑(AV S+1)),(24,Ae (Az L) 0),(25,Ae (Az L) 2)] ⟨(by omega),trivial⟩ ?_;rotate_left
 refine zB3 (Al [Ag (AQ L) 0 (Ar L) (Ar L*3) Ab,Ag (A3 L) 0 (Ar L) (Ar L) Ab,iD ↑(AV S),AG (Fn.func 135) [] [Ae (A1 L) 0]] 218 0 Ad Ad Ao) (Az L) (Ad=Ad/\Ab=Ab/\1=1/\3<=4) (Al [Ag (AQ L) 0 (Ar L) (Ar L*3) Ab,Ag (A3 L) 0 (Ar L) (Ar L) Ab,iD ↑(AV S+1),AG (Fn.func 135) [] [Ae (A1 L) 0]] 218 0 Ad Ad Ao) (zNf (S:=S) hL) ⟨(by kernel_rfl),⟨(by kernel_rfl),(by omega)⟩⟩ ?_;rw[zMf hL];focus
  refine zAb [18,19,20,21,22,23,24,25] [] ?_;refine zA<|vd [0,1,2,4,5,6,3,7,8,9] ?_;refine zR 6 [] [] (True/\True) [(26,Ae (Az L) 0),(27,Ae (Az L) 0),(28,Ae (Az L) 3),(30,Ae (Az L) 0),(31,Ae (Az L) 0),(32,Ae (Az L) 0)] (by decide) ?_;rotate_left
 refine zAe (Al [Ag (AQ L) 0 (Ar L) (Ar L*3) Ab,Ag (A3 L) 0 (Ar L) (Ar L) Ab,iD ↑(AV S+1),AG (Fn.func 135) [] [Ae (A1 L) 0]] 218 0 Ad Ad Ao) (Az L) (AJ 1 1) (AG (Fn.func 135) [] [Ae (A1 L) 0]) hj2 (by simp) ?_;refine zAe (Al [Ag (AQ L) 0 (Ar L) (Ar L*3) Ab,Ag (A3 L) 0 (Ar L) (Ar L) Ab,iD ↑(AV S+1),AG (Fn.func 135) [] [Ae (A1 L) 0]] 218 0 Ad Ad Ao) (Az L) (AJ 1 4) (Ag (AQ L) 0 (Ar L) (Ar L*3) Ab) hj2 (by simp) ?_;focus
  refine zJn [] [] [Ag (AQ L) 0 (Ar L) (Ar L*3) Ab,Ae (A1 L) 0] [Ag (AQ L) 0 (Ar L) (Ar L*3) Ab,Ae (A1 L) 0] (¬Az L∈A4 L/\¬Az L∈A4 L/\¬Az L∈A4 L/\¬Az L∈A4 L/\¬A1 L∈A4 L/\¬Az L∈A4 L/\¬Az L∈A4 L/\¬Az L∈A4 L/\¬AQ L∈A4 L/\True) (by kernel_rfl) trivial (AZ _) (by exact hy) (by kernel_rfl) ?_ ?_ ?_;rotate_left;rotate_left;refine zAb [26,27,28,29,30,31,32,33,34] [(4,bD Ab)] ?_;refine zE<|zG ?_;refine zM (True) [Am<|BR Ab] (.inr rfl) ?_;rotate_left
 ·exact Tj_ch
 ·exact⟨c1,c1,c1,c1,hL.cb.2,c1,c1,c1,c2,trivial⟩
 exact⟨by kernel_rfl,rfl⟩
theorem hd_tb(L:Lay)(v:Nat)(h:v<L.n):(((As L.n).map λv=>Ag (L.ab v) 0 (L.ix v).length (L.ix v).length Ab).drop v).headD .unk= .osl (L.ab v) 0 (L.ix v).length (L.ix v).length true:=by
 simp_all
theorem zY7(ix:List Nat)(its:List It)(t:Nat)(h:t<ix.length):zCd (ix.take (t+1)) its=(zCd (ix.take t) its).set (ix.getD t 0) (opI ((zCd (ix.take t) its).getD (ix.getD t 0) Af)):=by
 unfold zCd;rw[zBs ix 0 t h,Cf];rfl
theorem zYv(ix:List Nat)(its:List It)(t:Nat)(h:t<ix.length):zGu (ix.take (t+1)) its=(zGu (ix.take t) its).set (ix.getD t 0) (upI ((zGu (ix.take t) its).getD (ix.getD t 0) Af)):=by
 unfold zGu;rw[zBs ix 0 t h,Cf];rfl
theorem zFv{ix:List Nat}(hn:ix.Nodup){t:Nat}(h:t<ix.length):ix.getD t 0∉ix.take t:=by grind [Ch,Cq,A2,List.getElem_inj]
theorem opAll_at(ix:List Nat)(hn:ix.Nodup)(its:List It)(hl:∀i∈ix,i<its.length)(t:Nat)(h:t<ix.length):(zCd (ix.take t) its).getD (ix.getD t 0) Af=its.getD (ix.getD t 0) default:=by
 unfold zCd;rw[zHh opI (ix.take t) its (List.Sublist.nodup (List.take_sublist _ _) hn) (λi hi=>hl i (Ce hi)),if_neg (zFv hn h)]
theorem upAll_at(ix:List Nat)(hn:ix.Nodup)(its:List It)(hl:∀i∈ix,i<its.length)(t:Nat)(h:t<ix.length):(zGu (ix.take t) its).getD (ix.getD t 0) Af=its.getD (ix.getD t 0) default:=by
 unfold zGu;rw[zHh upI (ix.take t) its (List.Sublist.nodup (List.take_sublist _ _) hn) (λi hi=>hl i (Ce hi)),if_neg (zFv hn h)]
def Bds(na:Nat)(its:List It):Prop:=∀a,a<na->BdI (its.getD a Af)
theorem extend_a(L:Lay)(hL:LOk L)(hv:Vok L.n L.na L.vs)(M K:Nat)(hY:YOk L K)(h32:L.n<=1000000)(hna:L.na<=1000000):∀(m v:Nat)(S:Js),m+v=L.n->AtV L.na L.vs v S.its->S.row.length=L.n->Bds L.na S.its->Szs L.na M S.its->S.s+cE L.na M m+1<=big->(∀a,a<L.na->(S.its.getD a Af).s+cE L.na M m<=big)->(extJ L.ix m v S).ys.length<=K->
  Acts AB 146 [.own L.jb 0,iD (v:Nat)] (lay L S) L.ch (bD Ab) (lay L (extJ L.ix m v S)):=by
 intro m;induction m with
 |zero=>
  intro v S hmv ha hr hb hM hs hst hK;obtain rfl:v=L.n:=by omega
  refine extend0_a L hL K hY S ha.len hr h32 (by show S.s+1<=_;have:cE L.na M 0=1:=rfl;omega) ?_;grind [extJ]
 | succ m ih=>
  intro v S hmv ha hr hb hM hs hst hK;have hvn:v<L.n:=by omega
  have h0:0<(L.ix v).length:=hv.pos hvn;have hi0:(L.ix v).getD 0 0∈L.ix v:=zAy h0;obtain⟨hi1,hi2⟩:(L.ix v).getD 0 0<L.na/\v∈L.vs ((L.ix v).getD 0 0):=(zV L.na L.vs).1 hi0;have hnd:(L.ix v).Nodup:=zKq L.na L.vs v;have hix:∀i∈L.ix v,i<L.na:=λi hi=>zSg hi;have hln:(L.ix v).length<=L.na:=ats_len v;have hls:∀i∈L.ix v,i<S.its.length:=λi hi=>by rw[ha.len];exact hix i hi
  obtain⟨o1,o2⟩:=op_inv hv ha;have o3:=op_same (vs:=L.vs) v ha.len;have hlj:=zNf (S:=S) hL;have hlt:=lay_t (S:=S) hL;have htb:=hd_tb L v hvn;refine zAj (Tj_ok L.N L.ch) mixed Tryz.func146 rfl zYr ?_;focus
   refine vA ?_;refine zAb [] [(4,bD Ad)] ?_;refine zA<|vA ?_;refine zA3 4 [(12,iD v),(13,Ae (Az L) 0),(14,Ae (Az L) 0),(15,Ae (Az L) 0)] ?_;rotate_left
  refine zAe (Al [Ag (AQ L) 0 (Ar L) (Ar L*3) Ab,Ag (A3 L) 0 (Ar L) (Ar L) Ab,iD ↑(AV S),AG (Fn.func 135) [] [Ae (A1 L) 0]] 218 0 Ad Ad Ao) (Az L) (AJ 1 4) (Ag (AQ L) 0 (Ar L) (Ar L*3) Ab) hlj (by simp) ?_;focus
   refine zAb [12,13,14,15,16,17] [(18,bD ((v:Int)==↑(Ar L)))] ?_;refine vEf ((v:Int)) ((↑(Ar L):Int))<|vK<|vA ?_;refine zA3 3 [(35,Ae (Az L) 0),(36,Ae (Az L) 0),(37,Ae (Az L) 1)] ?_;rotate_left
  refine zAe (Al [Ag (AQ L) 0 (Ar L) (Ar L*3) Ab,Ag (A3 L) 0 (Ar L) (Ar L) Ab,iD ↑(AV S),AG (Fn.func 135) [] [Ae (A1 L) 0]] 218 0 Ad Ad Ao) (Az L) (AJ 1 3) (Ag (A3 L) 0 (Ar L) (Ar L) Ab) hlj (by simp) ?_;focus
   refine zR 2 [] [] ((0:Int)<=(v:Int)/\(v:Int)<↑(Ar L)) [(39,iD v),(40,Ae (A3 L) (0+Au (v:Int)*1))] (by omega) ?_;refine zAl 40 (Ae (A3 L) (0+Au (v:Int)*1)) (Ae (A3 L) v) (by simp(disch:=omega) only[AT,AR,Bh]) ?_;rotate_left
  refine zAe (Al (Ah (λ(v:Nat)=>Ag (AC L v) 0 (Aa<|Ai L v) (Aa<|Ai L v) Ab)<|As<|Ar L) 219 1 Ab Ad AW) (A3 L) (AJ 1<|Aa<|An v<|Ah (λ(v:Nat)=>Ag (AC L v) 0 (Aa<|Ai L v) (Aa<|Ai L v) Ab)<|As<|Ar L) (AO (An v<|Ah (λ(v:Nat)=>Ag (AC L v) 0 (Aa<|Ai L v) (Aa<|Ai L v) Ab)<|As<|Ar L) Uk) hlt (by(simp;omega)) ?_;focus
   refine zA3 1 [(5,AO (An v<|Ah (λ(v:Nat)=>Ag (AC L v) 0 (Aa<|Ai L v) (Aa<|Ai L v) Ab)<|As<|Ar L) Uk)] ?_;refine zAl 5 (AO (An v<|Ah (λ(v:Nat)=>Ag (AC L v) 0 (Aa<|Ai L v) (Aa<|Ai L v) Ab)<|As<|Ar L) Uk) (Ag (AC L v) 0 (Aa<|Ai L v) (Aa<|Ai L v) Ab) (by simp(disch:=omega) only[htb]) ?_;refine zAb [18,35,36,37,38,39,40,41] [] ?_;refine zA<|vA ?_;refine zAb [] [(42,Ag (AC L v) 0 (Aa<|Ai L v) (Aa<|Ai L v) Ab),(43,iD (Aa (Ai L v):Int)),(44,iD 0)] ?_;refine zH ?_;rotate_left
  refine zK (λ(t:Nat)=>fr 93 [(0,Ae (Az L) 0),(1,iD v),(4,bD Ad),(5,Ag (AC L v) 0 (Aa<|Ai L v) (Aa<|Ai L v) Ab),(42,Ag (AC L v) 0 (Aa<|Ai L v) (Aa<|Ai L v) Ab),(43,iD (Aa (Ai L v):Int)),(44,iD t)]) (λ(t:Nat)=>lay L {S with its:=zCd ((L.ix v).take t) S.its}) (λ(t:Nat)=>(L.ix v).length-t) (λ(t:Nat)=>t<=(L.ix v).length) 0 ?_ ?_ ?_
  ·omega
  ·refine zAs [(0,1),(1,1),(4,1),(5,1),(42,1),(43,1),(44,1)] (Ae (Az L) 0=Ae (Az L) 0/\iD (v:Int)=iD (v:Int)/\bD Ad=bD Ad/\Ag (AC L v) 0 (Aa<|Ai L v) (Aa<|Ai L v) Ab=Ag (AC L v) 0 (Aa<|Ai L v) (Aa<|Ai L v) Ab/\Ag (AC L v) 0 (Aa<|Ai L v) (Aa<|Ai L v) Ab=Ag (AC L v) 0 (Aa<|Ai L v) (Aa<|Ai L v) Ab/\iD (Aa (Ai L v):Int)=iD (Aa (Ai L v):Int)/\iD 0=iD (↑(0:Nat):Int)) ⟨rfl,rfl,rfl,rfl,rfl,rfl,(by kernel_rfl)⟩
  intro t ht;rcases AH t (L.ix v).length with ht2|ht2
  ·have hhd:=hd_ix L (L.ix v) t ht2;have hmm:=zAy ht2;have hat:=opAll_at (L.ix v) hnd S.its hls t ht2;have hsu:=zY7 (L.ix v) S.its t ht2;obtain⟨q1,q2⟩:=(zV L.na L.vs).1 hmm;have hop:=open_g (k:=L.ib ((L.ix v).getD t 0)) (it:=(zCd ((L.ix v).take t) S.its).getD ((L.ix v).getD t 0) Af) (zQi (S:={S with its:=zCd ((L.ix v).take t) S.its}) hL q1) (by rw[hat];exact ha.one _ q1) (by rw[hat];exact hb _ q1) (zKo hv q1 q2);rw[zH6 hL q1 (by rw[show(zCd ((L.ix v).take t) S.its).length=S.its.length from zKa opI _ _,ha.len];exact q1),<-hsu]at hop;focus
    refine vA ?_;refine zAb [] [(45,bD<|decide ((t:Int)<(Aa (Ai L v):Int)))] ?_;refine zA<|vT ((t:Int)<(Aa (Ai L v):Int))<|vKB<|vA ?_;refine zR 1 [] [] ((0:Int)<=(t:Int)/\(t:Int)<(Aa (Ai L v):Int)) [(46,Ae (AC L v) (0+Au (t:Int)*1))] (by omega) ?_;refine zAl 46 (Ae (AC L v) (0+Au (t:Int)*1)) (Ae (AC L v) t) (by simp(disch:=omega) only[AT,AR,Bh]) ?_;rotate_left
   refine zAe (Al (Ah (λ(i:Nat)=>Ae (AM L i) 0)<|Ai L v) 225 1 Ab Ad AW) (AC L v) (AJ 1<|Aa<|An t<|Ah (λ(i:Nat)=>Ae (AM L i) 0)<|Ai L v) (AO (An t<|Ah (λ(i:Nat)=>Ae (AM L i) 0)<|Ai L v) Uk) (zT8 hL hvn) (by(simp;omega)) ?_;focus
    refine zA3 1 [(7,AO (An t<|Ah (λ(i:Nat)=>Ae (AM L i) 0)<|Ai L v) Uk)] ?_;refine zAl 7 (AO (An t<|Ah (λ(i:Nat)=>Ae (AM L i) 0)<|Ai L v) Uk) (Ae (AM L<|AE (Ai L v) t 0) 0) (by simp(disch:=omega) only[hhd]) ?_;refine zAb [45,46,47] [] ?_;refine zB rfl ?_;refine zA3 1 [(48,Ae (AM L<|AE (Ai L v) t 0) 0)] ?_;refine zY [] [] [Ae (AM L<|AE (Ai L v) t 0) 0] [Ae (AM L<|AE (Ai L v) t 0) 0] (AZ _) (by exact hop) ?_;refine zAh ?_ (by kernel_rfl);refine zD<|vN<|zB rfl ?_;refine zR 2 [] [] (i6 (↑t+1)) [(44,iD ↑(t+1)),(50,iD ↑(t+1))] (by omega) ?_;refine zAh ?_ (by kernel_rfl);refine zC ?_;rotate_left
   refine⟨t+1,ht2,by omega,?_⟩;refine zAs [(0,1),(1,1),(4,1),(5,1),(42,1),(43,1),(44,1)] (Ae (Az L) 0=Ae (Az L) 0/\iD (v:Int)=iD (v:Int)/\bD Ad=bD Ad/\Ag (AC L v) 0 (Aa<|Ai L v) (Aa<|Ai L v) Ab=Ag (AC L v) 0 (Aa<|Ai L v) (Aa<|Ai L v) Ab/\Ag (AC L v) 0 (Aa<|Ai L v) (Aa<|Ai L v) Ab=Ag (AC L v) 0 (Aa<|Ai L v) (Aa<|Ai L v) Ab/\iD (Aa (Ai L v):Int)=iD (Aa (Ai L v):Int)/\iD (↑(t+1):Int)=iD (↑(t+1):Int)) ⟨rfl,rfl,rfl,rfl,rfl,rfl,rfl⟩
  obtain rfl:t=(L.ix v).length:=by omega
  rw[Bx];have hex:extJ L.ix (m+1) v S={lpJ (extJ L.ix m (v+1)) (L.ix v) v (((zCd (L.ix v) S.its).getD ((L.ix v).getD 0 0) Af).e) (metJ (L.ix v) (zCd (L.ix v) S.its) S.s).2.2 {S with its:=(metJ (L.ix v) (zCd (L.ix v) S.its) S.s).1,s:=(metJ (L.ix v) (zCd (L.ix v) S.its) S.s).2.1}with its:=zGu (L.ix v) (lpJ (extJ L.ix m (v+1)) (L.ix v) v (((zCd (L.ix v) S.its).getD ((L.ix v).getD 0 0) Af).e) (metJ (L.ix v) (zCd (L.ix v) S.its) S.s).2.2 {S with its:=(metJ (L.ix v) (zCd (L.ix v) S.its) S.s).1,s:=(metJ (L.ix v) (zCd (L.ix v) S.its) S.s).2.1}).its}:=rfl;rw[hex]at hK⊢;generalize hI1:zCd (L.ix v) S.its=its1 at*;rw[cE]at hs;have hst:∀a,a<L.na->(S.its.getD a Af).s+(cM L.na M+M*(cE L.na M m+cM L.na M))<=big:=hst;have hM1:Szs L.na M its1:=hM.of λa _=>(o3 a).2.1;have hb1:Bds L.na its1:=λa h=>(hb a h).of (o3 a).2.1 (o3 a).2.2;have hF:=zXe (M:=M) hln;have hFM:mtF (L.ix v).length M*(M+2)<=cM L.na M:=Br _ hF;have hFc:=mtF_cM L.na M;have hmet:=zDv (L.ix v) hnd h0 its1 S.s (λa h=>⟨by rw[o1.len];exact hix a h,(o1.inn a (hix a h) ((zV _ _).1 h).2).lv⟩) (λa h _=>o2 a h);obtain⟨mc1,mc2⟩:=zK2 hv hvn o1 hM1 (s:=S.s) (by omega) (λa ha=>by rw[(o3 a).1];have:=hst a ha;omega) (λa h _=>o2 a h);obtain⟨r0,hr0⟩:∃r0,r0=metJ (L.ix v) its1 S.s:=⟨_,rfl⟩;rw[<-hr0]at hmet mc1 mc2 hK⊢;have hme:=meet_a L hL {S with its:=its1} v M hvn o1.len h0 (by omega) (λi hi=>⟨(o1.inn i (hix i hi) ((zV _ _).1 hi).2).lv,hb1 i (hix i hi),rng_le (o1.inn i (hix i hi) ((zV _ _).1 hi).2).lv (hM1 i (hix i hi)),by show(its1.getD i Af).s+_<=big;rw[(o3 i).1];have:=hst i (hix i hi);omega⟩) (by show S.s+_+1<=big;omega) (λi hi _=>o2 i hi);have hfe:(its1.getD ((L.ix v).getD 0 0) Af).e<=M:=by
   exact AF ((o1.inn _ hi1 hi2).lv.len (o2 _ hi0)).1 (hM1 _ hi1 ((its1.getD ((L.ix v).getD 0 0) Af).l-1))
  have hmul:=Br (cE L.na M m+cM L.na M) hfe;simp only at hme;rw[<-hr0]at hme;have hfr:(r0.1.getD ((L.ix v).getD 0 0) Af).e-(r0.1.getD ((L.ix v).getD 0 0) Af).p<=(its1.getD ((L.ix v).getD 0 0) Af).e:=by
   rw[(hmet.adv _ hi0).e];exact Nat.sub_le _ _
  generalize (its1.getD ((L.ix v).getD 0 0) Af).e=f0 at*;have hrec:∀S:Js,AtV L.na L.vs (v+1) S.its->S.row.length=L.n->ExtP L.n L.na L.vs (v+1) S (extJ L.ix m (v+1) S):=λS h1 h2=>zJd hv m (v+1) S (by omega) h1 h2;have hrc:∀S:Js,AtV L.na L.vs (v+1) S.its->S.row.length=L.n->Szs L.na M S.its->S.s+cE L.na M m+1<=big->(∀a,a<L.na->(S.its.getD a Af).s+cE L.na M m<=big)->_:=λS h1 h2 h3 h4 h5=>zQr hv M m (v+1) S (by omega) h1 h2 h3 h4 h5;have hrys:=ext_ys L.ix m (v+1);obtain⟨rec,hrecE⟩:∃rec,rec=extJ L.ix m (v+1):=⟨_,rfl⟩;rw[<-hrecE]at hK hrys⊢;have ihR:∀S:Js,AtV L.na L.vs (v+1) S.its->S.row.length=L.n->Bds L.na S.its->Szs L.na M S.its->S.s+cE L.na M m+1<=big->(∀a,a<L.na->(S.its.getD a Af).s+cE L.na M m<=big)->(rec S).ys.length<=K->Acts AB 146 [.own L.jb 0,iD (v+1:Nat)] (lay L S) L.ch (bD Ab) (lay L (rec S)):=λS h1 h2 h3 h4 h5 h6 h7=>by
   rw[hrecE]at h7⊢;exact ih (v+1) S (by omega) h1 h2 h3 h4 h5 h6 h7
  have hrecs:∀S:Js,AtV L.na L.vs (v+1) S.its->S.row.length=L.n->ExtP L.n L.na L.vs (v+1) S (rec S):=by rw[hrecE];exact hrec
  have hM3:Szs L.na M r0.1:=hM1.of λa ha=>by
   by_cases hma:a∈L.ix v
   ·exact(hmet.adv a hma).t
   rw[hmet.out a hma]
  have hB3:Bds L.na r0.1:=λa ha=>by
   by_cases hma:a∈L.ix v
   ·exact(hb1 a ha).of (hmet.adv a hma).t (by rw[(hmet.adv a hma).fr])
   rw[hmet.out a hma];exact hb1 a ha
  have hLp:=zT6 hv hvn rec hrecs f0 r0.2.2 {S with its:=r0.1,s:=r0.2.1} (zFi o1 hmet) hr (λhf' d hd=>by
   have:=(hmet.com d).1 λi hi=>(hmet.adv i hi).has (hd i hi)
   rw[hf']at this;exact absurd this.1 Bool.false_ne_true) hmet.key hfr
  generalize hG:lpJ rec (L.ix v) v f0 r0.2.2 {S with its:=r0.1,s:=r0.2.1}=G at*;have hK':G.ys.length<=K:=hK;focus
   refine vA ?_;refine zAb [] [(45,bD<|decide ((Aa (Ai L v):Int)<(Aa (Ai L v):Int)))] ?_;refine zA<|vF ((Aa (Ai L v):Int)<(Aa (Ai L v):Int))<|vZ2<|vA ?_;refine zAb [42,43,44,45] [(8,bD Ab)] ?_;refine zA<|vA ?_;refine zA3 2 [(51,Ae (Az L) 0),(52,Ag (AC L v) 0 (Aa<|Ai L v) (Aa<|Ai L v) Ab)] ?_;refine zY [] [] [Ae (Az L) 0,Ag (AC L v) 0 (Aa<|Ai L v) (Aa<|Ai L v) Ab] [Ae (Az L) 0,Ag (AC L v) 0 (Aa<|Ai L v) (Aa<|Ai L v) Ab] (AZ _) (by exact hme) ?_;refine zAb [51,52,53] [(9,bD<|Aw<|Aw r0)] ?_;refine zH ?_;rotate_left
  refine zC0 (λ(b:Bool)(J:Js)(f:Nat)=>fr 93 [(0,Ae (Az L) 0),(1,iD v),(4,bD Ad),(5,Ag (AC L v) 0 (Aa<|Ai L v) (Aa<|Ai L v) Ab),(8,bD Ab),(9,bD b)]) (λ(b:Bool)(J:Js)(f:Nat)=>lay L J) (λ(b:Bool)(J:Js)(f:Nat)=>f) (λ(b:Bool)(J:Js)(f:Nat)=>InV L.na L.vs v J.its/\J.row.length=L.n/\Szs L.na M J.its/\Bds L.na J.its/\(b=Ab->∃c,∀i∈L.ix v,(J.its.getD i Af).p<(J.its.getD i Af).e/\keyI (J.its.getD i Af)=c)/\J.s+f*(cE L.na M m+cM L.na M)+1<=big/\(∀a,a<L.na->(J.its.getD a Af).s+f*(cE L.na M m+cM L.na M)<=big)/\(J.its.getD ((L.ix v).getD 0 0) Af).e-(J.its.getD ((L.ix v).getD 0 0) Af).p<=f/\lpJ rec (L.ix v) v f b J=G) r0.2.2 {S with its:=r0.1,s:=r0.2.1} f0 ?_ ?_ ?_
  ·exact⟨zFi o1 hmet,hr,hM3,hB3,hmet.key,by show r0.2.1+_+1<=big;omega,λa ha=>by
    show(r0.1.getD a Af).s+_<=big
    have:=mc2 a ha;have:=(o3 a).1;have:=hst a ha;omega,hfr,hG⟩
  ·refine zAs [(0,1),(1,1),(4,1),(5,1),(8,1),(9,1)] (Ae (Az L) 0=Ae (Az L) 0/\iD (v:Int)=iD (v:Int)/\bD Ad=bD Ad/\Ag (AC L v) 0 (Aa<|Ai L v) (Aa<|Ai L v) Ab=Ag (AC L v) 0 (Aa<|Ai L v) (Aa<|Ai L v) Ab/\bD Ab=bD Ab/\bD (Aw<|Aw r0)=bD (Aw<|Aw r0)) ⟨rfl,rfl,rfl,rfl,rfl,rfl⟩
  rintro b J f ⟨i1,i2,i3,i4,i5,i6,i7,i8,i9⟩;cases b with
  | true=>
   obtain⟨c,hc⟩:=i5 rfl;have hc0:=hc _ hi0;obtain⟨f,rfl⟩:∃f',f=f'+1:=⟨f-1,by have:=hc0.1;omega⟩;rw[BQ]at i6;have i7:∀a,a<L.na->(J.its.getD a Af).s+(f*(cE L.na M m+cM L.na M)+(cE L.na M m+cM L.na M))<=big:=λa ha=>by have:=i7 a ha;rw[BQ]at this;exact this
   have hlv0:=(i1.inn _ hi1 hi2).lv;have hkey:=key_g (zQi (S:=J) hL hi1) hlv0 (i4 _ hi1) hc0.1;have hhd:=hd_ix L (L.ix v) 0 h0;rw[A9]at hhd;have hat2:AtV L.na L.vs (v+1) J.its:=lp_atv hv i1 hc;have hrl:(J.row.set v (keyI (J.its.getD ((L.ix v).getD 0 0) Af))).length=L.n:=by simpa using i2
   have hset:=zPd J.row v (keyI (J.its.getD ((L.ix v).getD 0 0) Af)) (by omega);have hcl:=zA0 J.row;obtain⟨S1,hS1⟩:∃S1,S1=rec {J with row:=J.row.set v (keyI (J.its.getD ((L.ix v).getD 0 0) Af))}:=⟨_,rfl⟩;have hE:=hrecs {J with row:=J.row.set v (keyI (J.its.getD ((L.ix v).getD 0 0) Af))} hat2 hrl;have hC:=hrc {J with row:=J.row.set v (keyI (J.its.getD ((L.ix v).getD 0 0) Af))} hat2 hrl i3 (by show J.s+_+1<=big;omega) (λa ha=>by show(J.its.getD a Af).s+_<=big;have:=i7 a ha;omega);rw[<-hrecE,<-hS1]at hC;rw[<-hS1]at hE;obtain⟨r1,r2,r3,r4,r5⟩:=hE;obtain⟨k1,k2⟩:=hC;simp only at r2 k1 k2;have hl1:(L.ix v).getD 0 0<S1.its.length:=by rw[r1];exact hi1
   have hstep:=zQh rec (L.ix v) v f J S1 _ hS1 rfl hl1;obtain⟨n1,n2⟩:=lp_nx hv hvn i1 (λi h=>(hc i h).1) r1 r2;have hsz:∀a,a<L.na->((S1.its.set ((L.ix v).getD 0 0) (nxI (S1.its.getD ((L.ix v).getD 0 0) Af))).getD a Af).s=(S1.its.getD a Af).s/\((S1.its.set ((L.ix v).getD 0 0) (nxI (S1.its.getD ((L.ix v).getD 0 0) Af))).getD a Af).t=(J.its.getD a Af).t/\((S1.its.set ((L.ix v).getD 0 0) (nxI (S1.its.getD ((L.ix v).getD 0 0) Af))).getD a Af).fr.length=(J.its.getD a Af).fr.length:=λa ha=>by
    by_cases e:a=(L.ix v).getD 0 0
    ·subst e;rw[zZ hl1];exact⟨rfl,(r2 _ ha).t,(r2 _ ha).fl⟩
    rw[zBh e];exact⟨rfl,(r2 _ ha).t,(r2 _ ha).fl⟩
   have hb1':BdI (S1.its.getD ((L.ix v).getD 0 0) Af):=(i4 _ hi1).of (r2 _ hi1).t (r2 _ hi1).fl;have hnext:=next_g (zQi (S:=S1) hL hi1) ((r2 _ hi1).lv hlv0) hb1' (by rw[(r2 _ hi1).p,(r2 _ hi1).e];exact hc0.1);rw[zH6 hL hi1 hl1]at hnext;have hon2:onI (nxI (S1.its.getD ((L.ix v).getD 0 0) Af))=onI ((S1.its.set ((L.ix v).getD 0 0) (nxI (S1.its.getD ((L.ix v).getD 0 0) Af))).getD ((L.ix v).getD 0 0) Af):=by rw[zZ hl1]
   rw[hon2]at hnext;have hpe2:((S1.its.set ((L.ix v).getD 0 0) (nxI (S1.its.getD ((L.ix v).getD 0 0) Af))).getD ((L.ix v).getD 0 0) Af).e-((S1.its.set ((L.ix v).getD 0 0) (nxI (S1.its.getD ((L.ix v).getD 0 0) Af))).getD ((L.ix v).getD 0 0) Af).p<=f:=by
    rw[zZ hl1];show(S1.its.getD _ Af).e-((S1.its.getD _ Af).p+1)<=f;rw[(r2 _ hi1).p,(r2 _ hi1).e]
    have:=hc0.1
    omega
   generalize S1.its.set ((L.ix v).getD 0 0) (nxI (S1.its.getD ((L.ix v).getD 0 0) Af))=its2 at*;have hM2:=i3.of λa ha=>(hsz a ha).2.1;have hB2:Bds L.na its2:=λa ha=>(i4 a ha).of (hsz a ha).2.1 (hsz a ha).2.2;have hmet2:=zDv (L.ix v) hnd h0 its2 S1.s (λa h=>⟨by rw[n1.len];exact hix a h,(n1.inn a (hix a h) ((zV _ _).1 h).2).lv⟩) n2;obtain⟨mm1,mm2⟩:=zK2 hv hvn n1 hM2 (s:=S1.s) (by omega) (λa ha=>by have:=(hsz a ha).1;have:=k2 a ha;have:=i7 a ha;omega) n2;have hme2:=meet_a L hL {S1 with its:=its2} v M hvn n1.len h0 (by omega) (λi hi=>⟨(n1.inn i (hix i hi) ((zV _ _).1 hi).2).lv,hB2 i (hix i hi),rng_le (n1.inn i (hix i hi) ((zV _ _).1 hi).2).lv (hM2 i (hix i hi)),by show(its2.getD i Af).s+_<=big;have:=(hsz i (hix i hi)).1;have:=k2 i (hix i hi);have:=i7 i (hix i hi);omega⟩) (by show S1.s+_+1<=big;omega) n2;simp only at hme2;have hno2:=metJ_no (L.ix v) its2 S1.s;have hys:=lp_ys rec (L.ix v) v hrys f (metJ (L.ix v) its2 S1.s).2.2 {S1 with its:=(metJ (L.ix v) its2 S1.s).1,s:=(metJ (L.ix v) its2 S1.s).2.1};rw[i9]at hstep;rw[<-hstep]at hys;have hext:=ihR {J with row:=J.row.set v (keyI (J.its.getD ((L.ix v).getD 0 0) Af))} hat2 hrl i4 i3 (by show J.s+_+1<=big;omega) (λa ha=>by show(J.its.getD a Af).s+_<=big;have:=i7 a ha;omega) (by rw[<-hS1];exact AF hys hK');rw[<-hS1]at hext;have hfr2:((metJ (L.ix v) its2 S1.s).1.getD ((L.ix v).getD 0 0) Af).e-((metJ (L.ix v) its2 S1.s).1.getD ((L.ix v).getD 0 0) Af).p<=f:=by
    have a1:=(hmet2.adv _ hi0).e;have a2:=(hmet2.adv _ hi0).p;omega
   generalize metJ (L.ix v) its2 S1.s=r at*;generalize keyI (J.its.getD ((L.ix v).getD 0 0) Af)=key at*;have hinv:InV L.na L.vs v r.1/\S1.row.length=L.n/\Szs L.na M r.1/\Bds L.na r.1/\(r.2.2=Ab->∃c,∀i∈L.ix v,(r.1.getD i Af).p<(r.1.getD i Af).e/\keyI (r.1.getD i Af)=c)/\r.2.1+f*(cE L.na M m+cM L.na M)+1<=big/\(∀a,a<L.na->(r.1.getD a Af).s+f*(cE L.na M m+cM L.na M)<=big)/\(r.1.getD ((L.ix v).getD 0 0) Af).e-(r.1.getD ((L.ix v).getD 0 0) Af).p<=f/\lpJ rec (L.ix v) v f r.2.2 {S1 with its:=r.1,s:=r.2.1}=G:=by
    refine⟨zFi n1 hmet2,r3,?_,?_,hmet2.key,by omega,λa ha=>by have:=(hsz a ha).1;have:=k2 a ha;have:=i7 a ha;have:=mm2 a ha;omega,hfr2,hstep.symm⟩
    ·exact hM2.of λa ha=>by
      by_cases hma:a∈L.ix v
      ·exact(hmet2.adv a hma).t
      rw[hmet2.out a hma]
    intro a ha;by_cases hma:a∈L.ix v
    ·exact(hB2 a ha).of (hmet2.adv a hma).t (by rw[(hmet2.adv a hma).fr])
    rw[hmet2.out a hma];exact hB2 a ha
   focus
    refine zA<|vA ?_;refine zAb [] [(54,bD Ab)] ?_;refine vt<|vKB<|zA ?_;refine zA6 [0,1,2,4,5,6,3,7] [(8,[(3,100000)],[9,10,11,12,13])] rfl ?_;refine zR 6 [] [] (True/\(0:Int)<=(0:Int)/\(0:Int)<(Aa (Ai L v):Int)) [(65,Ae (Az L) 0),(66,Ae (Az L) 0),(67,Ae (Az L) 0),(69,iD v),(70,Ag (AC L v) 0 (Aa<|Ai L v) (Aa<|Ai L v) Ab),(71,Ae (AC L v) 0)] ⟨trivial,(by omega)⟩ ?_;rotate_left
   refine zAe (Al [Ag (AQ L) 0 (Ar L) (Ar L*3) Ab,Ag (A3 L) 0 (Ar L) (Ar L) Ab,iD ↑(AV J),AG (Fn.func 135) [] [Ae (A1 L) 0]] 218 0 Ad Ad Ao) (Az L) (AJ 1 4) (Ag (AQ L) 0 (Ar L) (Ar L*3) Ab) (zNf (S:=J) hL) (by simp) ?_;refine zAe (Al (Ah (λ(i:Nat)=>Ae (AM L i) 0)<|Ai L v) 225 1 Ab Ad AW) (AC L v) (AJ 1<|Aa<|An 0<|Ah (λ(i:Nat)=>Ae (AM L i) 0)<|Ai L v) (AO (An 0<|Ah (λ(i:Nat)=>Ae (AM L i) 0)<|Ai L v) Uk) (zT8 (S:=J) hL hvn) (by(simp;omega)) ?_;focus
    refine zAh ?_ (by kernel_rfl);rotate_left
   refine zBz rfl rfl ?_ (hf:=zDn (λx hx=>by rw[zAq];simp at hx;subst hx;exact hL.sm));focus
    refine zY [] [] [AO (An 0<|Ah (λ(i:Nat)=>Ae (AM L i) 0)<|Ai L v) Uk] [Ae (AM L<|AE (Ai L v) 0 0) 0] (BH (by simp(disch:=omega) only[A9,hhd])) (by exact hkey) ?_;refine zAh ?_ (by kernel_rfl);rotate_left
   refine zDk (A0 _) (zDd 3 100000 (jB L J.s) L.jb (0<4) (.osl L.rb 0 L.n (L.n*3) Ab) (by kernel_rfl) (by rw[zD6 (by rw[zAq];exact hL.sm)];exact zNf hL) (by decide) (by kernel_rfl)) ?_;focus
    refine zR 4 [] [] (0<2/\1<2/\(0:Int)<=(v:Int)/\(v:Int)<↑(Ar L)) [(64,D.tup [AD [iD<|Va.kind key,iD<|Va.int key,Am<|Value.string<|bs<|Va.str key],bD Ab]),(74,AD [iD<|Va.kind key,iD<|Va.int key,Am<|Value.string<|bs<|Va.str key]),(75,bD Ab),(76,Ae (AQ L) (0+Au (v:Int)*3))] (by omega) ?_;refine zAl 76 (Ae (AQ L) (0+Au (v:Int)*3)) (Ae (AQ L) (v*3)) (by simp(disch:=omega) only[AT,Bh]) ?_;rotate_left
   refine st_puta (Al (zJ<|Js.row J) 64 3 Ab Ad Ao) (AQ L) (Ad=Ad/\Ab=Ab/\3=3/\v*3+3<=Aa (zJ<|Js.row J)) (Al (setAt (zJ<|Js.row J) (v*3) [iD<|Va.kind key,iD<|Va.int key,Am<|Value.string<|bs<|Va.str key]) 64 3 Ab Ad Ao) (by kernel_rfl) (lay_r (S:=J) hL) ⟨(by kernel_rfl),⟨(by kernel_rfl),(by omega)⟩⟩ ?_;rw[hset,lay_set_r hL];focus
    refine zAh ?_ (by kernel_rfl);refine zBu<|zC ?_;rotate_left
   refine zL9 (9::54::A6 64 13) ([Ae L.jb 0,iD (v:Nat),Uk,Uk,bD Ad,.osl (L.ab v) 0 (L.ix v).length (L.ix v).length Ab,Uk,Uk,bD Ab]++AA 84 Uk) (by kernel_rfl) ?_;focus
    refine vA ?_;refine zR 3 [] [] (YtjcofbkhoeockaaGreatDoor.i6 (↑v+1)) [(77,Ae (Az L) 0),(78,iD v),(79,iD ↑(v+1))] (by omega) ?_;refine zJn [] [] [Ae (Az L) 0,iD ↑(v+1)] [Ae (Az L) 0,iD ↑(v+1)] (¬Az L∈A4 L/\¬AC L v∈A4 L/\¬Az L∈A4 L/\True) (by kernel_rfl) trivial (AZ _) (by exact hext) (by kernel_rfl) ?_ ?_ ?_;rotate_left;rotate_left;refine zAb [2,3,6,7,10,12,13,14,15,16,17,18,19,20,21,22,23,24,25,26,27,28,29,30,31,32,33,34,35,36,37,38,39,40,41,42,43,44,45,46,47,48,49,50,51,52,53,54,64,65,66,67,68,69,70,71,72,73,74,75,76,77,78,79,80,90] [(8,bD Ab)] ?_;refine vA ?_;refine zAb [81] [(82,bD Ad)] ?_;refine vf<|zQ<|zD<|vN<|zB rfl ?_;refine zR 2 [] [] ((0:Int)<=(0:Int)/\(0:Int)<(Aa (Ai L v):Int)) [(55,Ag (AC L v) 0 (Aa<|Ai L v) (Aa<|Ai L v) Ab),(56,Ae (AC L v) 0)] (by omega) ?_;rotate_left
   ·exact Tj_ch
   ·obtain⟨c1,c2,c3,c4,c5⟩:=hL.cht;exact⟨c1,c4 v hvn,c1,trivial⟩
   cases hb2:onI (its2.getD ((L.ix v).getD 0 0) Af)with
   | true=>
    rw[hb2]at hnext;refine zAe (Al (Ah (λ(i:Nat)=>Ae (AM L i) 0)<|Ai L v) 225 1 Ab Ad AW) (AC L v) (AJ 1<|Aa<|An 0<|Ah (λ(i:Nat)=>Ae (AM L i) 0)<|Ai L v) (AO (An 0<|Ah (λ(i:Nat)=>Ae (AM L i) 0)<|Ai L v) Uk) (zT8 (S:=S1) hL hvn) (by(simp;omega)) ?_;focus
     refine zY [] [] [AO (An 0<|Ah (λ(i:Nat)=>Ae (AM L i) 0)<|Ai L v) Uk] [Ae (AM L<|AE (Ai L v) 0 0) 0] (BH (by simp(disch:=omega) only[A9,hhd])) (by exact hnext) ?_;refine zA3 3 [(59,bD Ab),(60,Ae (Az L) 0),(61,Ag (AC L v) 0 (Aa<|Ai L v) (Aa<|Ai L v) Ab)] ?_;refine zY [] [] [Ae (Az L) 0,Ag (AC L v) 0 (Aa<|Ai L v) (Aa<|Ai L v) Ab] [Ae (Az L) 0,Ag (AC L v) 0 (Aa<|Ai L v) (Aa<|Ai L v) Ab] (AZ _) (by exact hme2) ?_;refine zA3 2 [(9,bD<|Aw<|Aw r),(63,bD<|Aw<|Aw r)] ?_;refine zAh ?_ (by kernel_rfl);refine zC ?_;rotate_left
    refine⟨r.2.2,{S1 with its:=r.1,s:=r.2.1},f,hinv,by omega,?_⟩;refine zAs [(0,1),(1,1),(4,1),(5,1),(8,1),(9,1)] (Ae (Az L) 0=Ae (Az L) 0/\iD (v:Int)=iD (v:Int)/\bD Ad=bD Ad/\Ag (AC L v) 0 (Aa<|Ai L v) (Aa<|Ai L v) Ab=Ag (AC L v) 0 (Aa<|Ai L v) (Aa<|Ai L v) Ab/\bD Ab=bD Ab/\bD (Aw<|Aw r)=bD (Aw<|Aw r)) ⟨rfl,rfl,rfl,rfl,rfl,rfl⟩
   | false=>
    have hrE:=hno2 hb2;subst hrE;rw[hb2]at hnext;refine zAe (Al (Ah (λ(i:Nat)=>Ae (AM L i) 0)<|Ai L v) 225 1 Ab Ad AW) (AC L v) (AJ 1<|Aa<|An 0<|Ah (λ(i:Nat)=>Ae (AM L i) 0)<|Ai L v) (AO (An 0<|Ah (λ(i:Nat)=>Ae (AM L i) 0)<|Ai L v) Uk) (zT8 (S:=S1) hL hvn) (by(simp;omega)) ?_;focus
     refine zY [] [] [AO (An 0<|Ah (λ(i:Nat)=>Ae (AM L i) 0)<|Ai L v) Uk] [Ae (AM L<|AE (Ai L v) 0 0) 0] (BH (by simp(disch:=omega) only[A9,hhd])) (by exact hnext) ?_;refine zA3 6 [(9,bD Ad),(59,bD Ad),(60,Am undef),(61,Am undef),(62,Am undef),(63,bD Ad)] ?_;refine zAh ?_ (by kernel_rfl);refine zC ?_;rotate_left
    refine⟨Ad,{S1 with its:=its2},f,hinv,by omega,?_⟩;refine zAs [(0,1),(1,1),(4,1),(5,1),(8,1),(9,1)] (Ae (Az L) 0=Ae (Az L) 0/\iD (v:Int)=iD (v:Int)/\bD Ad=bD Ad/\Ag (AC L v) 0 (Aa<|Ai L v) (Aa<|Ai L v) Ab=Ag (AC L v) 0 (Aa<|Ai L v) (Aa<|Ai L v) Ab/\bD Ab=bD Ab/\bD Ad=bD Ad) ⟨rfl,rfl,rfl,rfl,rfl,rfl⟩
  | false=>
   rw[zH3]at i9;subst i9;have hup:∀i∈L.ix v,1<=(J.its.getD i Af).l/\(J.its.getD i Af).l<=32/\0<=((J.its.getD i Af).fr.getD ((J.its.getD i Af).l-1) (0,0)).1/\0<=((J.its.getD i Af).fr.getD ((J.its.getD i Af).l-1) (0,0)).2:=λi hi=>by
    obtain⟨q1,q2⟩:=(zV L.na L.vs).1 hi;obtain⟨p1,p2,p3,p4⟩:=hLp.adv i q1 q2;have a5:=hmet.adv i hi;have hoi:=zL1 (ha.one i q1) (zKo hv q1 q2);have hge:its1.getD i Af=opI (S.its.getD i Af):=by
     rw[<-hI1];exact(zL2 (vs:=L.vs) v ha.len i).trans (if_pos hi)
    rw[<-hge]at hoi;obtain⟨b1,b2,b3,b4,b5⟩:=hoi;simp only at p1 p2 p3 p4;have hll:(J.its.getD i Af).l=cnt L.vs i v+1:=by rw[p2,a5.l,b1.ll]
    have hfr3:(J.its.getD i Af).fr.getD (cnt L.vs i v) (0,0)=((((S.its.getD i Af).p:Nat):Int),(((S.its.getD i Af).e:Nat):Int)):=by
     rw[p4 (cnt L.vs i v) (by rw[a5.l,b1.ll];exact Nat.lt_succ_self _),a5.fr,b5,Bf,List.getElem?_set_self (by
      have:=(ha.one i q1).fl
      have:=(ha.one i q1).d32
      have:=zKo hv q1 q2
      omega)]
     rfl
    have:=(ha.one i q1).d32
    have:=zKo hv q1 q2
    rw[hll,Nat.add_sub_cancel,hfr3];omega
   have hlJ:∀i∈L.ix v,i<J.its.length:=λi hi=>by rw[i1.len];exact hix i hi
   focus
    refine zA<|vA ?_;refine zAb [] [(54,bD Ad)] ?_;refine vf<|vZ2<|zA<|vA ?_;refine zAb [0,1,5,9,54] [(83,Ag (AC L v) 0 (Aa<|Ai L v) (Aa<|Ai L v) Ab),(84,iD (Aa (Ai L v):Int)),(85,iD 0)] ?_;refine zH ?_;rotate_left
   refine zK (λ(t:Nat)=>fr 93 [(4,bD Ad),(8,bD Ab),(83,Ag (AC L v) 0 (Aa<|Ai L v) (Aa<|Ai L v) Ab),(84,iD (Aa (Ai L v):Int)),(85,iD t)]) (λ(t:Nat)=>lay L {J with its:=zGu ((L.ix v).take t) J.its}) (λ(t:Nat)=>(L.ix v).length-t) (λ(t:Nat)=>t<=(L.ix v).length) 0 ?_ ?_ ?_
   ·omega
   ·refine zAs [(4,1),(8,1),(83,1),(84,1),(85,1)] (bD Ad=bD Ad/\bD Ab=bD Ab/\Ag (AC L v) 0 (Aa<|Ai L v) (Aa<|Ai L v) Ab=Ag (AC L v) 0 (Aa<|Ai L v) (Aa<|Ai L v) Ab/\iD (Aa (Ai L v):Int)=iD (Aa (Ai L v):Int)/\iD 0=iD (↑(0:Nat):Int)) ⟨rfl,rfl,rfl,rfl,(by kernel_rfl)⟩
   intro t ht;rcases AH t (L.ix v).length with ht2|ht2
   ·have hhd:=hd_ix L (L.ix v) t ht2;have hmm:=zAy ht2;have hat:=upAll_at (L.ix v) hnd J.its hlJ t ht2;have hsu:=zYv (L.ix v) J.its t ht2;obtain⟨q1,q2⟩:=(zV L.na L.vs).1 hmm;obtain⟨u1,u2,u3⟩:=hup _ hmm;have hop:=up_g (k:=L.ib ((L.ix v).getD t 0)) (it:=(zGu ((L.ix v).take t) J.its).getD ((L.ix v).getD t 0) Af) (zQi (S:={J with its:=zGu ((L.ix v).take t) J.its}) hL q1) (by rw[hat];exact i4 _ q1) (by rw[hat];exact u1) (by rw[hat];exact u2) (by rw[hat];exact u3);rw[zH6 hL q1 (by rw[show(zGu ((L.ix v).take t) J.its).length=J.its.length from zKa upI _ _,i1.len];exact q1),<-hsu]at hop;focus
     refine vA ?_;refine zAb [] [(86,bD<|decide ((t:Int)<(Aa (Ai L v):Int)))] ?_;refine zA<|vT ((t:Int)<(Aa (Ai L v):Int))<|vKB<|vA ?_;refine zR 1 [] [] ((0:Int)<=(t:Int)/\(t:Int)<(Aa (Ai L v):Int)) [(87,Ae (AC L v) (0+Au (t:Int)*1))] (by omega) ?_;refine zAl 87 (Ae (AC L v) (0+Au (t:Int)*1)) (Ae (AC L v) t) (by simp(disch:=omega) only[AT,AR,Bh]) ?_;rotate_left
    refine zAe (Al (Ah (λ(i:Nat)=>Ae (AM L i) 0)<|Ai L v) 225 1 Ab Ad AW) (AC L v) (AJ 1<|Aa<|An t<|Ah (λ(i:Nat)=>Ae (AM L i) 0)<|Ai L v) (AO (An t<|Ah (λ(i:Nat)=>Ae (AM L i) 0)<|Ai L v) Uk) (zT8 hL hvn) (by(simp;omega)) ?_;focus
     refine zA3 1 [(11,AO (An t<|Ah (λ(i:Nat)=>Ae (AM L i) 0)<|Ai L v) Uk)] ?_;refine zAl 11 (AO (An t<|Ah (λ(i:Nat)=>Ae (AM L i) 0)<|Ai L v) Uk) (Ae (AM L<|AE (Ai L v) t 0) 0) (by simp(disch:=omega) only[hhd]) ?_;refine zAb [86,87,88] [] ?_;refine zB rfl ?_;refine zA3 1 [(89,Ae (AM L<|AE (Ai L v) t 0) 0)] ?_;refine zY [] [] [Ae (AM L<|AE (Ai L v) t 0) 0] [Ae (AM L<|AE (Ai L v) t 0) 0] (AZ _) (by exact hop) ?_;refine zAh ?_ (by kernel_rfl);refine zD<|vN<|zB rfl ?_;refine zR 2 [] [] (YtjcofbkhoeockaaGreatDoor.i6 (↑t+1)) [(85,iD ↑(t+1)),(91,iD ↑(t+1))] (by omega) ?_;refine zAh ?_ (by kernel_rfl);refine zC ?_;rotate_left
    refine⟨t+1,ht2,by omega,?_⟩;refine zAs [(4,1),(8,1),(83,1),(84,1),(85,1)] (bD Ad=bD Ad/\bD Ab=bD Ab/\Ag (AC L v) 0 (Aa<|Ai L v) (Aa<|Ai L v) Ab=Ag (AC L v) 0 (Aa<|Ai L v) (Aa<|Ai L v) Ab/\iD (Aa (Ai L v):Int)=iD (Aa (Ai L v):Int)/\iD (↑(t+1):Int)=iD (↑(t+1):Int)) ⟨rfl,rfl,rfl,rfl,rfl⟩
   obtain rfl:t=(L.ix v).length:=by omega
   rw[Bx];focus
    refine vA ?_;refine zAb [] [(86,bD<|decide ((Aa (Ai L v):Int)<(Aa (Ai L v):Int)))] ?_;refine zA<|vF ((Aa (Ai L v):Int)<(Aa (Ai L v):Int))<|vZ2<|vA ?_;refine zAb [8,83,84,85,86,92] [(4,bD Ab)] ?_;refine zE ?_;refine zM (True) [Am<|BR Ab] (.inr rfl) ?_;rotate_left
   exact⟨by kernel_rfl,rfl⟩
end
section
open Go.RowKit
theorem Acts.new0{P:Program}{f:FuncId}{args:List D}{x:D}{news st:List Bk}(h:Acts P f args [] [] x news)(hargs:∀I w β vs,RelT I w β args vs->RelT I w noB args vs)(hn:∀b∈news,b.free):Acts P f args st [] (zA9 st.length x) (st++news):=by
 intro β I w vs hr hsr hinj hfz hdom hi hg;refine(h noB I w vs (hargs I w β vs hr) (λk b c hk=>by cases hk) (λj j' b c c' h1=>by cases h1) (λk b c i e h1=>by cases h1) (λk y hk=>by cases hk) hi hg).mono ?_;rintro en w' ⟨v,β1,I',rfl,p1,p2,p3,p4,p5,p6,p7,p8⟩;have hlt:∀{j b c:Nat},β j=Aq (b,c)->b<w.heap.size:=λ{j b c} hj=>by
  obtain⟨e0,_,h1⟩:=hsr j b c hj;exact h1.lt
 have hge:∀{j b c:Nat},β1 j=Aq (b,c)->w.heap.size<=b:=λ{j b c} hj=>by
  rcases p2.be j b c hj with⟨k,c',hk⟩|hk
  ·cases hk
  exact hk
 have hheap:∀b,b<w.heap.size->w'.heap[b]?=w.heap[b]?:=λb hb=>p2.out b hb λk c hk=>by cases hk
 have hdo:∀{j:Nat}{y:Nat×Nat},β j=Aq y->j<st.length:=λ{j y} hj=>hdom j y hj;have hle:BeLe β (λj=>if j<st.length then β j else β1 (j-st.length)):=λj y hj=>by
  grind
 have him:∀{b o:Nat},I' b o->b<w.heap.size->I b o:=λ{b o} hb hlt=>by
  rcases p2.im b o hb with h1|h1|⟨k,c,h1⟩
  ·exact h1
  ·omega
  cases h1
 refine⟨v,λj=>if j<st.length then β j else β1 (j-st.length),I',rfl,p1,⟨p2.fix,p2.size,λb hb _=>hheap b hb,p2.os,p2.tape,p2.output,p2.dr,λj b c hj=>?_,λb o hb=>?_⟩,λj y _ hj=>hle j y hj,λj b c hj=>?_,λj j' b c c' hj hj'=>?_,λj b c i e0 hj h2 h3=>?_,λj y hj=>?_,?_⟩
 ·grind
 ·grind
 ·try simp only at hj
  split at hj
  ·rename_i hjl;obtain⟨e0,h1,h2⟩:=hsr j b c hj;exact⟨e0,by rw[BS hjl];exact h1,h2.mono (hheap b (hlt hj)) p2.fix hle⟩
  rename_i hjl;obtain⟨e0,h1,h2⟩:=p4 _ b c hj;exact⟨e0,by rw[Ci (by omega)];exact h1,(hn e0 (List.mem_of_getElem? h1)).own h2⟩
 ·try simp only at hj hj'
  split at hj<;>split at hj'
  ·exact hinj j j' b c c' hj hj'
  ·grind
  ·grind
  have:=p5 _ _ b c c' hj hj';omega
 ·try simp only at hj
  split at hj
  ·rename_i hjl;rw[BS hjl]at h2;exact hfz j b c i e0 hj h2 (him h3 (hlt hj))
  rename_i hjl;rw[Ci (by omega)]at h2;exact p6 _ b c i e0 hj h2 h3
 all_goals grind [only,AN,zDt]
section
variable {T : Par} {sl : List D} {st : List Bk}
theorem Weak.leC{j i:Nat}{ej:Bk}{d d':D}(hj:st[j]?=Aq ej)(hm:ej.kd.isMap=Ad)(hi:ej.cells[i]?=Aq d)(hd:LeD d d'):Weak T sl st sl (st.set j {ej with cells:=ej.cells.set i d'}):=by
 intro β I w tm h;have hjl:j<st.length:=(CE.1 hj).1;have hget:∀k,(st.set j {ej with cells:=ej.cells.set i d'})[k]?=if k=j then Aq {ej with cells:=ej.cells.set i d'}else st[k]?:=λk=>by
  grind
 refine⟨β,I,⟨h.rel,λk b' c hk=>?_,h.inj,λk b' c o e hk he hi'=>?_,λk y hk=>?_,h.imb,h.gl⟩,Stp.refl _ _ _,Kp.refl _ _⟩
 ·obtain⟨e,k1,k2⟩:=h.sr k b' c hk;rw[hget k];by_cases hkj:k=j
  ·subst hkj;rw[hj]at k1;cases k1;refine⟨_,if_pos rfl,?_⟩;obtain⟨cur,c1,c2,c3,c4⟩:=k2.c hm;refine OwnC.r ⟨cur,c1,by simpa using c2,?_,c4⟩ hm;have hn2:({ej with cells:=ej.cells.set i d'}:Bk).nob=ej.nob:=rfl;rw[hn2];simp only[Bl];refine c3.putAt λd0 v hd0 hv hr=>?_;rw[hi]at hd0;cases hd0;exact hd _ _ _ _ hr
  grind
 ·rw[hget k]at he;by_cases hkj:k=j
  ·subst hkj;rw[if_pos rfl]at he;cases he
   have:=h.fz k b' c o ej hk hj hi'
   grind
  rw[if_neg hkj]at he;exact h.fz k b' c o e hk he hi'
 rw[Bl];exact h.dom k y hk
theorem LeL.setD:∀{sl:List D}{i:Nat}{d d':D},sl[i]?=Aq d->LeD d d'->LeL sl (sl.set i d')
 |[],i,d,d',h,_=>by simp at h
 |e::sl,0,d,d',h,hd=>by
  simp only[B6,BI.injEq]at h;subst h;exact .cons hd (AZ sl)
 |e::sl,i+1,d,d',h,hd=> .cons (LeD.refl e) (LeL.setD (by simpa using h) hd)
theorem Weak.leS{s:Nat}{d d':D}(hs:sl[s]?=Aq d)(hd:LeD d d'):Weak T sl st (sl.set s d') st:=Weak.slots (LeL.setD hs hd)
end
structure Mk where
 p:Nat
 n:Nat
 cb:Nat
 A:List (List Nat×List Rw)
 base:Nat->Bk
abbrev atN(a:List Nat×List Rw):List D:=[.row (a.1.map λv=>iD (v:Nat)) a.1.length,iD (a.1.length:Nat), .row (a.2.map rowV) a.2.length]
abbrev Mk.vs(m:Mk)(a:Nat):List Nat:=(m.A.getD a Af).1
abbrev Mk.tr(m:Mk)(a:Nat):Tri:=zB6 (m.vs a).length (m.A.getD a Af).2
abbrev it0(t:Tri):It:=⟨t,0,0,0,fr0,0⟩
abbrev ptB(m:Mk)(al:List Nat):Bk:=⟨al.map λi=> .own ((m.p+4+m.n+5*i+4)) 0,225,1,Ab,Ad, .sh⟩
abbrev ltP(m:Mk)(ix:Nat->List Nat)(v:Nat):D:= .osl (m.p+4+v) 0 (ix v).length (ix v).length Ab
abbrev ltB(m:Mk)(ix:Nat->List Nat):Bk:=⟨(As m.n).map (ltP m ix),219,1,Ab,Ad, .sh⟩
abbrev joB(m:Mk):Bk:=⟨[.osl m.p 0 m.n (m.n*3) Ab, .osl (m.p+1) 0 m.n m.n Ab,iD (0:Nat), .clo (.func 135) [] [.own m.cb 0]],218,0,Ad,Ad, .plain⟩
abbrev acB(a:List Nat×List Rw):Bk:=⟨atN a,87,0,Ad,Ad, .plain⟩
abbrev coB(k:Nat):Bk:=⟨rgD k,3,1,Ab,Ab, .plain⟩
abbrev teB(t:Tri):Bk:=⟨[triC t],222,0,Ad,Ad, .plain⟩
def qatm(m:Mk)(q:Nat):Bk:=if q%5=0 then acB (m.A.getD (q/5) Af)else if q%5=1 then coB (m.vs (q/5)).length else if q%5=4 then itK (it0 (m.tr (q/5)))else teB (m.tr (q/5))
def qblk(m:Mk)(ix:Nat->List Nat)(al:List Nat)(k:Nat):Bk:=if k<m.p then m.base k else if k=m.p then roB (AA m.n ⟨0,0,[]⟩)else if k=m.p+1 then ltB m ix else if k=m.p+2 then joB m else if k=m.p+3 then ptB m al else if k<(m.p+4+m.n)then ptB m (ix (k-(m.p+4)))else qatm m (k-(m.p+4+m.n))
def qlay(m:Mk)(ix:Nat->List Nat)(al:List Nat)(c:Nat):List Bk:=(As ((m.p+4+m.n)+5*c)).map (qblk m ix al)
section
variable {m : Mk} {ix : Nat → List Nat} {al : List Nat} {c : Nat}
theorem zKh:(qlay m ix al c).length=(m.p+4+m.n)+5*c:=by simp[qlay]
theorem zF0{k:Nat}(h:k<(m.p+4+m.n)+5*c):(qlay m ix al c)[k]?=Aq (qblk m ix al k):=by simp[qlay,h]
theorem ql_t:(qlay m ix al c)[m.p+1]?=Aq (ltB m ix):=by
 grind [zF0,qblk]
theorem ql_j:(qlay m ix al c)[m.p+2]?=Aq (joB m):=by
 grind [zF0,qblk]
theorem ql_al:(qlay m ix al c)[m.p+3]?=Aq (ptB m al):=by
 grind [zF0,qblk]
theorem ql_v{v:Nat}(h:v<m.n):(qlay m ix al c)[m.p+4+v]?=Aq (ptB m (ix v)):=by
 grind [zF0,qblk]
theorem ql_atm{j:Nat}(h:j<5*c):(qlay m ix al c)[(m.p+4+m.n)+j]?=Aq (qatm m j):=by
 grind [zF0,qblk]
theorem zW0{j:Nat}:qblk m ix al ((m.p+4+m.n)+j)=qatm m j:=by
 grind [qblk]
theorem ql_snoc:qlay m ix al c++[acB (m.A.getD c Af)]++[coB (m.vs c).length]++[teB (m.tr c)]++[teB (m.tr c),itK (it0 (m.tr c))]=qlay m ix al (c+1):=by
 have e:As ((m.p+4+m.n)+5*(c+1))=As ((m.p+4+m.n)+5*c)++[(m.p+4+m.n)+5*c,(m.p+4+m.n)+(5*c+1),(m.p+4+m.n)+(5*c+2),(m.p+4+m.n)+(5*c+3),(m.p+4+m.n)+(5*c+4)]:=by
  rw[show(m.p+4+m.n)+5*(c+1)=(m.p+4+m.n)+5*c+1+1+1+1+1 by omega];rw[Bs,Bs,Bs,Bs,Bs];simp[Nat.add_assoc]
 unfold qlay;rw[e,Cr];simp only[BC,BD,B7,zW0,Cc,Ct];congr 1;have h0:qatm m (5*c)=acB (m.A.getD c Af):=by unfold qatm;rw[if_pos (by omega),show 5*c/5=c by omega]
 have h1:qatm m (5*c+1)=coB (m.vs c).length:=by unfold qatm;rw[if_neg (by omega),if_pos (by omega),show(5*c+1)/5=c by omega]
 have h2:qatm m (5*c+2)=teB (m.tr c):=by unfold qatm;rw[if_neg (by omega),if_neg (by omega),if_neg (by omega),show(5*c+2)/5=c by omega]
 have h3:qatm m (5*c+3)=teB (m.tr c):=by unfold qatm;rw[if_neg (by omega),if_neg (by omega),if_neg (by omega),show(5*c+3)/5=c by omega]
 have h4:qatm m (5*c+4)=itK (it0 (m.tr c)):=by unfold qatm;rw[if_neg (by omega),if_neg (by omega),if_pos (by omega),show(5*c+4)/5=c by omega]
 rw[h0,h1,h2,h3,h4]
theorem zPc{k:Nat}{cs:List D}(h:zX k cs=Ad):cs.map (zAi k)=cs:=by
 induction cs with
 |nil=>rfl
 |cons d cs ih=>
  simp_all [only,zX,BE,BD,zAi]
theorem zA1{k:Nat}{b:Bk}(h:zX k b.cells=Ad):zAk k b=b:=by
 simp_all [zAk,zPc]
theorem zGi(m:Mk)(k:Nat)(hk:k<(m.p+4+m.n)):∀al:List Nat,zX k (al.map λi=>Ae ((m.p+4+m.n+5*i+4)) 0)=Ad
 |[]=>by simp only[B7,zX]
 |i::al=>by
  simp only[BD,zX,refs,zGi m k hk al,AP,beq_eq_false_iff_ne];omega
structure MOk(m:Mk):Prop where
 bs:∀k,k<m.p->namB m.p (m.base k)
 cb:m.cb<m.p
theorem qb_kill(h:MOk m){k0 k:Nat}(h0:m.p+3<=k0)(h1:k0<(m.p+4+m.n))(hk:k≠m.p+1):zAk k0 (qblk m ix al k)=qblk m ix al k:=by
 have hcb:=h.cb;unfold qblk;simp only[if_neg hk];split
 ·rename_i hp;exact zR8 (h.bs k hp) (by omega)
 split
 ·exact zB4 rfl
 split
 ·refine zA1 ?_;simp only[zX,refs,AP,BF,BE,beq_eq_false_iff_ne];omega
 split
 ·grind [zA1,zGi]
 split
 ·grind [zA1,zGi]
 unfold qatm;split
 ·simp_all [zA1,only,zX,refs,AP]
 split
 ·exact zB4 rfl
 split
 ·exact zA1 (zMg (zBg _) k0)
 simp_all [zA1,only,zX,refs,AP]
theorem lt_kill(k0:Nat)(h0:k0=m.p+3):zAk k0 (ltB m ix)=ltB m ix:=by
 subst h0;refine zA1 ?_;show zX (m.p+3) ((As m.n).map (ltP m ix))=Ad;have key:∀ls:List Nat,zX (m.p+3) (ls.map (ltP m ix))=false:=by
  intro ls;induction ls with
  |nil=>simp only[B7,zX]
  |cons v ls ih=>
   simp only[BD,zX,refs,ih,AP,beq_eq_false_iff_ne];omega
 exact key _
theorem ql_all(h:MOk m)(al':List Nat):((qlay m ix al c).map (zAk (m.p+3))).set (m.p+3) (ptB m al')=qlay m ix al' c:=by
 apply Ba;intro j;rw[Bw,A7,zKh];split
 ·grind [ql_al]
 rename_i e;rw[Bp];rcases AH j ((m.p+4+m.n)+5*c)with hj|hj
 ·rw[zF0 hj,zF0 hj,BT];congr 1;have e2:qblk m ix al' j=qblk m ix al j:=by
   grind [qblk]
  rw[e2];by_cases hj1:j=m.p+1
  ·subst hj1;have:qblk m ix al (m.p+1)=ltB m ix:=by unfold qblk;rw[if_neg (by omega),if_neg (by omega),if_pos rfl]
   rw[this];exact lt_kill _ rfl
  exact qb_kill h (A0 _) (by omega) hj1
 grind [BA,zKh]
theorem ql_mk(h:MOk m){v:Nat}(hv:v<m.n)(b:Bk):(((qlay m ix al c).map (zAk (m.p+4+v))).set (m.p+4+v) b)[m.p+1]?=Aq ⟨((As m.n).map (ltP m ix)).map (zAi (m.p+4+v)),219,1,Ab,Ad, .sh⟩:=by
 rw[Cg (by omega),Bp,ql_t];rfl
theorem ql_app(h:MOk m){v:Nat}(hv:v<m.n)(i:Nat):(((qlay m ix al c).map (zAk (m.p+4+v))).set (m.p+4+v) (ptB m (ix v++[i]))).set (m.p+1) ⟨(((As m.n).map (ltP m ix)).map (zAi (m.p+4+v))).set v (.osl (m.p+4+v) 0 ((ix v).length+1) ((ix v).length+1) Ab),219,1,Ab,Ad, .sh⟩=qlay m (λw=>if w=v then ix v++[i]else ix w) al c:=by
 apply Ba;intro j;rw[Bw,Bl,A7,zKh];split
 ·rename_i e;subst e;rw[if_pos (by omega),ql_t];congr 2;apply Ba;intro w;rw[Bw,A7,A7,List.length_range];split
  ·grind
  rename_i e;rw[Bp,Bp,Bp];rcases AH w m.n with hw|hw
  ·rw[Cj hw];simp only[BT,ltP,if_neg (Ne.symm e)];unfold zAi;rw[show refs (m.p+4+v) (.osl (m.p+4+w) 0 (ix w).length (ix w).length Ab)=Ad by simp only[refs,beq_eq_false_iff_ne];omega];rfl
  grind
 rename_i e;rw[Bw,A7,zKh];split
 ·grind [ql_v,only]
 grind [AH,zF0,qb_kill,qblk,only,BA,zKh]
theorem ql_nam(h:MOk m)(hal:∀i∈al,i<c)(hix:∀v,∀i∈ix v,i<c):∀b∈qlay m ix al c,namB ((m.p+4+m.n)+5*c) b:=λb hb=>by
 obtain⟨k,hk,rfl⟩:=B5.1 hb;have hcb:=h.cb;have hptr:∀al:List Nat,(∀i∈al,i<c)->namB ((m.p+4+m.n)+5*c) (ptB m al):=λal h=> .inr λj hj=>by
  refine zCy _ λi hi=>?_;have key:∀al:List Nat,(∀i∈al,i<c)->∀i∈ownL (al.map λi=>Ae ((m.p+4+m.n+5*i+4)) 0),i<(m.p+4+m.n)+5*c:=by
   intro al;induction al with
   |nil=>intro _ i hi;simp[ownL]at hi
   |cons a al ih=>
    intro h i hi;have ha:=h a (by simp);simp only[BD,ownL,ownN,List.singleton_append,B8]at hi;rcases hi with rfl|hi
    ·omega
    exact ih (λi hi=>h i (by simp[hi])) i hi
  have:=key al h i hi
  omega
 unfold qblk;split
 ·rename_i hp;exact(h.bs k hp).imp id λh j hj=>h j (by omega)
 split
 ·exact .inl rfl
 split
 ·refine .inr λj hj=>?_;have key:∀ls:List Nat,(∀v∈ls,v<m.n)->zX j (ls.map (ltP m ix))=false:=by
   intro ls;induction ls with
   |nil=>intro _;simp only[B7,zX]
   |cons v ls ih=>
    intro h
    have:=h v (by simp)
    simp only[BD,zX,refs,ih λv hv=>h v (by simp[hv]),AP,beq_eq_false_iff_ne];omega
  exact key _ λv hv=>A_.1 hv
 split
 ·refine .inr λj hj=>?_;simp only[zX,refs,AP,BF,BE,beq_eq_false_iff_ne];omega
 split
 ·exact hptr al hal
 split
 ·exact hptr _ (hix _)
 unfold qatm;split
 ·exact .inr λj _=>by simp only[zX,refs,AP]
 split
 ·exact .inl rfl
 split
 ·exact .inr λj _=>zMg (zBg _) j
 exact .inr λj _=>by simp only[zX,refs,AP]
end
def callO(P:Program)(T:Par)(l:List Oper)(sl:List D):Option (FuncId×List D):=match l with
 |[]=>AS
 | o ::_=>match o.guard with
  |some _=>AS
  | none=>match o.op with
   | .call c=>match c.callee with
    | .value (.func f)=>match P.funcs[f]? with
     |none=>AS
     |some fn=>if fn.name== "runtime.NumGoroutine" ||fn.body.isNone then AS else if T.imp f then AS else Aq (f,c.args.toList.map (evD sl))
    |_=>AS
   |_=>AS
theorem st_callo{P:Program}{T:Par}{ops:Array Oper}{dr:Bool}{l:List Oper}{sl:List D}{st:List Bk}{K:List D->List Bk->Prop}(f:FuncId)(args xs:List D)(ks:List Nat){x:D}(h:callO P T l sl=Aq (f,args))(hf:mapF (frz Ab st zAc) args=Aq (xs,ks))(hp:Pure P f xs [] x)(next:seqW P T ops dr l.tail (putD sl (hdst l) x) (zAz st ks) K):seqW P T ops dr l sl st K:=by
 unfold callO at h;split at h
 ·cases h
 rename_i o r;split at h
 ·cases h
 rename_i hg;split at h
 ·rename_i c ho;split at h
  ·rename_i f1 hc;split at h
   ·cases h
   rename_i fn hfn;split at h
   ·cases h
   rename_i hb;split at h
   ·cases h
   rename_i hi;cases h;have he:aeff P T o.op o.type (evD sl) st= .call f xs ks:=by
    grind [only,aeff,evD,zHj]
   refine zDl hg<|go_call he ?_ hp rfl rfl next;rw[ho];obtain⟨cc,ca,ct⟩:=c;simp only at hc;subst hc;rfl
  cases h
 cases h
def stCs(p n k:Nat):List D:=(As n).map λv=>if v<k then .osl (p+4+v) 0 0 0 Ab else nlD
theorem zKy(p n k v:Nat):(stCs p n k)[v]?=if v<n then Aq (if v<k then .osl (p+4+v) 0 0 0 Ab else nlD)else none:=by
 grind [stCs,BA]
theorem zV7{T:Par}{sl:List D}(st0:List Bk)(B0 B2:Bk)(R:List Bk)(p n:Nat)(hp:st0.length=p):∀k,k<=n->Weak T sl (st0++[B0,⟨stCs p n 0,219,1,Ab,Ad, .sh⟩,B2]++R) sl (st0++[B0,⟨stCs p n k,219,1,Ab,Ad, .sh⟩,B2]++R)
 |0,_=>Weak.refl _ _
 | k+1,hk=>by
  refine(zV7 st0 B0 B2 R p n hp k (by omega)).trans ?_;have hg:(st0++[B0,(⟨stCs p n k,219,1,Ab,Ad, .sh⟩:Bk),B2]++R)[p+1]?=Aq ⟨stCs p n k,219,1,Ab,Ad, .sh⟩:=by
   grind
  have h:=Weak.leC (T:=T) (sl:=sl) (j:=p+1) (i:=k) hg rfl (by show(stCs p n k)[k]?=_;rw[zKy,if_pos (by omega),if_neg (by omega)]) (LeD.nil (p+4+k) Ab);have e1:(stCs p n k).set k (.osl (p+4+k) 0 0 0 Ab)=stCs p n (k+1):=by
   apply Ba;grind [zKy,stCs]
  grind
theorem zY8{P:Program}{T:Par}{c:Code}{Q:Exit->List D->List Bk->Prop}{sl:List D}(m:Mk)(st0:List Bk)(s:Nat)(hp:st0.length=m.p)(hb:∀k,k<m.p->st0[k]?=Aq (m.base k))(hs:sl[s]?=Aq nlD)(dead:List Nat)(sl':List D)(e:zAx (sl.set s (.osl (m.p+3) 0 0 0 Ab)) dead=sl')(k:awp P T c Q sl' (qlay m (λ_=>[]) [] 0)):
  zAn P T c Q sl (st0++[roB (AA m.n ⟨0,0,[]⟩),⟨repL m.n [nlD],219,1,Ab,Ad, .sh⟩,joB m]):=by
 subst e;refine⟨_,_,?_,k⟩;have er:repL m.n [nlD]=stCs m.p m.n 0:=by
  apply Ba;grind [zKy,zE9]
 rw[er];refine(Weak.more (AA (m.n+1) (ptB m []))).trans ((zV7 st0 _ _ _ m.p m.n hp m.n (A0 _)).trans ?_);refine Weak.trans (sl':=sl.set s (.osl (m.p+3) 0 0 0 Ab)) (Weak.leS hs (LeD.nil (m.p+3) Ab)) ?_;have:st0++[roB (AA m.n ⟨0,0,[]⟩),(⟨stCs m.p m.n m.n,219,1,Ab,Ad, .sh⟩:Bk),joB m]++AA (m.n+1) (ptB m [])=qlay m (λ_=>[]) [] 0:=by
  apply Ba;intro j;rcases AH j m.p with hj|hj
  ·grind [BC,BS,zF0,qblk]
  rw[BC,Ci (by omega),hp];rcases AH j (m.p+4+m.n)with hj2|hj2
  ·rw[zF0 (by omega)];unfold qblk;rw[if_neg (by omega)];obtain⟨i,rfl⟩:∃i,j=m.p+i:=⟨j-m.p,by omega⟩;rw[show m.p+i-m.p=i by omega];match i with
   |0=>rw[if_pos (by omega)];rfl
   |1=>
    rw[if_neg (by omega),if_pos rfl];show Aq _=Aq _;congr 2;apply Ba;grind [zKy,Cj,BA]
   |2=>rw[if_neg (by omega),if_neg (by omega),if_pos rfl];rfl
   |i+3=>
    grind
  grind [BA,zKh]
 grind [Weak.slots,LeL.dead]
theorem bld_sz:∀(L:List Rw)(last:List Va)(t:Tri)(B:Nat),SzT B t->SzT (B+L.length) (bldT last L t)
 |[],_,_,_,h=>h
 |x::L,last,t,B,h=>by
  rw[bldT,Cu,show B+(L.length+1)=B+1+L.length by omega];exact bld_sz L x _ (B+1) (zYn _ _ _ h)
theorem zX3{B:Nat}{t:Tri}(h:SzT B t):∀l,SzT (B+l) ((A6 0 l).foldl stF t)
 |0=>h
 |l+1=>by
  rw[List.range'_concat,Cf];exact stF_sz (zX3 h l)
theorem zWh(n:Nat)(L:List Rw):SzT (L.length+n) (zB6 n L):=by
 have h0:SzT 0 (AA n (([],[]):List Va×List Nat)):=λk=>by
  grind [zPx]
 have h1:=bld_sz L [] _ 0 h0;rw[Bh]at h1;have h2:=zX3 h1 n;have h3:=foldF (bldT [] L (AA n ([],[])));rw[zK9,Cp]at h3;rw[h3]at h2;exact h2
abbrev itS(m:Mk):List It:=(As m.A.length).map λi=>it0 (m.tr i)
abbrev S0(m:Mk):Js:=⟨itS m,AA m.n ⟨0,0,[]⟩,0,[]⟩
structure AOk(m:Mk):Prop where
 n:m.n<=32
 na:m.A.length<=1000
 p:m.p<=50000
 v:Vok m.n m.A.length m.vs
 r:∀a∈m.A,a.2.length<=65536/\(∀r∈a.2,r.length=a.1.length)/\Rsc a.2
theorem AOk.get{m:Mk}(h:AOk m){a:Nat}(ha:a<m.A.length):m.A.getD a Af∈m.A:=by
 grind
theorem zJ9{n:Nat}:∀{l:List Nat}(b:Nat),l.Pairwise (· <·)->(∀w∈l,b<=w/\w<n)->l.length<=n-b
 |[],b,_,_=>Bz _
 |w::l,b,h,k=>by
  obtain⟨h1,h2⟩:=Cm.1 h;have hw:=k w (by simp)
  have:=zJ9 (n:=n) (w+1) h2 λu hu=>⟨h1 u hu,(k u (by simp[hu])).2⟩
  rw[Cu];omega
theorem AOk.vl{m:Mk}(h:AOk m){a:Nat}(ha:a<m.A.length):(m.vs a).length<=32:=by
 have h1:=zJ9 (n:=m.n) 0 (h.v.asc a ha) λw hw=>⟨Bz _,h.v.lt a ha w hw⟩;have h2:=h.n;exact AF h1 (by omega)
theorem zQm(m:Mk){a:Nat}(ha:a<m.A.length):(itS m).getD a Af=it0 (m.tr a):=by
 grind
theorem itS_at{m:Mk}(h:AOk m)(hne:∀a∈m.A,a.2≠[]):AtV m.A.length m.vs 0 (itS m) where
 len:=by simp
 one a ha:=by
  obtain⟨h1,h2,h3⟩:=h.r _ (h.get ha)
  have hc:cnt m.vs a 0=0:=by simp[cnt]
  rw[zQm m ha,hc]
  refine⟨zHr _ _,rfl,by simp,h.vl ha,λhd=>?_,λh=>absurd h (Nat.lt_irrefl _)⟩
  exact trie_sib _ (Nat.pos_of_ne_zero hd) _ h2 h3 (hne _ (h.get ha))
theorem itS_bd{m:Mk}(h:AOk m):Bds m.A.length (itS m):=λa ha=>by
 obtain⟨h1,h2,h3⟩:=h.r _ (h.get ha);have hz:=zWh (m.vs a).length (m.A.getD a Af).2;have hl:=h.vl ha;rw[zQm m ha];refine⟨λk=>AF (hz k).1 ?_,λk=>AF (hz k).2.1 ?_,λk c hc=>AF ((hz k).2.2 c hc) ?_,?_,by simp⟩
 ·omega
 ·omega
 ·omega
 exact AF (Nat.le_of_eq (zHr _ _)) hl
theorem itS_sz{m:Mk}(h:AOk m){M:Nat}(hM:∀a∈m.A,a.2.length+m.n<=M):Szs m.A.length M (itS m):=λa ha k=>by
 have hz:=zWh (m.vs a).length (m.A.getD a Af).2;have h1:=zJ9 (n:=m.n) 0 (h.v.asc a ha) λw hw=>⟨Bz _,h.v.lt a ha w hw⟩;have h2:=hM _ (h.get ha);rw[zQm m ha];refine AF (hz k).1 ?_;omega
structure YbOk(m:Mk)(ch:List Nat)(yb:List (List Va)->Nat->Option Bk):Prop where
 c:∀k∈ch,k<m.p
 cb:m.cb∉ch
 b:∀ys k b,yb ys k=Aq b->k<m.p/\namB m.p b
 z:∀k b,yb [] k=Aq b->b=m.base k
def qL(m:Mk)(ch:List Nat)(yb:List (List Va)->Nat->Option Bk):Lay:=⟨m.p+4+m.n+5*m.A.length,m.A.length,m.n,m.p+2,m.p,m.p+1,λv=>m.p+4+v,λi=>m.p+4+m.n+5*i+4,m.vs,m.cb,ch,yb,qblk m (ats m.A.length m.vs) (As m.A.length)⟩
section
variable {m : Mk} {ch : List Nat} {yb : List (List Va) → Nat → Option Bk}
theorem zTg(h:YbOk m ch yb)(ys:List (List Va)){k:Nat}(hk:m.p<=k):yb ys k=none:=by
 cases e:yb ys k with
 |none=>rfl
 |some b=>exact absurd (h.b ys k b e).1 (by omega)
theorem qL_ok(hm:MOk m)(ha:AOk m)(h:YbOk m ch yb):LOk (qL m ch yb) where
 sm:=by have:=ha.p;have:=ha.n;have:=ha.na;show m.p+4+m.n+5*m.A.length<=100000;omega
 jb:=by show m.p+2<m.p+4+m.n+5*m.A.length;omega
 rb:=by show m.p<m.p+4+m.n+5*m.A.length;omega
 tb:=by show m.p+1<m.p+4+m.n+5*m.A.length;omega
 jr:=by show m.p≠m.p+2;omega
 ib i hi:=by
  have hi:i<m.A.length:=hi
  show m.p+4+m.n+5*i+4<m.p+4+m.n+5*m.A.length/\m.p+4+m.n+5*i+4≠m.p+2/\m.p+4+m.n+5*i+4≠m.p
  omega
 ii i j hi hj e:=by
  have e:m.p+4+m.n+5*i+4=m.p+4+m.n+5*j+4:=e
  omega
 ts:=by
  refine⟨by show m.p+1≠m.p+2;omega,by show m.p+1≠m.p;omega,λi hi=>by show m.p+4+m.n+5*i+4≠m.p+1;omega,?_,λys=>zTg h ys (by show m.p<=m.p+1;omega)⟩
  show qblk m _ _ (m.p+1)=_
  unfold qblk
  rw[if_neg (by omega),if_neg (by omega),if_pos rfl];rfl
 ab v hv:=by
  have hv:v<m.n:=hv
  refine⟨by show m.p+4+v<m.p+4+m.n+5*m.A.length;omega,by show m.p+4+v≠m.p+2;omega,by show m.p+4+v≠m.p;omega,λi hi=>by show m.p+4+m.n+5*i+4≠m.p+4+v;omega,?_,λys=>zTg h ys (by show m.p<=m.p+4+v;omega)⟩
  show qblk m _ _ (m.p+4+v)=_
  unfold qblk
  rw[if_neg (by omega),if_neg (by omega),if_neg (by omega),if_neg (by omega),if_neg (by omega),if_pos (by omega),show m.p+4+v-(m.p+4)=v by omega];rfl
 ch k hk:=by
  have:=h.c k hk
  refine⟨by show k≠m.p+2;omega,by show k≠m.p;omega,by show k≠m.p+1;omega,λv hv=>by show k≠m.p+4+v;omega,λi hi=>by show k≠m.p+4+m.n+5*i+4;omega⟩
 cb:=⟨by have:=hm.cb;show m.cb<m.p+4+m.n+5*m.A.length;omega,h.cb⟩
 nb k hk:=ql_nam (m:=m) (ix:=ats m.A.length m.vs) (al:=As m.A.length) (c:=m.A.length) hm (λi hi=>A_.1 hi) (λv i hi=>A_.1 (Ck.1 hi).1) _ (List.mem_of_getElem? (zF0 hk))
 ny ys k b e:=by
  obtain⟨h1,h2⟩:=h.b ys k b e
  exact h2.imp id λh j hj=>h j (by have hj:m.p+4+m.n+5*m.A.length<=j:=hj;omega)
theorem qL_lay(h:YbOk m ch yb):lay (qL m ch yb) (S0 m)=qlay m (ats m.A.length m.vs) (As m.A.length) m.A.length:=by
 unfold lay qlay;refine BO λk hk=>?_;have hk:k<m.p+4+m.n+5*m.A.length:=A_.1 hk;by_cases h1:k=m.p+2
 ·subst h1;refine(blk_j (L:=qL m ch yb)).trans ?_;unfold qblk;rw[if_neg (by omega),if_neg (by omega),if_neg (by omega),if_pos rfl];rfl
 by_cases h2:k=m.p
 ·grind [blk,qL,qblk]
 unfold blk;rw[if_neg (show¬k=(qL m ch yb).jb from h1),if_neg (show¬k=(qL m ch yb).rb from h2)];split
 ·rename_i i hi;have hi1:=A_.1 (List.mem_of_find?_eq_some hi);have hi2:=List.find?_some hi;simp only[beq_iff_eq]at hi2;have hi1:i<m.A.length:=hi1;have hi2:m.p+4+m.n+5*i+4=k:=hi2;subst hi2;rw[show m.p+4+m.n+5*i+4=m.p+4+m.n+(5*i+4) by omega,zW0];unfold qatm;grind
 show(yb [] k).getD (qblk m _ _ k)=_;cases e:yb [] k with
 |none=>rfl
 |some b=>
  have hb:=h.z k b e;have hk2:=(h.b [] k b e).1;grind [qblk]
end
section
variable {P : Program} {T : Par} {ops : Array Oper} {dr : Bool} {l : List Oper} {sl : List D} {st : List Bk} {K : List D → List Bk → Prop}
theorem zXr{sl:List D}{s k:Nat}{x:D}(h:sl[s]?=Aq x)(hr:zAi k x= .unk):(sl.set s .unk).map (zAi k)=sl.map (zAi k):=by
 grind [List.map_set,zAi,zRk]
theorem zQj{k o n m:Nat}{b:Bool}:zAi k (.osl k o n m b)= .unk:=by
 unfold zAi;simp only[refs,beq_self_eq_true,if_true]
theorem st_appo1(b e:Bk)(s1 k j:Nat)(p C:Prop)(b':Bk)(d':D)(s2:Nat)(x2:D)(h:appL P T l sl b e=Aq (s1,k,j,p,b',d'))(hk:st[k]?=Aq b)(hj:st[j]?=Aq e)(hp:p)(h2:(sl.set s1 .unk)[s2]?=Aq x2)(hr2:zAi k x2= .unk)(hC:nes k (ownL ((sl.set s1 .unk).set s2 .unk))=C)(hc:C)(hkp:T.keep k=Ad)
  (next:seqW P T ops dr l.tail (putD ((sl.set s1 .unk).set s2 .unk) (hdst l) d') ((st.map (zAk k)).set k b') K):seqW P T ops dr l sl st K:=by
 unfold appL at h;split at h
 ·cases h
 rename_i o r;split at h
 ·cases h
 rename_i hg;split at h
 ·rename_i c ho;split at h
  ·rename_i hcl;split at h
   ·rename_i t u s1' x hat har;split at h
    ·rename_i et et' ht hu;split at h
     ·rename_i i z k1 n mm j1 off m1 m2 wh hi hz hs hx;split at h
      ·cases h
      rename_i hm;split at h
      ·rename_i hn;simp only[BI.injEq,Prod.mk.injEq]at h;obtain⟨rfl,rfl,rfl,rfl,rfl,rfl⟩:=h;have hmf:(!e.kd.isMap)=true:=by simpa using hm
       have he:aeff P T o.op o.type (evD sl) st= .app (b.arr=Ab/\b.cells.length=n*i.size/\mm=n*i.size/\b.ty=et/\b.sz=i.size/\((e.cells.drop off).take m2).length=m1*i.size/\0<i.size/\0<i.bytes/\et=et'/\(n+m1)*i.bytes<=140737488355328/\z.length=i.size/\b.kd.isMap=Ad/\(zCs P T t=Ad\/b.kd.isSh=Ab))
         k1 {b with cells:=if b.nob then b.cells++(e.cells.drop off).take m2 else(b.cells++(e.cells.drop off).take m2).map (zAi k1)} (.osl k1 0 (n+m1) ((n+m1)*i.size) Ab):=by
        rw[ho];simp only[aeff,hcl,hat,har,zGe,ht,hu,hi,hz,hs,hx,unB,zE3,hj,hmf,if_true,hn,aApp,hk]
       refine zDl hg<|go_app he ?_ hkp hp rfl rfl ?_
       ·rw[ho];obtain⟨cc,ca,ct⟩:=c;simp only at hcl;subst hcl;rfl
       have hkl:sl.map (zAi k1)=(sl.set s1' .unk).set s2 .unk:=by
        have h3:=zQk (by rw[hC];exact hc:nes k1 (ownL ((sl.set s1' .unk).set s2 .unk)));rw[zXr h2 hr2,zXr (x:= .osl k1 0 n mm Ab) ?_ zQj]at h3
        ·exact h3
        have hl:s1'<sl.length:=by
         rcases AH s1' sl.length with hl|hl
         ·exact hl
         simp only[evD,Bf,BA hl]at hs;cases hs
        simp only[evD,Bf,A2 hl,Option.getD_some]at hs;grind
       rw[hkl];exact next
      cases h
     cases h
    cases h
   cases h
  cases h
 cases h
end
end
section
open Go.RowKit
attribute [local irreducible] seqW awp zAf zAn zAd Weak updS zAx retL Pure Acts rP setP setQ cP nP fr
set_option maxRecDepth 4096
def Tr2(p:Nat)(ch:List Nat):Par:=⟨λf=>f==146||f==147||f==145,λ_ _=>AS,λk=>decide (k<p)&&!ch.contains k,λ_=>Ad,λt=>t==225||t==219⟩
theorem Tr2_ok(p:Nat)(ch:List Nat):zA7 AB (Tr2 p ch):=by intro t n f h;cases h
theorem Tr2_new(p:Nat)(ch:List Nat):∀k,p<=k->(Tr2 p ch).keep k=false:=λk hk=>by
 show(decide (k<p)&&!ch.contains k)=Ad;rw[decide_eq_false (by omega)];rfl
theorem zGt(p:Nat)(ch:List Nat):∀k,p+3<=k->(Tr2 p ch).keep k=false:=by grind [Tr2_new]
abbrev yCl(cb:Nat):D:= .clo (.func 135) [] [.own cb 0]
abbrev atsD(A:List (List Nat×List Rw)):D:= .row (A.flatMap atN) A.length
theorem zRr:∀n,zJ (AA n ⟨0,0,[]⟩)=repL n (vaC ⟨0,0,[]⟩):=λn=>by
 induction n with
 |zero=>rfl
 |succ n ih=>
  have:repL (n+1) (vaC ⟨0,0,[]⟩)=vaC ⟨0,0,[]⟩++repL n (vaC ⟨0,0,[]⟩):=by simp[repL,Cl]
  rw[this,<-ih,Cl];rfl
theorem co_set{k i:Nat}(h:i<k):setAt (rgD i++AA (k-i) (iD 0)) i [iD (i:Nat)]=rgD (i+1)++AA (k-(i+1)) (iD 0):=by
 show(rgD i++AA (k-i) (iD 0)).set i (iD (i:Nat))=_;have hl:(rgD i).length=i:=by simp
 rw[List.set_append_right _ _ (by omega),hl,Nat.sub_self,show k-i=k-(i+1)+1 by omega,Cl,List.set_cons_zero];simp_all [rgD,Bs,Cr]
theorem frz_args{st:List Bk}{k n l:Nat}{cs rs:List D}{b:Bool}(hk:st[k]?=Aq ⟨cs,3,1,Ab,Ad, .plain⟩)(hb:(⟨cs,3,1,Ab,Ad, .plain⟩:Bk).nob=Ab)(ht:(cs.drop 0).take n=cs):mapF (frz Ab st zAc) [.agg [iD (n:Nat), .row rs l], .osl k 0 n n b]=Aq ([.agg [iD (n:Nat), .row rs l], .row cs n],[k]):=by
 have h1:frz Ab st zAc (.agg [iD (n:Nat), .row rs l])=Aq (.agg [iD (n:Nat), .row rs l],[]):=rfl;have h2:frz Ab st zAc (.osl k 0 n n b)=Aq (.row cs n,[k]):=by
  unfold zAc;rw[frz];rw[hk];simp only[hb,if_true];rw[ht];rfl
 simp only[mapF,h1,h2];rfl
theorem setFz_app{st:List Bk}{k:Nat}{cs:List D}(h:st.length=k):zAz (st++[⟨cs,3,1,Ab,Ad, .plain⟩]) [k]=st++[⟨cs,3,1,Ab,Ab, .plain⟩]:=by
 subst h;unfold zAz;show(st++[_]).modify st.length _=_;apply Ba;grind
theorem kill1{st:List Bk}{k:Nat}{B b':Bk}(hk:k<st.length)(hB:zAk k B=B):((st++[B]).map (zAk k)).set k b'=(st.map (zAk k)).set k b'++[B]:=by
 grind
theorem zW1{m:Mk}{k:Nat}(h:k<m.p+4+m.n)(al:List Nat)(i:Nat):((al.map λi=>Ae (m.p+4+m.n+5*i+4) 0)++[Ae (m.p+4+m.n+5*i+4) 0]).map (zAi k)=(al++[i]).map λi=>Ae (m.p+4+m.n+5*i+4) 0:=by
 grind [D,zPc,zGi]
abbrev tmB(m:Mk)(i:Nat):Bk:=⟨[.own (m.p+4+m.n+5*i+4) 0],225,1,Ab,Ad, .sh⟩
theorem tm_kill{m:Mk}{k i:Nat}(h:k<m.p+4+m.n):zAk k (tmB m i)=tmB m i:=zA1 (by simp only[zX,refs,AP,beq_eq_false_iff_ne];omega)
def ixp(m:Mk)(a:Nat)(l:List Nat)(v:Nat):List Nat:=ats a m.vs v++if v∈l then[a]else[]
theorem ixp_nil(m:Mk)(a:Nat):ixp m a []=ats a m.vs:=funext λv=>by
 show ats a m.vs v++(if v∈([]:List Nat)then[a]else[])=_;rw[if_neg (by simp),BU]
theorem ixp_all(m:Mk)(a:Nat):ixp m a (m.vs a)=ats (a+1) m.vs:=funext λv=>by
 show ats a m.vs v++(if v∈m.vs a then[a]else[])=ats (a+1) m.vs v;unfold ats;rw[Bs,List.filter_append];congr 1;split
 ·rename_i h;simp[h]
 rename_i h;simp[h]
theorem ixp_succ(m:Mk)(a:Nat)(l:List Nat)(u:Nat)(hu:u∉l):(λw=>if w=u then ixp m a l u++[a]else ixp m a l w)=ixp m a (l++[u]):=by grind [ixp]
theorem ql_mj{m:Mk}{ix:Nat->List Nat}{al:List Nat}{c:Nat}(h:MOk m){v:Nat}(hv:v<m.n)(b:Bk):(((qlay m ix al c).map (zAk (m.p+4+v))).set (m.p+4+v) b)[m.p+2]?=Aq (joB m):=by
 have hcb:=h.cb;rw[Cg (by omega),Bp,ql_j,BT];congr 1;refine zA1 ?_;simp only[zX,refs,AP,BF,BE,beq_eq_false_iff_ne];omega
theorem hd_lt(m:Mk)(ix:Nat->List Nat)(v:Nat)(h:v<m.n):(((As m.n).map (ltP m ix)).drop v).headD .unk=ltP m ix v:=by
 simp_all
theorem ixp_len(m:Mk)(a:Nat)(l:List Nat)(v:Nat):(ixp m a l v).length<=a+1:=by
 grind [ixp,AN,ats,ats_len]
theorem ixp_lt(m:Mk)(a:Nat)(l:List Nat):∀v,∀i∈ixp m a l v,i<a+1:=λv i hi=>by
 unfold ixp at hi;rcases BN.1 hi with h|h
 ·have:=A_.1 (Ck.1 h).1
  omega
 split at h
 ·rw[By.1 h];omega
 cases h
theorem zRi{m:Mk}(hm:MOk m){st0 X:List Bk}(hp:st0.length=m.p)(hb:∀k,k<m.p->st0[k]?=Aq (m.base k))(hX:X=st0++[roB (AA m.n ⟨0,0,[]⟩),(⟨repL m.n [nlD],219,1,Ab,Ad, .sh⟩:Bk),joB m]):∀b∈X,namB (m.p+3) b:=λb hbX=>by
 rw[hX]at hbX;rcases BN.1 hbX with h|h
 ·obtain⟨k,hk,rfl⟩:=Ch h;have h1:=hb k (by omega);rw[A2 hk]at h1;rw[BI.inj h1];exact(hm.bs k (by omega)).imp id λh j hj=>h j (by omega)
 have hcb:=hm.cb;simp only[B8,Cv,or_false]at h;rcases h with rfl|rfl|rfl
 ·exact .inl rfl
 ·refine .inr λj _=>?_;show zX j (repL m.n [nlD])=Ad;rw[zE9];exact(show∀n,zX j (AA n nlD)=Ad from λn=>by
   induction n with
   |zero=>simp only[List.replicate_zero,zX]
   |succ n ih=>simp only[Cl,zX,refs,ih,AP]) _
 refine .inr λj hj=>?_;simp only[zX,refs,AP,BF,BE,beq_eq_false_iff_ne];omega
def sumS(its:List It):Nat->Nat
 |0=>0
 |i+1=>sumS its i+(its.getD i Af).s
theorem zTm{its:List It}{B:Nat}:∀{k:Nat},(∀i,i<k->(its.getD i Af).s<=B)->sumS its k<=k*B
 |0,_=>Bz _
 |k+1,h=>by
  have h1:=zTm (k:=k) λi hi=>h i (by omega);grind [sumS,BQ]
abbrev S1(m:Mk):Js:=extJ (ats m.A.length m.vs) m.n 0 (S0 m)
abbrev S2(m:Mk)(k:Nat):Js:={S1 m with s:=(S1 m).s+sumS (S1 m).its k}
theorem hd_pt(m:Mk){na i:Nat}(h:i<na):(((As na).map λi=>Ae (m.p+4+m.n+5*i+4) 0).drop i).headD .unk= .own (m.p+4+m.n+5*i+4) 0:=by
 simp_all
theorem lay_pt{m:Mk}{ch:List Nat}{yb:List (List Va)->Nat->Option Bk}(h:YbOk m ch yb)(S:Js):(lay (qL m ch yb) S)[m.p+3]?=Aq (ptB m (As m.A.length)):=by
 rw[zDw (by show m.p+3<m.p+4+m.n+5*m.A.length;omega)];unfold blk;rw[if_neg (show¬m.p+3=(qL m ch yb).jb from show¬m.p+3=m.p+2 by omega),if_neg (show¬m.p+3=(qL m ch yb).rb from show¬m.p+3=m.p by omega),zMp (λi hi=>by show m.p+4+m.n+5*i+4≠m.p+3;omega)];show Aq ((yb S.ys (m.p+3)).getD (qblk m _ _ (m.p+3)))=_;rw[zTg h S.ys (by omega)];grind [qblk]
abbrev q9_(x0:Mk):=Aj (Ax atN (Mk.A x0)) (Aa (Mk.A x0))
abbrev q10_(x0:Nat)(x1:Mk):=AU (An (x0*3) (Ax atN (Mk.A x1)))
abbrev q11_(x0:Nat)(x1:Mk):=AD (AK 3 (An (x0*3) (Ax atN (Mk.A x1))))
abbrev q12_:=Al [nl,iD 0,nl] 87 0 Ad Ad Ao
theorem run_k(m:Mk)(hm:MOk m)(ha:AOk m)(ch:List Nat)(yb:List (List Va)->Nat->Option Bk)(hy:YbOk m ch yb)(hR:∀a∈m.A,a.2≠[])(M K:Nat)(hM:∀a∈m.A,a.2.length+m.n<=M)(hY:YOk (qL m ch yb) K)(hK:(S1 m).ys.length<=K)(hC:(m.A.length+1)*(cE m.A.length M m.n)+1<=big)(st0:List Bk)(hp:st0.length=m.p)(hb:∀k,k<m.p->st0[k]?=Aq (m.base k)):Acts AB 134 [iD (m.n:Nat),atsD m.A,yCl m.cb] st0 ch (.tup [iD ((S2 m m.A.length).s:Nat),iD 0]) (lay (qL m ch yb) (S2 m m.A.length)):=by
 have hn:=ha.n;have hV:=ha.v;have hA:=ha.na;have hp9:=ha.p;have hl1:∀b,(st0++[b]).length=m.p+1:=λb=>by rw[AN,hp];rfl
 have hl2:∀b c,(st0++[b]++[c]).length=m.p+2:=λb c=>by rw[AN,hl1];rfl
 refine zAj (Tr2_ok m.p ch) mixed Tryz.func134 rfl (λk hk=>by
  by_cases h:k∈ch
  ·exact .inr h
  refine .inl ?_;show(decide (k<m.p)&&!ch.contains k)=Ab;rw[decide_eq_true (by omega)];simpa using h) ?_
 focus
  refine vA ?_;refine zAb [] [(6,iD 0),(7,iD 0)] ?_;refine zA<|vd [0,2,4,1,3,5,6,7] ?_;refine zA3 3 [(23,iD ↑(Mk.n m)),(25,iD ↑(Mk.n m)),(27,AG (Fn.func 135) [] [Ae (Mk.cb m) 0])] ?_;rotate_left
 refine zBc (Mk.p m) ((0:Int)<=(↑(Mk.n m):Int)/\(↑(Mk.n m):Int)<=(↑(Mk.n m):Int)/\(↑(32:Nat):Int)*(↑(Mk.n m):Int)<=(281474976710656:Int)/\(↑(Mk.n m):Int)<=(281474976710656:Int)/\0<3/\3=3) (Al (repL (Au (↑(Mk.n m):Int)) [iD 0,iD 0,q7_]) 64 3 Ab Ad<|kdOf<|zCs AB (Tr2 (Mk.p m) ch) 54) (Ag 0 0 (Au (↑(Mk.n m):Int)) (Au (↑(Mk.n m):Int)*3) Ab) hp ?_ (hp:=by omega);refine zBc (Mk.p m+1) ((0:Int)<=(↑(Mk.n m):Int)/\(↑(Mk.n m):Int)<=(↑(Mk.n m):Int)/\(↑(24:Nat):Int)*(↑(Mk.n m):Int)<=(281474976710656:Int)/\(↑(Mk.n m):Int)<=(281474976710656:Int)/\0<1/\1=1) (Al (repL (Au (↑(Mk.n m):Int)) [nl]) 219 1 Ab Ad<|kdOf<|zCs AB (Tr2 (Mk.p m) ch) 216) (Ag 0 0 (Au (↑(Mk.n m):Int)) (Au (↑(Mk.n m):Int)*1) Ab) (hl1 _) ?_ (hp:=by omega);focus
  refine zR 1 [] [] ((1=1/\1<=4/\1=1/\2<=4/\1=1/\4<=4/\True)/\Ab=Ab) [(28,AD [Ag (Mk.p m) 0 (Au (↑(Mk.n m):Int)) (Au (↑(Mk.n m):Int)*3) Ab,Ag (Mk.p m+1) 0 (Au (↑(Mk.n m):Int)) (Au (↑(Mk.n m):Int)*1) Ab,iD 0,AG (Fn.func 135) [] [Ae (Mk.cb m) 0]])] (by decide) ?_;refine zAl 28 (AD [Ag (Mk.p m) 0 (Au (↑(Mk.n m):Int)) (Au (↑(Mk.n m):Int)*3) Ab,Ag (Mk.p m+1) 0 (Au (↑(Mk.n m):Int)) (Au (↑(Mk.n m):Int)*1) Ab,iD 0,AG (Fn.func 135) [] [Ae (Mk.cb m) 0]]) (AD [Ag (Mk.p m) 0 (Mk.n m) (Mk.n m*3) Ab,Ag (Mk.p m+1) 0 (Mk.n m) (Mk.n m) Ab,iD 0,AG (Fn.func 135) [] [Ae (Mk.cb m) 0]]) (by simp(disch:=omega) only[AT,AR]) ?_;rotate_left
 refine zBc (Mk.p m+2) (True) (Al [Ag (Mk.p m) 0 (Mk.n m) (Mk.n m*3) Ab,Ag (Mk.p m+1) 0 (Mk.n m) (Mk.n m) Ab,iD 0,AG (Fn.func 135) [] [Ae (Mk.cb m) 0]] 218 0 Ad Ad Ao) (Ae 0 0) (hl2 _ _) ?_;focus
  refine zA3 1 [(8,Ae (Mk.p m+2) 0)] ?_;refine zAh ?_ (by kernel_rfl);refine zC ?_;rotate_left
 obtain⟨X,hX⟩:∃X,X=st0++[roB (AA m.n ⟨0,0,[]⟩),(⟨repL m.n [nlD],219,1,Ab,Ad, .sh⟩:Bk),joB m]:=⟨_,rfl⟩;have hXl:X.length=m.p+3:=by rw[hX,AN,hp];rfl
 have hXn:∀b∈X,namB (m.p+3) b:=zRi hm hp hb hX;refine next_st X ?_ ?_
 ·rw[hX,BC,BC];unfold roB;rw[zRr];exact congrArg (st0++·) (by kernel_rfl)
 have hac:∀a:List Nat×List Rw,(atN a).length=3:=λ_=>rfl;focus
  refine zAw<|zA<|vA ?_;refine zAb [0,2,23,24,25,26,27,28,29] [(30,(q9_ m)),(31,iD (Aa (Mk.A m):Int)),(32,iD 0)] ?_;refine zH ?_;rotate_left
 refine zK (λ(a:Nat)=>fr 124 [(1,atsD<|Mk.A m),(8,Ae (Mk.p m+2) 0),(30,(q9_ m)),(31,iD (Aa (Mk.A m):Int)),(32,iD a)]) (λ(a:Nat)=>X) (λ(a:Nat)=>m.A.length-a) (λ(a:Nat)=>a<=m.A.length) 0 ?_ ?_ ?_
 ·omega
 ·refine zAs [(1,1),(8,1),(30,1),(31,1),(32,1)] (atsD (Mk.A m)=atsD (Mk.A m)/\Ae (Mk.p m+2) 0=Ae (Mk.p m+2) 0/\Aj (Ax atN<|Mk.A m) (Aa<|Mk.A m)=Aj (Ax atN<|Mk.A m) (Aa<|Mk.A m)/\iD (Aa (Mk.A m):Int)=iD (Aa (Mk.A m):Int)/\iD 0=iD (↑(0:Nat):Int)) ⟨rfl,rfl,rfl,rfl,(by kernel_rfl)⟩
 intro a h1;rcases AH a m.A.length with h2|h2
 ·have hg2:=zCz hac m.A a h2;have hle:=zEv hac m.A a h2;have hne:=zDe hac (by decide) m.A (by omega);have ham:m.A.getD a Af∈m.A:=by rw[Bf,A2 h2];exact BP h2
  have hr1:=hR _ ham;obtain⟨hr2,hr3,hr4⟩:=ha.r _ ham;generalize m.A.getD a Af=x at*;have hlen:=zKe (x.1.length:Nat) (x.2.map rowV) x.2.length;have hpos:0<x.2.length:=List.length_pos_iff.2 hr1;focus
   refine vA ?_;refine zAb [] [(33,bD<|decide ((a:Int)<(Aa (Mk.A m):Int)))] ?_;refine zA<|vT ((a:Int)<(Aa (Mk.A m):Int))<|vKB<|vA ?_;refine zR 2 [] [] (ix ↑a (Aa (Mk.A m):Int) (Ax atN (Mk.A m)≠[])/\3<=Aa (An (a*3)<|Ax atN<|Mk.A m)) [(34,(q10_ a m)),(35,(q11_ a m))] ⟨⟨(by omega),⟨(by omega),(by assumption)⟩⟩,(by omega)⟩ ?_;refine zAl 35 (AD<|AK 3<|An (a*3)<|Ax atN<|Mk.A m) (AD<|atN x) (by simp(disch:=omega) only[hg2]) ?_;rotate_left
  refine zBc (Mk.p m+3) (True) (q12_) (Ae 0 0) hXl ?_;refine zB3 (q12_) (Mk.p m+3) (Ad=Ad/\Ab=Ab/\3=3/\3<=3) (Al [Aj (Ah (λ(v:Nat)=>iD v)<|Ak x)<|Aa<|Ak x,iD (Aa (Ak x):Int),Aj (Ah rowV<|Aw x)<|Aa<|Aw x] 87 0 Ad Ad Ao) (zAr hXl) ⟨(by kernel_rfl),⟨(by kernel_rfl),(by omega)⟩⟩ ?_;rw[zEg hXl];focus
   refine zAb [33,34,35] [] ?_;refine vA ?_;refine zA3 1 [(36,Ae (Mk.p m+3) 1)] ?_;rotate_left
  refine zAe (Al [Aj (Ah (λ(v:Nat)=>iD v)<|Ak x)<|Aa<|Ak x,iD (Aa (Ak x):Int),Aj (Ah rowV<|Aw x)<|Aa<|Aw x] 87 0 Ad Ad Ao) (Mk.p m+3) (AJ 2 2) (AD [iD (Aa (Ak x):Int),Aj (Ah rowV<|Aw x)<|Aa<|Aw x]) (zAr hXl) (by simp) ?_;focus
   refine zRj [AD [iD (Aa (Ak x):Int),Aj (Ah rowV<|Aw x)<|Aa<|Aw x]] (by exact hlen) ?_;refine zAb [10,36,37,38] [(39,bD ((Aa (Aw x):Int)==(0:Int)))] ?_;refine vEf ((Aa (Aw x):Int)) ((0:Int))<|zQ<|zD<|vN<|zB rfl ?_;refine zR 2 [] [] (i6 (↑a+1)) [(32,iD (↑a+1)),(40,iD (↑a+1))] (by omega) ?_;refine zAh ?_ (by kernel_rfl);refine zC ?_;rotate_left
  refine⟨a+1,h2,by omega,?_⟩;rw[zM3];refine zA5 (m.p+2<m.p+3/\True) hXl hXn (zGt _ _) ?_ ⟨by omega,trivial⟩;refine zAs [(1,1),(8,1),(30,1),(31,1),(32,1)] (atsD (Mk.A m)=atsD (Mk.A m)/\Ae (Mk.p m+2) 0=Ae (Mk.p m+2) 0/\Aj (Ax atN<|Mk.A m) (Aa<|Mk.A m)=Aj (Ax atN<|Mk.A m) (Aa<|Mk.A m)/\iD (Aa (Mk.A m):Int)=iD (Aa (Mk.A m):Int)/\iD (↑(a+1):Int)=iD (↑(a+1):Int)) ⟨rfl,rfl,rfl,rfl,rfl⟩
 obtain rfl:a=m.A.length:=by omega
 focus
  refine vA ?_;refine zAb [] [(33,bD<|decide ((Aa (Mk.A m):Int)<(Aa (Mk.A m):Int)))] ?_;refine zA<|vF ((Aa (Mk.A m):Int)<(Aa (Mk.A m):Int))<|vZ2<|vA ?_;refine zA3 1 [(11,nl)] ?_;refine zAh ?_ (by kernel_rfl);refine zC ?_;rotate_left
 rw[hX];refine zY8 m st0 11 hp hb (by kernel_rfl) [30,31,32,33] ([Uk,atsD m.A]++AA 6 Uk++[.own (m.p+2) 0,Uk,Uk,.osl (m.p+3) 0 0 0 Ab]++AA 112 Uk) (by kernel_rfl) ?_;focus
  refine zA<|vA ?_;refine zAb [0,1,2,3,4,5,9,10,12,19,21,23,24,25,26,27,28,29,30,31,32,33,34,35,36,37,38,39,40,103] [(41,(q9_ m)),(42,iD (Aa (Mk.A m):Int)),(43,iD 0)] ?_;refine zH ?_;rotate_left
 refine zK (λ(a:Nat)=>fr 124 [(8,Ae (Mk.p m+2) 0),(11,Ag (Mk.p m+3) 0 a a Ab),(22,Uk),(41,(q9_ m)),(42,iD (Aa (Mk.A m):Int)),(43,iD a),(102,Uk),(104,Uk),(105,Uk),(106,Uk),(107,Uk),(108,Uk),(109,Uk),(110,Uk),(111,Uk),(112,Uk),(113,Uk),(114,Uk),(115,Uk),(116,Uk),(117,Uk),(118,Uk),(119,Uk),(120,Uk),(121,Uk),(122,Uk),(123,Uk)]) (λ(a:Nat)=>qlay m (ats a m.vs) (As a) a) (λ(a:Nat)=>m.A.length-a) (λ(a:Nat)=>a<=m.A.length) 0 ?_ ?_ ?_
 ·omega
 ·rw[show ats 0 m.vs=λ_=>[]from rfl,show As 0=[]from rfl];refine zAs [(8,1),(11,1),(22,1),(41,1),(42,1),(43,1),(102,1),(104,1),(105,1),(106,1),(107,1),(108,1),(109,1),(110,1),(111,1),(112,1),(113,1),(114,1),(115,1),(116,1),(117,1),(118,1),(119,1),(120,1),(121,1),(122,1),(123,1)] (Ae (Mk.p m+2) 0=Ae (Mk.p m+2) 0/\Ag (Mk.p m+3) 0 0 0 Ab=Ag (Mk.p m+3) 0 0 0 Ab/\Uk=Uk/\Aj (Ax atN<|Mk.A m) (Aa<|Mk.A m)=Aj (Ax atN<|Mk.A m) (Aa<|Mk.A m)/\iD (Aa (Mk.A m):Int)=iD (Aa (Mk.A m):Int)/\iD 0=iD (↑(0:Nat):Int)/\Uk=Uk/\Uk=Uk/\Uk=Uk/\Uk=Uk/\Uk=Uk/\Uk=Uk/\Uk=Uk/\Uk=Uk/\Uk=Uk/\Uk=Uk/\Uk=Uk/\Uk=Uk/\Uk=Uk/\Uk=Uk/\Uk=Uk/\Uk=Uk/\Uk=Uk/\Uk=Uk/\Uk=Uk/\Uk=Uk/\Uk=Uk) ⟨rfl,rfl,rfl,rfl,rfl,(by kernel_rfl),rfl,rfl,rfl,rfl,rfl,rfl,rfl,rfl,rfl,rfl,rfl,rfl,rfl,rfl,rfl,rfl,rfl,rfl,rfl,rfl,rfl⟩
 intro a h1;rcases AH a m.A.length with h2|h2
 ·have hg2:=zCz hac m.A a h2;have hle:=zEv hac m.A a h2;have hne:=zDe hac (by decide) m.A (by omega);have ham:m.A.getD a Af∈m.A:=by rw[Bf,A2 h2];exact BP h2
  have hr1:=hR _ ham;obtain⟨hr2,hr3,hr4⟩:=ha.r _ ham;have hql:(qlay m (ats a m.vs) (As a) a).length=m.p+4+m.n+5*a:=zKh;have hql1:∀b,(qlay m (ats a m.vs) (As a) a++[b]).length=m.p+4+m.n+5*a+1:=λb=>by rw[AN,hql];rfl
  have hvp:=hV.asc a h2;have hvt:=hV.lt a h2;have hvl:(m.A.getD a Af).1.length<=32:=ha.vl h2;have hix:=ixp_all m a;change (m.A.getD a Af).1.Pairwise _ at hvp;change ∀w∈(m.A.getD a Af).1,w<m.n at hvt;change ixp m a (m.A.getD a Af).1=_ at hix;generalize hgx:m.A.getD a Af=x at hg2 hne hle ham hr1 hr2 hr3 hr4 hvl hvp hvt hix⊢;focus
   refine vA ?_;refine zAb [] [(44,bD<|decide ((a:Int)<(Aa (Mk.A m):Int)))] ?_;refine zA<|vT ((a:Int)<(Aa (Mk.A m):Int))<|vKB<|vA ?_;refine zR 2 [] [] (ix ↑a (Aa (Mk.A m):Int) (Ax atN (Mk.A m)≠[])/\3<=Aa (An (a*3)<|Ax atN<|Mk.A m)) [(45,(q10_ a m)),(46,(q11_ a m))] ⟨⟨(by omega),⟨(by omega),(by assumption)⟩⟩,(by omega)⟩ ?_;refine zAl 46 (AD<|AK 3<|An (a*3)<|Ax atN<|Mk.A m) (AD<|atN x) (by simp(disch:=omega) only[hg2]) ?_;rotate_left
  refine zBc (Mk.p m+4+Mk.n m+5*a) (True) (q12_) (Ae 0 0) hql ?_;refine zB3 (q12_) (Mk.p m+4+Mk.n m+5*a) (Ad=Ad/\Ab=Ab/\3=3/\3<=3) (Al [Aj (Ah (λ(v:Nat)=>iD v)<|Ak x)<|Aa<|Ak x,iD (Aa (Ak x):Int),Aj (Ah rowV<|Aw x)<|Aa<|Aw x] 87 0 Ad Ad Ao) (zAr hql) ⟨(by kernel_rfl),⟨(by kernel_rfl),(by omega)⟩⟩ ?_;rw[zEg hql];focus
   refine zAb [44,45,46] [] ?_;refine vA ?_;refine zA3 1 [(47,Ae (Mk.p m+4+Mk.n m+5*a) 0)] ?_;rotate_left
  refine zAe (Al [Aj (Ah (λ(v:Nat)=>iD v)<|Ak x)<|Aa<|Ak x,iD (Aa (Ak x):Int),Aj (Ah rowV<|Aw x)<|Aa<|Aw x] 87 0 Ad Ad Ao) (Mk.p m+4+Mk.n m+5*a) (AJ 1 3) (Aj (Ah (λ(v:Nat)=>iD v)<|Ak x)<|Aa<|Ak x) (zAr hql) (by simp) ?_;focus
   refine zA3 1 [(49,iD (Aa (Ak x):Int))] ?_;rotate_left
  refine zBc (Mk.p m+4+Mk.n m+5*a+1) ((0:Int)<=(Aa (Ak x):Int)/\(Aa (Ak x):Int)<=(Aa (Ak x):Int)/\(↑(8:Nat):Int)*(Aa (Ak x):Int)<=(281474976710656:Int)/\(Aa (Ak x):Int)<=(281474976710656:Int)/\0<1/\1=1) (Al (repL (Au (Aa (Ak x):Int)) [iD 0]) 3 1 Ab Ad<|kdOf<|zCs AB (Tr2 (Mk.p m) ch) 23) (Ag 0 0 (Au (Aa (Ak x):Int)) (Au (Aa (Ak x):Int)*1) Ab) (hql1 _) ?_ (hp:=by omega);refine zFy (qlay m (ats a m.vs) (As a) a++[acB x]++[⟨rgD 0++AA (x.1.length-0) (iD 0),3,1,Ab,Ad,.plain⟩]) ?_ ?_
  ·rw[zE9];rfl
  focus
   refine zA3 1 [(14,Ag (Mk.p m+4+Mk.n m+5*a+1) 0 (Au (Aa (Ak x):Int)) (Au (Aa (Ak x):Int)*1) Ab)] ?_;refine zAl 14 (Ag (Mk.p m+4+Mk.n m+5*a+1) 0 (Au (Aa (Ak x):Int)) (Au (Aa (Ak x):Int)*1) Ab) (Ag (Mk.p m+4+Mk.n m+5*a+1) 0 (Aa<|Ak x) (Aa<|Ak x) Ab) (by simp(disch:=omega) only[AT,AR]) ?_;refine zAb [47,48,49,50] [] ?_;refine zA<|vA ?_;refine zAb [51] [(52,iD (Aa (Ak x):Int)),(53,iD 0)] ?_;refine zH ?_;rotate_left
  refine zK (λ(i:Nat)=>fr 124 [(8,Ae (Mk.p m+2) 0),(11,Ag (Mk.p m+3) 0 a a Ab),(13,Ae (Mk.p m+4+Mk.n m+5*a) 0),(14,Ag (Mk.p m+4+Mk.n m+5*a+1) 0 (Aa<|Ak x) (Aa<|Ak x) Ab),(22,Uk),(41,(q9_ m)),(42,iD (Aa (Mk.A m):Int)),(43,iD a),(52,iD (Aa (Ak x):Int)),(53,iD i),(102,Uk),(104,Uk),(105,Uk),(106,Uk),(107,Uk),(108,Uk),(109,Uk),(110,Uk),(111,Uk),(112,Uk),(113,Uk),(114,Uk),(115,Uk),(116,Uk),(117,Uk),(118,Uk),(119,Uk),(120,Uk),(121,Uk),(122,Uk),(123,Uk)]) (λ(i:Nat)=>qlay m (ats a m.vs) (As a) a++[acB x]++[⟨rgD i++AA (x.1.length-i) (iD 0),3,1,Ab,Ad,.plain⟩]) (λ(i:Nat)=>x.1.length-i) (λ(i:Nat)=>i<=x.1.length) 0 ?_ ?_ ?_
  ·omega
  ·refine zAs [(8,1),(11,1),(13,1),(14,1),(22,1),(41,1),(42,1),(43,1),(52,1),(53,1),(102,1),(104,1),(105,1),(106,1),(107,1),(108,1),(109,1),(110,1),(111,1),(112,1),(113,1),(114,1),(115,1),(116,1),(117,1),(118,1),(119,1),(120,1),(121,1),(122,1),(123,1)] (Ae (Mk.p m+2) 0=Ae (Mk.p m+2) 0/\Ag (Mk.p m+3) 0 a a Ab=Ag (Mk.p m+3) 0 a a Ab/\Ae (Mk.p m+4+Mk.n m+5*a) 0=Ae (Mk.p m+4+Mk.n m+5*a) 0/\Ag (Mk.p m+4+Mk.n m+5*a+1) 0 (Aa<|Ak x) (Aa<|Ak x) Ab=Ag (Mk.p m+4+Mk.n m+5*a+1) 0 (Aa<|Ak x) (Aa<|Ak x) Ab/\Uk=Uk/\Aj (Ax atN<|Mk.A m) (Aa<|Mk.A m)=Aj (Ax atN<|Mk.A m) (Aa<|Mk.A m)/\iD (Aa (Mk.A m):Int)=iD (Aa (Mk.A m):Int)/\iD (a:Int)=iD (a:Int)/\iD (Aa (Ak x):Int)=iD (Aa (Ak x):Int)/\iD 0=iD (↑(0:Nat):Int)/\Uk=Uk/\Uk=Uk/\Uk=Uk/\Uk=Uk/\Uk=Uk/\Uk=Uk/\Uk=Uk/\Uk=Uk/\Uk=Uk/\Uk=Uk/\Uk=Uk/\Uk=Uk/\Uk=Uk/\Uk=Uk/\Uk=Uk/\Uk=Uk/\Uk=Uk/\Uk=Uk/\Uk=Uk/\Uk=Uk/\Uk=Uk) ⟨rfl,rfl,rfl,rfl,rfl,rfl,rfl,rfl,rfl,(by kernel_rfl),rfl,rfl,rfl,rfl,rfl,rfl,rfl,rfl,rfl,rfl,rfl,rfl,rfl,rfl,rfl,rfl,rfl,rfl,rfl,rfl,rfl⟩
  intro i h3;rcases AH i x.1.length with h4|h4
  ·have hl2:(qlay m (ats a m.vs) (As a) a++[acB x]).length=m.p+4+m.n+5*a+1:=hql1 _;focus
    refine vA ?_;refine zAb [] [(54,bD<|decide ((i:Int)<(Aa (Ak x):Int)))] ?_;refine zA<|vT ((i:Int)<(Aa (Ak x):Int))<|vKB<|vA ?_;refine zAb [54,55] [(15,iD i)] ?_;refine zB rfl ?_;refine zR 4 [] [] ((0:Int)<=(i:Int)/\(i:Int)<(Aa (Ak x):Int)) [(56,Ag (Mk.p m+4+Mk.n m+5*a+1) 0 (Aa<|Ak x) (Aa<|Ak x) Ab),(57,iD i),(58,iD i),(59,Ae (Mk.p m+4+Mk.n m+5*a+1) (0+Au (i:Int)*1))] (by omega) ?_;refine zAl 59 (Ae (Mk.p m+4+Mk.n m+5*a+1) (0+Au (i:Int)*1)) (Ae (Mk.p m+4+Mk.n m+5*a+1) i) (by simp(disch:=omega) only[AT,AR,Bh]) ?_;rotate_left
   refine st_puta (Al (rgD i++AA (Aa (Ak x)-i) (iD 0)) 3 1 Ab Ad Ao) (Mk.p m+4+Mk.n m+5*a+1) (Ad=Ad/\Ab=Ab/\1=1/\i+1<=Aa (rgD i++AA (Aa (Ak x)-i) (iD 0))) (Al (setAt (rgD i++AA (Aa (Ak x)-i) (iD 0)) i<|cellsOf<|iD i) 3 1 Ab Ad Ao) (by kernel_rfl) (zAr hl2) ⟨(by kernel_rfl),⟨(by kernel_rfl),⟨(by kernel_rfl),(by(simp;omega))⟩⟩⟩ ?_;rw[zEg hl2];refine zFy (qlay m (ats a m.vs) (As a) a++[acB x]++[⟨rgD (i+1)++AA (x.1.length-(i+1)) (iD 0),3,1,Ab,Ad,.plain⟩]) ?_ ?_
   ·exact congrArg (λcs=>qlay m (ats a m.vs) (As a) a++[acB x]++[(⟨cs,3,1,Ab,Ad, .plain⟩:Bk)]) (co_set h4)
   focus
    refine zAh ?_ (by kernel_rfl);refine zD<|vN<|zB rfl ?_;refine zR 2 [] [] (i6 (↑i+1)) [(53,iD (↑i+1)),(60,iD (↑i+1))] (by omega) ?_;refine zAh ?_ (by kernel_rfl);refine zC ?_;rotate_left
   refine⟨i+1,by omega,by omega,?_⟩;refine zAs [(8,1),(11,1),(13,1),(14,1),(22,1),(41,1),(42,1),(43,1),(52,1),(53,1),(102,1),(104,1),(105,1),(106,1),(107,1),(108,1),(109,1),(110,1),(111,1),(112,1),(113,1),(114,1),(115,1),(116,1),(117,1),(118,1),(119,1),(120,1),(121,1),(122,1),(123,1)] (Ae (Mk.p m+2) 0=Ae (Mk.p m+2) 0/\Ag (Mk.p m+3) 0 a a Ab=Ag (Mk.p m+3) 0 a a Ab/\Ae (Mk.p m+4+Mk.n m+5*a) 0=Ae (Mk.p m+4+Mk.n m+5*a) 0/\Ag (Mk.p m+4+Mk.n m+5*a+1) 0 (Aa<|Ak x) (Aa<|Ak x) Ab=Ag (Mk.p m+4+Mk.n m+5*a+1) 0 (Aa<|Ak x) (Aa<|Ak x) Ab/\Uk=Uk/\Aj (Ax atN<|Mk.A m) (Aa<|Mk.A m)=Aj (Ax atN<|Mk.A m) (Aa<|Mk.A m)/\iD (Aa (Mk.A m):Int)=iD (Aa (Mk.A m):Int)/\iD (a:Int)=iD (a:Int)/\iD (Aa (Ak x):Int)=iD (Aa (Ak x):Int)/\iD ((i:Int)+(1:Int))=iD (↑(i+1):Int)/\Uk=Uk/\Uk=Uk/\Uk=Uk/\Uk=Uk/\Uk=Uk/\Uk=Uk/\Uk=Uk/\Uk=Uk/\Uk=Uk/\Uk=Uk/\Uk=Uk/\Uk=Uk/\Uk=Uk/\Uk=Uk/\Uk=Uk/\Uk=Uk/\Uk=Uk/\Uk=Uk/\Uk=Uk/\Uk=Uk/\Uk=Uk) ⟨rfl,rfl,rfl,rfl,rfl,rfl,rfl,rfl,rfl,(by kernel_rfl),rfl,rfl,rfl,rfl,rfl,rfl,rfl,rfl,rfl,rfl,rfl,rfl,rfl,rfl,rfl,rfl,rfl,rfl,rfl,rfl,rfl⟩
  obtain rfl:i=x.1.length:=by omega
  rw[Nat.sub_self,List.replicate_zero,BU];have hl1:=hql1 (acB x);focus
   refine vA ?_;refine zAb [] [(54,bD<|decide ((Aa (Ak x):Int)<(Aa (Ak x):Int)))] ?_;refine zA<|vF ((Aa (Ak x):Int)<(Aa (Ak x):Int))<|vZ2<|vA ?_;refine zA3 1 [(62,Ae (Mk.p m+4+Mk.n m+5*a) 1)] ?_;rotate_left
  have htn:=trieNew_c x.1.length x.2 (by omega) hr2 hr3 hr4;refine zAe (Al [Aj (Ah (λ(v:Nat)=>iD v)<|Ak x)<|Aa<|Ak x,iD (Aa (Ak x):Int),Aj (Ah rowV<|Aw x)<|Aa<|Aw x] 87 0 Ad Ad Ao) (Mk.p m+4+Mk.n m+5*a) (AJ 2 2) (AD [iD (Aa (Ak x):Int),Aj (Ah rowV<|Aw x)<|Aa<|Aw x]) (zA2<|zAr hql) (by simp) ?_;focus
   refine zA3 1 [(64,Ag (Mk.p m+4+Mk.n m+5*a+1) 0 (Aa<|Ak x) (Aa<|Ak x) Ab)] ?_;rotate_left
  refine st_callo 144 [.agg [iD (x.1.length:Nat),.row (x.2.map rowV) x.2.length],.osl (m.p+4+m.n+5*a+1) 0 x.1.length x.1.length Ab] _ [m.p+4+m.n+5*a+1] (by kernel_rfl) (frz_args (zAr hl1) rfl<|Bq (by simp)) htn ?_;rw[setFz_app hl1];have hl2:(qlay m (ats a m.vs) (As a) a++[acB x]++[coB x.1.length]).length=m.p+4+m.n+5*a+2:=by rw[AN,hl1];rfl
  have hl3:(qlay m (ats a m.vs) (As a) a++[acB x]++[coB x.1.length]++[teB (zB6 x.1.length x.2)]).length=m.p+4+m.n+5*a+3:=by rw[AN,hl2];rfl
  have hit:=(iter_a (zB6 x.1.length x.2)).new0 (st:=qlay m (ats a m.vs) (As a) a++[acB x]++[coB x.1.length]++[teB (zB6 x.1.length x.2)]) (λI w β vs h=>h) (λb hb=>by
   simp only[B8,Cv,or_false]at hb;rcases hb with rfl|rfl
   ·exact .inr λk=>by simp only[zX,refs,AP]
   exact zBa (zBg _))
  rw[hl3]at hit;change Acts _ _ _ _ _ (.own (m.p+4+m.n+5*a+4) 0) _ at hit;focus
   refine zR 3 [] [] (0<2/\1<2) [(61,D.tup [AD [Aj (Ax lvC<|zB6 (Aa<|Ak x)<|Aw x)<|Aa<|zB6 (Aa<|Ak x)<|Aw x],iD 0]),(66,AD [Aj (Ax lvC<|zB6 (Aa<|Ak x)<|Aw x)<|Aa<|zB6 (Aa<|Ak x)<|Aw x]),(67,iD 0)] (by omega) ?_;rotate_left
  refine zBc (Mk.p m+4+Mk.n m+5*a+2) (True) (q8_) (Ae 0 0) hl2 ?_;refine zB3 (q8_) (Mk.p m+4+Mk.n m+5*a+2) (Ad=Ad/\Ab=Ab/\1=1/\1<=1) (Al [Aj (Ax lvC<|zB6 (Aa<|Ak x)<|Aw x)<|Aa<|zB6 (Aa<|Ak x)<|Aw x] 222 0 Ad Ad Ao) (zAr hl2) ⟨(by kernel_rfl),⟨(by kernel_rfl),(by omega)⟩⟩ ?_;rw[zEg hl2];focus
   refine zAb [14,52,53,54,61,62,63,64,65,66,67] [(17,iD 0)] ?_;refine zA<|vA ?_;refine zAb [68] [(69,bD Ad)] ?_;refine vf<|vK<|vA ?_;rotate_left
  refine zAe (Al [Aj (Ax lvC<|zB6 (Aa<|Ak x)<|Aw x)<|Aa<|zB6 (Aa<|Ak x)<|Aw x] 222 0 Ad Ad Ao) (Mk.p m+4+Mk.n m+5*a+2) (AJ 1 1) (AD [Aj (Ax lvC<|zB6 (Aa<|Ak x)<|Aw x)<|Aa<|zB6 (Aa<|Ak x)<|Aw x]) (zAr hl2) (by simp) ?_;focus
   refine zY [] [] [AD [Aj (Ax lvC<|zB6 (Aa<|Ak x)<|Aw x)<|Aa<|zB6 (Aa<|Ak x)<|Aw x]] [AD [Aj (Ax lvC<|zB6 (Aa<|Ak x)<|Aw x)<|Aa<|zB6 (Aa<|Ak x)<|Aw x]] (AZ _) (by exact hit) ?_;refine zAb [16,17,69,71,72] [(18,Ae (Mk.p m+4+Mk.n m+5*a+4) 0)] ?_;refine vA ?_;refine zA3 2 [(73,Ag (Mk.p m+3) 0 a a Ab),(74,Ae (Mk.p m+4+Mk.n m+5*a+4) 0)] ?_;rotate_left
  refine zFy (qlay m (ats a m.vs) (As a) (a+1)) ?_ ?_
  ·grind [ql_snoc]
  have hqn:∀ix al,(qlay m ix al (a+1)).length=m.p+4+m.n+5*(a+1):=λ_ _=>zKh;refine zBc (Mk.p m+4+Mk.n m+5*(a+1)) ((1=1/\1<=1/\True)/\0<1/\1=1/\1<=16777216/\1<=9223372036854775807) (Al [Ae (Mk.p m+4+Mk.n m+5*a+4) 0] 225 1 Ab Ad AW) (Ag 0 0 1 1 Ab) (hqn _ _) ?_ (hp:=⟨⟨(by kernel_rfl),⟨(by omega),trivial⟩⟩,(by omega)⟩);refine st_appo1 (ptB m<|As a) (tmB m a) 73 (m.p+3) (m.p+4+m.n+5*(a+1)) (Ab=Ab/\(ptB m<|As a).cells.length=a*1/\a=a*1/\225=225/\1=1/\1=1/\0<1/\0<8/\225=225/\(a+1)*8<=140737488355328/\1=1/\Ad=Ad/\(zCs AB (Tr2 m.p ch) 219=Ad\/Ab=Ab)) (m.p+2≠m.p+3/\m.p+4+m.n+5*a≠m.p+3/\m.p+4+m.n+5*a+4≠m.p+3/\m.p+4+m.n+5*a+4≠m.p+3/\m.p+4+m.n+5*(a+1)≠m.p+3/\True) ⟨(((As a).map λi=>Ae (m.p+4+m.n+5*i+4) 0)++[Ae (m.p+4+m.n+5*a+4) 0]).map<|zAi (m.p+3),225,1,Ab,Ad,.sh⟩ (.osl (m.p+3) 0 (a+1) ((a+1)*1) Ab) 11 (.osl (m.p+3) 0 a a Ab) (by kernel_rfl) (zA2 ql_al) (zAr<|hqn _ _) ⟨rfl,by simp,by omega,rfl,rfl,rfl,by decide,by decide,rfl,by omega,rfl,rfl,.inr rfl⟩ (by kernel_rfl) zQj (by kernel_rfl) ⟨by omega,by omega,by omega,by omega,by omega,trivial⟩ (zGt _ _ _<|A0 _) ?_;rw[kill1 (k:=m.p+3) (by rw[hqn];omega) (tm_kill (by omega)),zW1 (k:=m.p+3) (by omega)];refine zFy (qlay m (ats a m.vs) (As (a+1)) (a+1)++[tmB m a]) ?_ ?_
  ·grind [ql_all,As,Bs]
  focus
   refine zA3 1 [(11,Ag (Mk.p m+3) 0 (a+1) ((a+1)*1) Ab)] ?_;refine zAl 11 (Ag (Mk.p m+3) 0 (a+1) ((a+1)*1) Ab) (Ag (Mk.p m+3) 0 (a+1) (a+1) Ab) (by simp(disch:=omega) only[AR]) ?_;refine zAh ?_ (by kernel_rfl);refine zC ?_;rotate_left
  have hrl:∀i∈As (a+1),i<a+1:=λi hi=>A_.1 hi;refine zF4 [74,75,76] (AA 8 Uk++[.own (m.p+2) 0,Uk,Uk,.osl (m.p+3) 0 (a+1) (a+1) Ab,Uk,.own (m.p+4+m.n+5*a) 0]++AA 4 Uk++[.own (m.p+4+m.n+5*a+4) 0]++AA 22 Uk++[atsD m.A,iD (m.A.length:Nat),iD (a:Nat)]++AA 80 Uk) (m.p+2<m.p+4+m.n+5*(a+1)/\m.p+3<m.p+4+m.n+5*(a+1)/\m.p+4+m.n+5*a<m.p+4+m.n+5*(a+1)/\m.p+4+m.n+5*a+4<m.p+4+m.n+5*(a+1)/\True) (hqn _ _) (ql_nam hm hrl (by rw[<-ixp_nil];exact ixp_lt m a [])) (λk hk=>zGt _ _ _ (by omega)) (by kernel_rfl) (by kernel_rfl) ⟨by omega,by omega,by omega,by omega,trivial⟩ ?_;have hqa:∀ix al,(qlay m ix al (a+1))[m.p+4+m.n+5*a]?=Aq (acB x):=λix al=>by
   rw[ql_atm (by omega)];simp_all [qatm]
  focus
   refine vA ?_;refine zA3 1 [(77,Ae (Mk.p m+4+Mk.n m+5*a) 0)] ?_;rotate_left
  refine zAe (Al [Aj (Ah (λ(v:Nat)=>iD v)<|Ak x)<|Aa<|Ak x,iD (Aa (Ak x):Int),Aj (Ah rowV<|Aw x)<|Aa<|Aw x] 87 0 Ad Ad Ao) (Mk.p m+4+Mk.n m+5*a) (AJ 1 3) (Aj (Ah (λ(v:Nat)=>iD v)<|Ak x)<|Aa<|Ak x) (hqa _ _) (by simp) ?_;focus
   refine zAb [0,1,2,3,4,5,9,10,12,13,14,15,16,17,19,21,23,24,25,26,27,28,29,30,31,32,33,34,35,36,37,38,39,40,44,45,46,47,48,49,50,51,52,53,54,55,56,57,58,59,60,61,62,63,64,65,66,67,68,69,70,71,72,73,74,75,76,77,103] [(79,iD (Aa (Ak x):Int)),(80,iD 0)] ?_;refine zH ?_;rotate_left
  refine zK (λ(t:Nat)=>fr 124 [(6,Uk),(7,Uk),(8,Ae (Mk.p m+2) 0),(11,Ag (Mk.p m+3) 0 (a+1) (a+1) Ab),(18,Ae (Mk.p m+4+Mk.n m+5*a+4) 0),(22,Uk),(41,atsD<|Mk.A m),(42,iD (Aa (Mk.A m):Int)),(43,iD a),(78,Aj (Ah (λ(v:Nat)=>iD v)<|Ak x)<|Aa<|Ak x),(79,iD (Aa (Ak x):Int)),(80,iD t),(101,Uk),(102,Uk),(104,Uk),(105,Uk),(106,Uk),(107,Uk),(108,Uk),(109,Uk),(110,Uk),(111,Uk),(112,Uk),(113,Uk),(114,Uk),(115,Uk),(116,Uk),(117,Uk),(118,Uk),(119,Uk),(120,Uk),(121,Uk),(122,Uk),(123,Uk)]) (λ(t:Nat)=>qlay m (ixp m a<|x.1.take t) (As (a+1)) (a+1)) (λ(t:Nat)=>x.1.length-t) (λ(t:Nat)=>t<=x.1.length) 0 ?_ ?_ ?_
  ·omega
  ·rw[List.take_zero,ixp_nil];refine zAs [(6,1),(7,1),(8,1),(11,1),(18,1),(22,1),(41,1),(42,1),(43,1),(78,1),(79,1),(80,1),(101,1),(102,1),(104,1),(105,1),(106,1),(107,1),(108,1),(109,1),(110,1),(111,1),(112,1),(113,1),(114,1),(115,1),(116,1),(117,1),(118,1),(119,1),(120,1),(121,1),(122,1),(123,1)] (Uk=Uk/\Uk=Uk/\Ae (Mk.p m+2) 0=Ae (Mk.p m+2) 0/\Ag (Mk.p m+3) 0 (a+1) (a+1) Ab=Ag (Mk.p m+3) 0 (a+1) (a+1) Ab/\Ae (Mk.p m+4+Mk.n m+5*a+4) 0=Ae (Mk.p m+4+Mk.n m+5*a+4) 0/\Uk=Uk/\atsD (Mk.A m)=atsD (Mk.A m)/\iD (Aa (Mk.A m):Int)=iD (Aa (Mk.A m):Int)/\iD (a:Int)=iD (a:Int)/\Aj (Ah (λ(v:Nat)=>iD (v:Int))<|Ak x) (Aa<|Ak x)=Aj (Ah (λ(v:Nat)=>iD (v:Int))<|Ak x) (Aa<|Ak x)/\iD (Aa (Ak x):Int)=iD (Aa (Ak x):Int)/\iD 0=iD (↑(0:Nat):Int)/\Uk=Uk/\Uk=Uk/\Uk=Uk/\Uk=Uk/\Uk=Uk/\Uk=Uk/\Uk=Uk/\Uk=Uk/\Uk=Uk/\Uk=Uk/\Uk=Uk/\Uk=Uk/\Uk=Uk/\Uk=Uk/\Uk=Uk/\Uk=Uk/\Uk=Uk/\Uk=Uk/\Uk=Uk/\Uk=Uk/\Uk=Uk/\Uk=Uk) ⟨rfl,rfl,rfl,rfl,rfl,rfl,rfl,rfl,rfl,rfl,rfl,(by kernel_rfl),rfl,rfl,rfl,rfl,rfl,rfl,rfl,rfl,rfl,rfl,rfl,rfl,rfl,rfl,rfl,rfl,rfl,rfl,rfl,rfl,rfl,rfl⟩
  intro t ht;rcases AH t x.1.length with ht2|ht2
  ·have hhd:=zBf (λv:Nat=>iD (v:Nat)) x.1 0 t ht2;have hne1:(x.1.map λv=>iD (v:Nat))≠[]:=zAm (by omega);have htk:=zBs x.1 0 t ht2;have hun:x.1.getD t 0∉x.1.take t:=zFv (hvp.imp λh=>Nat.ne_of_lt h) ht2;have hum:x.1.getD t 0<m.n:=hvt _ (by rw[Bf,A2 ht2];exact BP ht2);have hsu:=ixp_succ m a (x.1.take t) (x.1.getD t 0) hun;rw[<-htk]at hsu;have hil:=ixp_len m a (x.1.take t) (x.1.getD t 0);generalize x.1.getD t 0=u at*;generalize hix0:ixp m a (x.1.take t)=ix at*;focus
    refine vA ?_;refine zAb [] [(81,bD<|decide ((t:Int)<(Aa (Ak x):Int)))] ?_;refine zA<|vT ((t:Int)<(Aa (Ak x):Int))<|vKB<|vA ?_;refine zR 1 [] [] (YtjcofbkhoeockaaGreatDoor.ix ↑t (Aa (Ak x):Int) (Ah (λ(v:Nat)=>iD v) (Ak x)≠[])) [(82,AU<|An (Au (t:Int)*1)<|Ah (λ(v:Nat)=>iD v)<|Ak x)] ⟨(by omega),⟨(by omega),(by assumption)⟩⟩ ?_;refine zAl 82 (AU<|An (Au (t:Int)*1)<|Ah (λ(v:Nat)=>iD v)<|Ak x) (AU<|An t<|Ah (λ(v:Nat)=>iD v)<|Ak x) (by simp(disch:=omega) only[AT,AR]) ?_;refine zR 1 [] [] (0<Aa (An t<|Ah (λ(v:Nat)=>iD v)<|Ak x)) [(83,AO (An t<|Ah (λ(v:Nat)=>iD v)<|Ak x) Uk)] (by(simp;omega)) ?_;refine zAl 83 (AO (An t<|Ah (λ(v:Nat)=>iD v)<|Ak x) Uk) (iD u) (by simp(disch:=omega) only[hhd]) ?_;refine zAb [81,82,83] [(20,iD u)] ?_;refine zA6 [0,1,2,4,5,6,7,9,12,3,8,10,11,13] [(14,[(3,100000)],[15,16])] rfl ?_;refine zR 9 [] [] (True/\True) [(84,Ae (Mk.p m+2) 0),(85,Ae (Mk.p m+2) 0),(86,Ae (Mk.p m+2) 1),(88,iD u),(89,Ae (Mk.p m+2) 0),(90,Ae (Mk.p m+2) 0),(91,Ae (Mk.p m+2) 1),(93,iD u),(96,Ae (Mk.p m+4+Mk.n m+5*a+4) 0)] (by decide) ?_;rotate_left
   refine zAe (Al [Ag (Mk.p m) 0 (Mk.n m) (Mk.n m*3) Ab,Ag (Mk.p m+1) 0 (Mk.n m) (Mk.n m) Ab,iD ↑(0:Nat),AG (Fn.func 135) [] [Ae (Mk.cb m) 0]] 218 0 Ad Ad Ao) (Mk.p m+2) (AJ 1 3) (Ag (Mk.p m+1) 0 (Mk.n m) (Mk.n m) Ab) ql_j (by simp) ?_;refine zAe (Al [Ag (Mk.p m) 0 (Mk.n m) (Mk.n m*3) Ab,Ag (Mk.p m+1) 0 (Mk.n m) (Mk.n m) Ab,iD ↑(0:Nat),AG (Fn.func 135) [] [Ae (Mk.cb m) 0]] 218 0 Ad Ad Ao) (Mk.p m+2) (AJ 1 3) (Ag (Mk.p m+1) 0 (Mk.n m) (Mk.n m) Ab) ql_j (by simp) ?_;focus
    refine zR 1 [] [] ((0:Int)<=(u:Int)/\(u:Int)<↑(Mk.n m)) [(94,Ae (Mk.p m+1) (0+Au (u:Int)*1))] (by omega) ?_;refine zAl 94 (Ae (Mk.p m+1) (0+Au (u:Int)*1)) (Ae (Mk.p m+1) u) (by simp(disch:=omega) only[AT,AR,Bh]) ?_;rotate_left
   refine zAe (Al (Ah (ltP m ix)<|As<|Mk.n m) 219 1 Ab Ad AW) (Mk.p m+1) (AJ 1<|Aa<|An u<|Ah (ltP m ix)<|As<|Mk.n m) (AO (An u<|Ah (ltP m ix)<|As<|Mk.n m) Uk) ql_t (by(simp;omega)) ?_;rw[hd_lt m ix u hum];refine zBc (Mk.p m+4+Mk.n m+5*(a+1)) ((1=1/\1<=1/\True)/\0<1/\1=1/\1<=16777216/\1<=9223372036854775807) (Al [Ae (Mk.p m+4+Mk.n m+5*a+4) 0] 225 1 Ab Ad AW) (Ag 0 0 1 1 Ab) (hqn ix _) ?_ (hp:=⟨⟨(by kernel_rfl),⟨(by omega),trivial⟩⟩,(by omega)⟩);focus
    refine zAh ?_ (by kernel_rfl);rotate_left
   have hqt:(qlay m ix (As (a+1)) (a+1)++[tmB m a]).length=m.p+4+m.n+5*(a+1)+1:=by rw[AN,hqn];rfl
   refine zBz rfl rfl ?_ (hf:=zDn (λx hx=>by rw[hqt];simp at hx;subst hx;show _<=100000;omega));refine zLm (Al (Ah (λ(i:Nat)=>Ae (Mk.p m+4+Mk.n m+5*i+4) 0)<|ix u) 225 1 Ab Ad AW) (Al [Ae (Mk.p m+4+Mk.n m+5*a+4) 0] 225 1 Ab Ad AW) 95 (Mk.p m+4+u) (Mk.p m+4+Mk.n m+5*(a+1)) (Ab=Ab/\Aa (Ah (λ(i:Nat)=>Ae (Mk.p m+4+Mk.n m+5*i+4) 0)<|ix u)=Aa (ix u)*1/\Aa (ix u)=Aa (ix u)*1/\225=225/\1=1/\1=1/\0<1/\0<8/\225=225/\(Aa (ix u)+1)*8<=140737488355328/\1=1/\Bi AW=Ad/\(zCs AB (Tr2 (Mk.p m) ch) 219=Ad\/Bj AW=Ab)) (Mk.p m+2≠Mk.p m+4+u/\Mk.p m+3≠Mk.p m+4+u/\Mk.p m+4+Mk.n m+5*a+4≠Mk.p m+4+u/\Mk.p m+2≠Mk.p m+4+u/\Mk.p m+2≠Mk.p m+4+u/\Mk.p m+2≠Mk.p m+4+u/\Mk.p m+1≠Mk.p m+4+u/\Mk.p m+2≠Mk.p m+4+u/\Mk.p m+2≠Mk.p m+4+u/\Mk.p m+2≠Mk.p m+4+u/\Mk.p m+1≠Mk.p m+4+u/\Mk.p m+1≠Mk.p m+4+u/\Mk.p m+4+Mk.n m+5*a+4≠Mk.p m+4+u/\Mk.p m+4+Mk.n m+5*(a+1)≠Mk.p m+4+u/\True) (Al (Ah (zAi (Mk.p m+4+u)) (Ah (λ(i:Nat)=>Ae (Mk.p m+4+Mk.n m+5*i+4) 0) (ix u)++[Ae (Mk.p m+4+Mk.n m+5*a+4) 0])) 225 1 Ab Ad AW) (Ag (Mk.p m+4+u) 0 (Aa (ix u)+1) ((Aa (ix u)+1)*1) Ab) (by kernel_rfl) (zA2<|ql_v hum) (zAr<|hqn ix _) ?_ (by kernel_rfl) ⟨(by omega),⟨(by omega),⟨(by omega),⟨(by omega),⟨(by omega),⟨(by omega),⟨(by omega),⟨(by omega),⟨(by omega),⟨(by omega),⟨(by omega),⟨(by omega),⟨(by omega),⟨(by omega),trivial⟩⟩⟩⟩⟩⟩⟩⟩⟩⟩⟩⟩⟩⟩ ?_ ?_
   ·exact⟨rfl,by simp,by omega,rfl,rfl,rfl,by decide,by decide,rfl,by omega,rfl,rfl, .inr rfl⟩
   ·grind [zGt]
   rw[kill1 (k:=m.p+4+u) (by rw[hqn];omega) (tm_kill (by omega)),zW1 (k:=m.p+4+u) (by omega)];focus
    refine zAh ?_ (by kernel_rfl);rotate_left
   refine zDk (by rw[AN,AN,Bl,A7];exact A0 _) (zDd 3 100000 (joB m) (m.p+2) (0<3) (.osl (m.p+1) 0 m.n m.n Ab) (by kernel_rfl) (by
    rw[zD6 (by rw[AN,Bl,A7,hqn];show _+1<=100000;omega)];exact zA2 (ql_mj hm hum _)) (by decide) (by kernel_rfl)) ?_
   focus
    refine zR 1 [] [] ((0:Int)<=(u:Int)/\(u:Int)<↑(Mk.n m)) [(99,Ae (Mk.p m+1) (0+Au (u:Int)*1))] (by omega) ?_;refine zAl 99 (Ae (Mk.p m+1) (0+Au (u:Int)*1)) (Ae (Mk.p m+1) u) (by simp(disch:=omega) only[AT,AR,Bh]) ?_;rotate_left
   refine zB3 (Al (Ah (zAi (Mk.p m+4+u))<|Ah (ltP m ix)<|As<|Mk.n m) 219 1 Ab Ad AW) (Mk.p m+1) (Ad=Ad/\Ab=Ab/\1=1/\u+1<=Aa (Ah (zAi (Mk.p m+4+u))<|Ah (ltP m ix)<|As<|Mk.n m)) (Al (setAt (Ah (zAi (Mk.p m+4+u))<|Ah (ltP m ix)<|As<|Mk.n m) u<|cellsOf<|Ag (Mk.p m+4+u) 0 (Aa (ix u)+1) ((Aa (ix u)+1)*1) Ab) 219 1 Ab Ad AW) (zA2<|ql_mk hm hum _) ⟨(by kernel_rfl),⟨(by kernel_rfl),⟨(by kernel_rfl),(by(simp;omega))⟩⟩⟩ ?_;refine zFy (qlay m (ixp m a<|x.1.take (t+1)) (As (a+1)) (a+1)++[tmB m a]) ?_ ?_
   ·rw[zBj (by rw[Bl,A7,hqn];omega),<-hsu,AR];exact congrArg (λs=>s++[tmB m a]) (ql_app hm hum a)
   focus
    refine zAh ?_ (by kernel_rfl);refine zBu<|zD<|zC ?_;rotate_left
   refine zF4 (20::A6 84 16) (AA 8 Uk++[.own (m.p+2) 0,Uk,Uk,.osl (m.p+3) 0 (a+1) (a+1) Ab]++AA 6 Uk++[.own (m.p+4+m.n+5*a+4) 0]++AA 22 Uk++[atsD m.A,iD (m.A.length:Nat),iD (a:Nat)]++AA 34 Uk++[.row (x.1.map λv=>iD (v:Nat)) x.1.length,iD (x.1.length:Nat),iD (t:Nat)]++AA 43 Uk) (m.p+2<m.p+4+m.n+5*(a+1)/\m.p+3<m.p+4+m.n+5*(a+1)/\m.p+4+m.n+5*a+4<m.p+4+m.n+5*(a+1)/\True) (hqn _ _) (ql_nam hm hrl<|ixp_lt m a _) (λk hk=>zGt _ _ _ (by omega)) (by kernel_rfl) (by kernel_rfl) ⟨by omega,by omega,by omega,trivial⟩ ?_;focus
    refine zB rfl ?_;refine zR 2 [] [] (i6 (↑t+1)) [(80,iD ↑(t+1)),(100,iD ↑(t+1))] (by omega) ?_;refine zAh ?_ (by kernel_rfl);refine zC ?_;rotate_left
   refine⟨t+1,by omega,by omega,?_⟩;refine zAs [(6,1),(7,1),(8,1),(11,1),(18,1),(22,1),(41,1),(42,1),(43,1),(78,1),(79,1),(80,1),(101,1),(102,1),(104,1),(105,1),(106,1),(107,1),(108,1),(109,1),(110,1),(111,1),(112,1),(113,1),(114,1),(115,1),(116,1),(117,1),(118,1),(119,1),(120,1),(121,1),(122,1),(123,1)] (Uk=Uk/\Uk=Uk/\Ae (Mk.p m+2) 0=Ae (Mk.p m+2) 0/\Ag (Mk.p m+3) 0 (a+1) (a+1) Ab=Ag (Mk.p m+3) 0 (a+1) (a+1) Ab/\Ae (Mk.p m+4+Mk.n m+5*a+4) 0=Ae (Mk.p m+4+Mk.n m+5*a+4) 0/\Uk=Uk/\atsD (Mk.A m)=atsD (Mk.A m)/\iD (Aa (Mk.A m):Int)=iD (Aa (Mk.A m):Int)/\iD (a:Int)=iD (a:Int)/\Aj (Ah (λ(v:Nat)=>iD (v:Int))<|Ak x) (Aa<|Ak x)=Aj (Ah (λ(v:Nat)=>iD (v:Int))<|Ak x) (Aa<|Ak x)/\iD (Aa (Ak x):Int)=iD (Aa (Ak x):Int)/\iD (↑(t+1):Int)=iD (↑(t+1):Int)/\Uk=Uk/\Uk=Uk/\Uk=Uk/\Uk=Uk/\Uk=Uk/\Uk=Uk/\Uk=Uk/\Uk=Uk/\Uk=Uk/\Uk=Uk/\Uk=Uk/\Uk=Uk/\Uk=Uk/\Uk=Uk/\Uk=Uk/\Uk=Uk/\Uk=Uk/\Uk=Uk/\Uk=Uk/\Uk=Uk/\Uk=Uk/\Uk=Uk) ⟨rfl,rfl,rfl,rfl,rfl,rfl,rfl,rfl,rfl,rfl,rfl,rfl,rfl,rfl,rfl,rfl,rfl,rfl,rfl,rfl,rfl,rfl,rfl,rfl,rfl,rfl,rfl,rfl,rfl,rfl,rfl,rfl,rfl,rfl⟩
  obtain rfl:t=x.1.length:=by omega
  rw[Bx,hix];focus
   refine vA ?_;refine zAb [] [(81,bD<|decide ((Aa (Ak x):Int)<(Aa (Ak x):Int)))] ?_;refine zA<|vF ((Aa (Ak x):Int)<(Aa (Ak x):Int))<|vY2<|zD<|vN<|zB rfl ?_;refine zR 2 [] [] (i6 (↑a+1)) [(43,iD ↑(a+1)),(101,iD ↑(a+1))] (by omega) ?_;refine zAh ?_ (by kernel_rfl);refine zC ?_;rotate_left
  refine⟨a+1,by omega,by omega,?_⟩;refine zAs [(8,1),(11,1),(22,1),(41,1),(42,1),(43,1),(102,1),(104,1),(105,1),(106,1),(107,1),(108,1),(109,1),(110,1),(111,1),(112,1),(113,1),(114,1),(115,1),(116,1),(117,1),(118,1),(119,1),(120,1),(121,1),(122,1),(123,1)] (Ae (Mk.p m+2) 0=Ae (Mk.p m+2) 0/\Ag (Mk.p m+3) 0 (a+1) (a+1) Ab=Ag (Mk.p m+3) 0 (a+1) (a+1) Ab/\Uk=Uk/\atsD (Mk.A m)=Aj (Ax atN<|Mk.A m) (Aa<|Mk.A m)/\iD (Aa (Mk.A m):Int)=iD (Aa (Mk.A m):Int)/\iD (↑(a+1):Int)=iD (↑(a+1):Int)/\Uk=Uk/\Uk=Uk/\Uk=Uk/\Uk=Uk/\Uk=Uk/\Uk=Uk/\Uk=Uk/\Uk=Uk/\Uk=Uk/\Uk=Uk/\Uk=Uk/\Uk=Uk/\Uk=Uk/\Uk=Uk/\Uk=Uk/\Uk=Uk/\Uk=Uk/\Uk=Uk/\Uk=Uk/\Uk=Uk/\Uk=Uk) ⟨rfl,rfl,rfl,rfl,rfl,rfl,rfl,rfl,rfl,rfl,rfl,rfl,rfl,rfl,rfl,rfl,rfl,rfl,rfl,rfl,rfl,rfl,rfl,rfl,rfl,rfl,rfl⟩
 obtain rfl:a=m.A.length:=by omega
 have hL:=qL_ok hm ha hy;have hat:=itS_at ha hR;have hbd:=itS_bd ha;have hsz:=itS_sz ha hM;have hc0:1*cE m.A.length M m.n<=(m.A.length+1)*cE m.A.length M m.n:=Br _ (by omega);have hc1:0+cE m.A.length M m.n+1<=big:=by omega
 have hc2:∀a,a<m.A.length->((S0 m).its.getD a Af).s+cE m.A.length M m.n<=big:=λa h=>by
  grind
 have hsp:=zJd hV m.n 0 (S0 m) (by omega) hat (by simp);have hco:=zQr hV M m.n 0 (S0 m) (by omega) hat (by simp) hsz hc1 hc2;have hex:=extend_a (qL m ch yb) hL hV M K hY (by show m.n<=_;omega) (by show m.A.length<=_;omega) m.n 0 (S0 m) rfl hat Cp hbd hsz hc1 hc2 hK;change Acts _ _ [.own (m.p+2) 0,iD (0:Nat)] _ ch (bD Ab) (lay (qL m ch yb) (S2 m 0))at hex;rw[<-qL_lay hy];focus
  refine vA ?_;refine zAb [] [(44,bD<|decide ((Aa (Mk.A m):Int)<(Aa (Mk.A m):Int)))] ?_;refine zA<|vF ((Aa (Mk.A m):Int)<(Aa (Mk.A m):Int))<|vZ2<|vA ?_;refine zA3 1 [(102,Ae (Mk.p m+2) 0)] ?_;refine zJn [] [] [Ae (Mk.p m+2) 0,iD 0] [Ae (Mk.p m+2) 0,iD 0] (¬Mk.p m+2∈ch/\¬Mk.p m+3∈ch/\¬Mk.p m+2∈ch/\True) (by kernel_rfl) trivial (AZ _) (by exact hex) (by kernel_rfl) ?_ ?_ ?_;rotate_left;rotate_left;refine zAb [41,42,43,44,102,103] [] ?_;refine zA<|vA ?_;refine zAb [11] [(104,Ag (Mk.p m+3) 0 (Aa<|Mk.A m) (Aa<|Mk.A m) Ab),(105,iD (Aa (Mk.A m):Int)),(106,iD 0)] ?_;refine zH ?_;rotate_left
 ·exact λk hk=>by
   show(decide (k<m.p)&&!ch.contains k)=Ad;grind
 ·exact⟨λh=>by have:=hy.c _ h;omega,λh=>by have:=hy.c _ h;omega,λh=>by have:=hy.c _ h;omega,trivial⟩
 refine zK (λ(i:Nat)=>fr 124 [(8,Ae (Mk.p m+2) 0),(104,Ag (Mk.p m+3) 0 (Aa<|Mk.A m) (Aa<|Mk.A m) Ab),(105,iD (Aa (Mk.A m):Int)),(106,iD i),(120,Uk),(121,Uk),(122,Uk),(123,Uk)]) (λ(i:Nat)=>lay (qL m ch yb) (S2 m i)) (λ(i:Nat)=>m.A.length-i) (λ(i:Nat)=>i<=m.A.length) 0 ?_ ?_ ?_
 ·omega
 ·refine zAs [(8,1),(104,1),(105,1),(106,1),(120,1),(121,1),(122,1),(123,1)] (Ae (Mk.p m+2) 0=Ae (Mk.p m+2) 0/\Ag (Mk.p m+3) 0 (Aa<|Mk.A m) (Aa<|Mk.A m) Ab=Ag (Mk.p m+3) 0 (Aa<|Mk.A m) (Aa<|Mk.A m) Ab/\iD (Aa (Mk.A m):Int)=iD (Aa (Mk.A m):Int)/\iD 0=iD (↑(0:Nat):Int)/\Uk=Uk/\Uk=Uk/\Uk=Uk/\Uk=Uk) ⟨rfl,rfl,rfl,(by kernel_rfl),rfl,rfl,rfl,rfl⟩
 intro i hi;rcases AH i m.A.length with hi2|hi2
 ·have hpt:=lay_pt hy (S2 m i);have hhd:=hd_pt m hi2;have hli:(lay (qL m ch yb) (S2 m i))[m.p+4+m.n+5*i+4]?=Aq (itK ((S1 m).its.getD i Af)):=zQi (L:=qL m ch yb) (S:=S2 m i) hL (i:=i) hi2;have hlj:(lay (qL m ch yb) (S2 m i))[m.p+2]?=Aq (jB (qL m ch yb) (S2 m i).s):=zNf (L:=qL m ch yb) (S:=S2 m i) hL;have hre:=hsp.res i hi2;have hst:=steps_g hli ((hbd i hi2).of hre.t hre.fl);have hb2:sumS (S1 m).its (i+1)<=(i+1)*cE m.A.length M m.n:=zTm λj hj=>by
   grind
  have hb3:(i+1)*cE m.A.length M m.n<=m.A.length*cE m.A.length M m.n:=Br _ (by omega);have hb4:(S1 m).s<=0+cE m.A.length M m.n:=hco.1;have hb1:(S1 m).s+sumS (S1 m).its i+((S1 m).its.getD i Af).s<=100000000000000000:=by
   have h1:sumS (S1 m).its i+((S1 m).its.getD i Af).s<=m.A.length*cE m.A.length M m.n:=AF hb2 hb3;grind
  focus
   refine vA ?_;refine zAb [] [(107,bD<|decide ((i:Int)<(Aa (Mk.A m):Int)))] ?_;refine zA<|vT ((i:Int)<(Aa (Mk.A m):Int))<|vKB<|vA ?_;refine zR 1 [] [] ((0:Int)<=(i:Int)/\(i:Int)<(Aa (Mk.A m):Int)) [(108,Ae (Mk.p m+3) (0+Au (i:Int)*1))] (by omega) ?_;refine zAl 108 (Ae (Mk.p m+3) (0+Au (i:Int)*1)) (Ae (Mk.p m+3) i) (by simp(disch:=omega) only[AT,AR,Bh]) ?_;rotate_left
  refine zAe (Al (Ah (λ(i:Nat)=>Ae (Mk.p m+4+Mk.n m+5*i+4) 0)<|As<|Aa<|Mk.A m) 225 1 Ab Ad AW) (Mk.p m+3) (AJ 1<|Aa<|An i<|Ah (λ(i:Nat)=>Ae (Mk.p m+4+Mk.n m+5*i+4) 0)<|As<|Aa<|Mk.A m) (AO (An i<|Ah (λ(i:Nat)=>Ae (Mk.p m+4+Mk.n m+5*i+4) 0)<|As<|Aa<|Mk.A m) Uk) hpt (by(simp;omega)) ?_;focus
   refine zA3 1 [(22,AO (An i<|Ah (λ(i:Nat)=>Ae (Mk.p m+4+Mk.n m+5*i+4) 0)<|As<|Aa<|Mk.A m) Uk)] ?_;refine zAl 22 (AO (An i<|Ah (λ(i:Nat)=>Ae (Mk.p m+4+Mk.n m+5*i+4) 0)<|As<|Aa<|Mk.A m) Uk) (Ae (Mk.p m+4+Mk.n m+5*i+4) 0) (by simp(disch:=omega) only[hhd]) ?_;refine zAb [107,108,109] [] ?_;refine zA6 [0,1,2,4,3] [(5,[(3,100000)],[6,7,8,9])] rfl ?_;refine zA3 4 [(110,Ae (Mk.p m+2) 0),(111,Ae (Mk.p m+2) 0),(112,Ae (Mk.p m+2) 2),(114,Ae (Mk.p m+4+Mk.n m+5*i+4) 0)] ?_;rotate_left
  refine zAe (Al [Ag (AQ<|qL m ch yb) 0 (Ar<|qL m ch yb) (Ar (qL m ch yb)*3) Ab,Ag (A3<|qL m ch yb) 0 (Ar<|qL m ch yb) (Ar<|qL m ch yb) Ab,iD (↑(AV<|S2 m i):Int),AG (Fn.func 135) [] [Ae (A1<|qL m ch yb) 0]] 218 0 Ad Ad Ao) (Mk.p m+2) (AJ 1 2) (iD (↑(AV<|S2 m i):Int)) hlj (by simp) ?_;have hll:(lay (qL m ch yb) (S2 m i)).length<=100000:=by rw[zAq];exact hL.sm
  have hlk:(lay (qL m ch yb) (S2 m i)).take 100000=lay (qL m ch yb) (S2 m i):=zD6 hll;focus
   refine zAh ?_ (by kernel_rfl);rotate_left
  refine zBz rfl rfl ?_ (hf:=zDn (λx hx=>by simp at hx;subst hx;exact hll));focus
   refine zY [] [] [Ae (Mk.p m+4+Mk.n m+5*i+4) 0] [Ae (Mk.p m+4+Mk.n m+5*i+4) 0] (AZ _) (by exact hst) ?_;refine zAh ?_ (by kernel_rfl);rotate_left
  refine zDk (A0 _) (zDd 3 100000 (jB (qL m ch yb) (S2 m i).s) (m.p+2) (0<2) (iD ((S2 m i).s:Nat)) (by kernel_rfl) (by rw[hlk];exact hlj) (by decide) (by kernel_rfl)) ?_;focus
   refine zR 1 [116] [] (True) [(116,iD<|BJ BK ((↑(AV<|S2 m i):Int)+(↑(It.s<|AE (BG<|S1 m) i Af):Int)))] trivial ?_;refine zAl 116 (iD<|BJ BK ((↑(AV<|S2 m i):Int)+(↑(It.s<|AE (BG<|S1 m) i Af):Int))) (iD ((↑(AV (S1 m)+sumS (BG<|S1 m) i):Int)+(↑(It.s<|AE (BG<|S1 m) i Af):Int))) (by simp(disch:=omega) only[wrap_i64]) ?_;refine zA3 2 [(117,Ae (Mk.p m+2) 0),(118,Ae (Mk.p m+2) 2)] ?_;rotate_left
  refine zB3 (Al [Ag (AQ<|qL m ch yb) 0 (Ar<|qL m ch yb) (Ar (qL m ch yb)*3) Ab,Ag (A3<|qL m ch yb) 0 (Ar<|qL m ch yb) (Ar<|qL m ch yb) Ab,iD (↑(AV<|S2 m i):Int),AG (Fn.func 135) [] [Ae (A1<|qL m ch yb) 0]] 218 0 Ad Ad Ao) (Mk.p m+2) (Ad=Ad/\Ab=Ab/\1=1/\3<=4) (Al [Ag (AQ<|qL m ch yb) 0 (Ar<|qL m ch yb) (Ar (qL m ch yb)*3) Ab,Ag (A3<|qL m ch yb) 0 (Ar<|qL m ch yb) (Ar<|qL m ch yb) Ab,iD ((↑(AV (S1 m)+sumS (BG<|S1 m) i):Int)+(↑(It.s<|AE (BG<|S1 m) i Af):Int)),AG (Fn.func 135) [] [Ae (A1<|qL m ch yb) 0]] 218 0 Ad Ad Ao) hlj ⟨(by kernel_rfl),⟨(by kernel_rfl),(by omega)⟩⟩ ?_;refine zFy (lay (qL m ch yb)<|S2 m (i+1)) ?_ ?_
  ·rw[show S2 m (i+1)={S2 m i with s:=(S2 m i).s+((S1 m).its.getD i Af).s} by simp only[S2,sumS,Nat.add_assoc]];exact zMf (L:=qL m ch yb) (S:=S2 m i) hL ((S2 m i).s+((S1 m).its.getD i Af).s)
  focus
   refine zAh ?_ (by kernel_rfl);refine zBu<|zD<|zC ?_;rotate_left
  refine zL9 (22::A6 110 9) ([Uk,Uk,Uk,Uk,Uk,Uk,Uk,Uk,.own (m.p+2) 0]++AA 95 Uk++[.osl (m.p+3) 0 m.A.length m.A.length Ab,iD (m.A.length:Nat),iD (i:Nat)]++AA 17 Uk) (by kernel_rfl) ?_;focus
   refine zB rfl ?_;refine zR 2 [] [] (i6 (↑i+1)) [(106,iD ↑(i+1)),(119,iD ↑(i+1))] (by omega) ?_;refine zAh ?_ (by kernel_rfl);refine zC ?_;rotate_left
  refine⟨i+1,by omega,by omega,?_⟩;refine zAs [(8,1),(104,1),(105,1),(106,1),(120,1),(121,1),(122,1),(123,1)] (Ae (Mk.p m+2) 0=Ae (Mk.p m+2) 0/\Ag (Mk.p m+3) 0 (Aa<|Mk.A m) (Aa<|Mk.A m) Ab=Ag (Mk.p m+3) 0 (Aa<|Mk.A m) (Aa<|Mk.A m) Ab/\iD (Aa (Mk.A m):Int)=iD (Aa (Mk.A m):Int)/\iD (↑(i+1):Int)=iD (↑(i+1):Int)/\Uk=Uk/\Uk=Uk/\Uk=Uk/\Uk=Uk) ⟨rfl,rfl,rfl,rfl,rfl,rfl,rfl,rfl⟩
 obtain rfl:i=m.A.length:=by omega
 have hlj:(lay (qL m ch yb) (S2 m m.A.length))[m.p+2]?=Aq (jB (qL m ch yb) (S2 m m.A.length).s):=zNf (L:=qL m ch yb) (S:=S2 m m.A.length) hL;focus
  refine vA ?_;refine zAb [] [(107,bD<|decide ((Aa (Mk.A m):Int)<(Aa (Mk.A m):Int)))] ?_;refine zA<|vF ((Aa (Mk.A m):Int)<(Aa (Mk.A m):Int))<|vZ2<|vA ?_;refine zA3 3 [(120,Ae (Mk.p m+2) 0),(121,Ae (Mk.p m+2) 0),(122,Ae (Mk.p m+2) 2)] ?_;rotate_left
 refine zAe (Al [Ag (AQ<|qL m ch yb) 0 (Ar<|qL m ch yb) (Ar (qL m ch yb)*3) Ab,Ag (A3<|qL m ch yb) 0 (Ar<|qL m ch yb) (Ar<|qL m ch yb) Ab,iD (↑(AV<|S2 m<|Aa<|Mk.A m):Int),AG (Fn.func 135) [] [Ae (A1<|qL m ch yb) 0]] 218 0 Ad Ad Ao) (Mk.p m+2) (AJ 1 2) (iD (↑(AV<|S2 m<|Aa<|Mk.A m):Int)) hlj (by simp) ?_;focus
  refine zAb [8,104,105,106,107,120,121,122,123] [(6,iD (↑(AV (S1 m)+sumS (BG<|S1 m) (Aa<|Mk.A m)):Int)),(7,iD 0)] ?_;refine zE ?_;refine zM (True) [Am<|Ap BK (↑(AV (S1 m)+sumS (BG<|S1 m) (Aa<|Mk.A m)):Int),q2_] (.inr rfl) ?_;rotate_left
 exact⟨by kernel_rfl,rfl⟩
theorem run0_k(m:Mk)(hm:MOk m)(ha:AOk m)(e:Nat)(he:e<m.A.length)(he0:(m.A.getD e Af).2=[])(he1:∀j,j<e->(m.A.getD j Af).2≠[])(ch:List Nat)(st0:List Bk)(hp:st0.length=m.p)(hb:∀k,k<m.p->st0[k]?=Aq (m.base k)):∃bs,Acts AB 134 [iD (m.n:Nat),atsD m.A,yCl m.cb] st0 ch (.tup [iD 0,iD 0]) (st0++bs):=by
 have hn:=ha.n;have hA:=ha.na;refine⟨[roB (AA m.n ⟨0,0,[]⟩),(⟨repL m.n [nlD],219,1,Ab,Ad, .sh⟩:Bk),joB m,acB (m.A.getD e Af)],?_⟩;have hl1:∀b,(st0++[b]).length=m.p+1:=λb=>by rw[AN,hp];rfl
 have hl2:∀b c,(st0++[b]++[c]).length=m.p+2:=λb c=>by rw[AN,hl1];rfl
 refine zAj (Tr2_ok m.p ch) mixed Tryz.func134 rfl (λk hk=>by
  by_cases h:k∈ch
  ·exact .inr h
  refine .inl ?_;show(decide (k<m.p)&&!ch.contains k)=Ab;rw[decide_eq_true (by omega)];simpa using h) ?_
 focus
  refine vA ?_;refine zAb [] [(6,iD 0),(7,iD 0)] ?_;refine zA<|vd [0,2,4,1,3,5,6,7] ?_;refine zA3 3 [(23,iD ↑(Mk.n m)),(25,iD ↑(Mk.n m)),(27,AG (Fn.func 135) [] [Ae (Mk.cb m) 0])] ?_;rotate_left
 refine zBc (Mk.p m) ((0:Int)<=(↑(Mk.n m):Int)/\(↑(Mk.n m):Int)<=(↑(Mk.n m):Int)/\(↑(32:Nat):Int)*(↑(Mk.n m):Int)<=(281474976710656:Int)/\(↑(Mk.n m):Int)<=(281474976710656:Int)/\0<3/\3=3) (Al (repL (Au (↑(Mk.n m):Int)) [iD 0,iD 0,q7_]) 64 3 Ab Ad<|kdOf<|zCs AB (Tr2 (Mk.p m) ch) 54) (Ag 0 0 (Au (↑(Mk.n m):Int)) (Au (↑(Mk.n m):Int)*3) Ab) hp ?_ (hp:=by omega);refine zBc (Mk.p m+1) ((0:Int)<=(↑(Mk.n m):Int)/\(↑(Mk.n m):Int)<=(↑(Mk.n m):Int)/\(↑(24:Nat):Int)*(↑(Mk.n m):Int)<=(281474976710656:Int)/\(↑(Mk.n m):Int)<=(281474976710656:Int)/\0<1/\1=1) (Al (repL (Au (↑(Mk.n m):Int)) [nl]) 219 1 Ab Ad<|kdOf<|zCs AB (Tr2 (Mk.p m) ch) 216) (Ag 0 0 (Au (↑(Mk.n m):Int)) (Au (↑(Mk.n m):Int)*1) Ab) (hl1 _) ?_ (hp:=by omega);focus
  refine zR 1 [] [] ((1=1/\1<=4/\1=1/\2<=4/\1=1/\4<=4/\True)/\Ab=Ab) [(28,AD [Ag (Mk.p m) 0 (Au (↑(Mk.n m):Int)) (Au (↑(Mk.n m):Int)*3) Ab,Ag (Mk.p m+1) 0 (Au (↑(Mk.n m):Int)) (Au (↑(Mk.n m):Int)*1) Ab,iD 0,AG (Fn.func 135) [] [Ae (Mk.cb m) 0]])] (by decide) ?_;refine zAl 28 (AD [Ag (Mk.p m) 0 (Au (↑(Mk.n m):Int)) (Au (↑(Mk.n m):Int)*3) Ab,Ag (Mk.p m+1) 0 (Au (↑(Mk.n m):Int)) (Au (↑(Mk.n m):Int)*1) Ab,iD 0,AG (Fn.func 135) [] [Ae (Mk.cb m) 0]]) (AD [Ag (Mk.p m) 0 (Mk.n m) (Mk.n m*3) Ab,Ag (Mk.p m+1) 0 (Mk.n m) (Mk.n m) Ab,iD 0,AG (Fn.func 135) [] [Ae (Mk.cb m) 0]]) (by simp(disch:=omega) only[AT,AR]) ?_;rotate_left
 refine zBc (Mk.p m+2) (True) (Al [Ag (Mk.p m) 0 (Mk.n m) (Mk.n m*3) Ab,Ag (Mk.p m+1) 0 (Mk.n m) (Mk.n m) Ab,iD 0,AG (Fn.func 135) [] [Ae (Mk.cb m) 0]] 218 0 Ad Ad Ao) (Ae 0 0) (hl2 _ _) ?_;focus
  refine zA3 1 [(8,Ae (Mk.p m+2) 0)] ?_;refine zAh ?_ (by kernel_rfl);refine zC ?_;rotate_left
 obtain⟨X,hX⟩:∃X,X=st0++[roB (AA m.n ⟨0,0,[]⟩),(⟨repL m.n [nlD],219,1,Ab,Ad, .sh⟩:Bk),joB m]:=⟨_,rfl⟩;have hXl:X.length=m.p+3:=by rw[hX,AN,hp];rfl
 have hXn:∀b∈X,namB (m.p+3) b:=zRi hm hp hb hX;refine next_st X ?_ ?_
 ·rw[hX,BC,BC];unfold roB;rw[zRr];exact congrArg (st0++·) (by kernel_rfl)
 have hac:∀a:List Nat×List Rw,(atN a).length=3:=λ_=>rfl;focus
  refine zAw<|zA<|vA ?_;refine zAb [0,2,23,24,25,26,27,28,29] [(30,(q9_ m)),(31,iD (Aa (Mk.A m):Int)),(32,iD 0)] ?_;refine zH ?_;rotate_left
 refine zK (λ(a:Nat)=>fr 124 [(1,atsD<|Mk.A m),(8,Ae (Mk.p m+2) 0),(30,(q9_ m)),(31,iD (Aa (Mk.A m):Int)),(32,iD a)]) (λ(a:Nat)=>X) (λ(a:Nat)=>e-a) (λ(a:Nat)=>a<=e) 0 ?_ ?_ ?_
 ·omega
 ·refine zAs [(1,1),(8,1),(30,1),(31,1),(32,1)] (atsD (Mk.A m)=atsD (Mk.A m)/\Ae (Mk.p m+2) 0=Ae (Mk.p m+2) 0/\Aj (Ax atN<|Mk.A m) (Aa<|Mk.A m)=Aj (Ax atN<|Mk.A m) (Aa<|Mk.A m)/\iD (Aa (Mk.A m):Int)=iD (Aa (Mk.A m):Int)/\iD 0=iD (↑(0:Nat):Int)) ⟨rfl,rfl,rfl,rfl,(by kernel_rfl)⟩
 intro a h1;have h2:a<m.A.length:=by omega
 have hg2:=zCz hac m.A a h2;have hle:=zEv hac m.A a h2;have hne:=zDe hac (by decide) m.A (by omega);rcases AH a e with h3|h3
 ·have hr1:=he1 a h3;obtain⟨hr2,hr3,hr4⟩:=ha.r _ (ha.get h2);generalize m.A.getD a Af=x at*;have hlen:=zKe (x.1.length:Nat) (x.2.map rowV) x.2.length;have hpos:0<x.2.length:=List.length_pos_iff.2 hr1;focus
   refine vA ?_;refine zAb [] [(33,bD<|decide ((a:Int)<(Aa (Mk.A m):Int)))] ?_;refine zA<|vT ((a:Int)<(Aa (Mk.A m):Int))<|vKB<|vA ?_;refine zR 2 [] [] (ix ↑a (Aa (Mk.A m):Int) (Ax atN (Mk.A m)≠[])/\3<=Aa (An (a*3)<|Ax atN<|Mk.A m)) [(34,(q10_ a m)),(35,(q11_ a m))] ⟨⟨(by omega),⟨(by omega),(by assumption)⟩⟩,(by omega)⟩ ?_;refine zAl 35 (AD<|AK 3<|An (a*3)<|Ax atN<|Mk.A m) (AD<|atN x) (by simp(disch:=omega) only[hg2]) ?_;rotate_left
  refine zBc (Mk.p m+3) (True) (q12_) (Ae 0 0) hXl ?_;refine zB3 (q12_) (Mk.p m+3) (Ad=Ad/\Ab=Ab/\3=3/\3<=3) (Al [Aj (Ah (λ(v:Nat)=>iD v)<|Ak x)<|Aa<|Ak x,iD (Aa (Ak x):Int),Aj (Ah rowV<|Aw x)<|Aa<|Aw x] 87 0 Ad Ad Ao) (zAr hXl) ⟨(by kernel_rfl),⟨(by kernel_rfl),(by omega)⟩⟩ ?_;rw[zEg hXl];focus
   refine zAb [33,34,35] [] ?_;refine vA ?_;refine zA3 1 [(36,Ae (Mk.p m+3) 1)] ?_;rotate_left
  refine zAe (Al [Aj (Ah (λ(v:Nat)=>iD v)<|Ak x)<|Aa<|Ak x,iD (Aa (Ak x):Int),Aj (Ah rowV<|Aw x)<|Aa<|Aw x] 87 0 Ad Ad Ao) (Mk.p m+3) (AJ 2 2) (AD [iD (Aa (Ak x):Int),Aj (Ah rowV<|Aw x)<|Aa<|Aw x]) (zAr hXl) (by simp) ?_;focus
   refine zRj [AD [iD (Aa (Ak x):Int),Aj (Ah rowV<|Aw x)<|Aa<|Aw x]] (by exact hlen) ?_;refine zAb [10,36,37,38] [(39,bD ((Aa (Aw x):Int)==(0:Int)))] ?_;refine vEf ((Aa (Aw x):Int)) ((0:Int))<|zQ<|zD<|vN<|zB rfl ?_;refine zR 2 [] [] (i6 (↑a+1)) [(32,iD (↑a+1)),(40,iD (↑a+1))] (by omega) ?_;refine zAh ?_ (by kernel_rfl);refine zC ?_;rotate_left
  refine⟨a+1,h3,by omega,?_⟩;rw[zM3];refine zA5 (m.p+2<m.p+3/\True) hXl hXn (zGt _ _) ?_ ⟨by omega,trivial⟩;refine zAs [(1,1),(8,1),(30,1),(31,1),(32,1)] (atsD (Mk.A m)=atsD (Mk.A m)/\Ae (Mk.p m+2) 0=Ae (Mk.p m+2) 0/\Aj (Ax atN<|Mk.A m) (Aa<|Mk.A m)=Aj (Ax atN<|Mk.A m) (Aa<|Mk.A m)/\iD (Aa (Mk.A m):Int)=iD (Aa (Mk.A m):Int)/\iD (↑(a+1):Int)=iD (↑(a+1):Int)) ⟨rfl,rfl,rfl,rfl,rfl⟩
 obtain rfl:a=e:=by omega
 obtain⟨x,hx⟩:∃x,x=m.A.getD a default:=⟨_,rfl⟩;rw[<-hx]at hg2 he0;have hlen:=zKe (x.1.length:Nat) (x.2.map rowV) x.2.length;have hz:x.2.length=0:=by rw[he0];rfl
 focus
  refine vA ?_;refine zAb [] [(33,bD<|decide ((a:Int)<(Aa (Mk.A m):Int)))] ?_;refine zA<|vT ((a:Int)<(Aa (Mk.A m):Int))<|vKB<|vA ?_;refine zR 2 [] [] (ix ↑a (Aa (Mk.A m):Int) (Ax atN (Mk.A m)≠[])/\3<=Aa (An (a*3)<|Ax atN<|Mk.A m)) [(34,(q10_ a m)),(35,(q11_ a m))] ⟨⟨(by omega),⟨(by omega),(by assumption)⟩⟩,(by omega)⟩ ?_;refine zAl 35 (AD<|AK 3<|An (a*3)<|Ax atN<|Mk.A m) (AD<|atN x) (by simp(disch:=omega) only[hg2]) ?_;rotate_left
 refine zBc (Mk.p m+3) (True) (q12_) (Ae 0 0) hXl ?_;refine zB3 (q12_) (Mk.p m+3) (Ad=Ad/\Ab=Ab/\3=3/\3<=3) (Al [Aj (Ah (λ(v:Nat)=>iD v)<|Ak x)<|Aa<|Ak x,iD (Aa (Ak x):Int),Aj (Ah rowV<|Aw x)<|Aa<|Aw x] 87 0 Ad Ad Ao) (zAr hXl) ⟨(by kernel_rfl),⟨(by kernel_rfl),(by omega)⟩⟩ ?_;rw[zEg hXl];focus
  refine zAb [33,34,35] [] ?_;refine vA ?_;refine zA3 1 [(36,Ae (Mk.p m+3) 1)] ?_;rotate_left
 refine zAe (Al [Aj (Ah (λ(v:Nat)=>iD v)<|Ak x)<|Aa<|Ak x,iD (Aa (Ak x):Int),Aj (Ah rowV<|Aw x)<|Aa<|Aw x] 87 0 Ad Ad Ao) (Mk.p m+3) (AJ 2 2) (AD [iD (Aa (Ak x):Int),Aj (Ah rowV<|Aw x)<|Aa<|Aw x]) (zAr hXl) (by simp) ?_;focus
  refine zRj [AD [iD (Aa (Ak x):Int),Aj (Ah rowV<|Aw x)<|Aa<|Aw x]] (by exact hlen) ?_;refine zAb [10,36,37,38] [(39,bD ((Aa (Aw x):Int)==(0:Int)))] ?_;refine vEt ((Aa (Aw x):Int)) ((0:Int))<|vA ?_;refine zAb [39] [(6,iD 0),(7,iD 0)] ?_;refine zE<|zL<|zG<|zG<|zL<|zG ?_;refine zM (True) [q2_,q2_] (.inr rfl) ?_;rotate_left
 exact⟨by kernel_rfl,by rw[hX,<-hx,BC];rfl⟩
theorem rs_it0{k:Nat}{L:List Rw}(hL:∀r∈L,r.length=k)(hs:Rsc L)(hne:L≠[]):RS (it0 (zB6 k L))=L:=by
 show rws (zB6 k L) 0 (szT (zB6 k L))=L;rcases Co k with h0|h0
 ·subst h0;have ht:zB6 0 L=[]:=List.length_eq_zero_iff.1 (zHr 0 L);rw[ht];show[[]]=L;have h1:∀r∈L,r=[]:=λr hr=>List.length_eq_zero_iff.1 (hL r hr);match L,hne,h1,hs with
  |[r],_,h1,_=>rw[h1 r (by simp)]
  |r::u::L,_,h1,hs=>
   have h2:=(Cm.1 hs).1 u (by simp);rw[h1 r (by simp),h1 u (by simp)]at h2;exact absurd h2 (by decide)
 grind [trie_rows,dst_of]
def jn(m:Mk):List Rw:=if m.A.all (λa=>!a.2.isEmpty)then(S1 m).ys else[]
theorem zFh{m:Mk}(ha:AOk m):Rsc (jn m)/\∀y,y∈jn m↔(y.length=m.n/\∀a,a<m.A.length->prj m.vs a 0 y∈(m.A.getD a Af).2):=by
 unfold jn;split
 ·rename_i h;have hne:∀a∈m.A,a.2≠[]:=λa h1=>by
   grind
  obtain⟨J,h1,h2,h3⟩:=(zJd ha.v m.n 0 (S0 m) (by omega) (itS_at ha hne) (by simp)).ys;rw[show(S1 m).ys=J from h1];refine⟨h2,λy=>?_⟩;rw[h3];have hrs:∀a,a<m.A.length->RS ((S0 m).its.getD a Af)=(m.A.getD a Af).2:=λa h=>by
   obtain⟨_,r3,r4⟩:=ha.r _ (ha.get h);rw[show(S0 m).its.getD a Af=it0 (m.tr a)from zQm m h];grind [rs_it0]
  grind
 rename_i h;refine⟨List.Pairwise.nil,λy=>⟨λh=>by simp at h,λ⟨_,k⟩=>?_⟩⟩;grind [B3,Ch,A2,prj]
theorem zVv{m:Mk}{ch:List Nat}{yb:List (List Va)->Nat->Option Bk}(S:Js){k:Nat}(hk:k<m.p):blk (qL m ch yb) S k=(yb S.ys k).getD (m.base k):=by
 unfold blk;rw[if_neg (show¬k=(qL m ch yb).jb from show¬k=m.p+2 by omega),if_neg (show¬k=(qL m ch yb).rb from show¬k=m.p by omega),zMp (λi hi=>by show m.p+4+m.n+5*i+4≠k;omega)];show(yb S.ys k).getD (qblk m _ _ k)=_;unfold qblk;rw[if_pos hk]
theorem lay_low{m:Mk}{ch:List Nat}{yb:List (List Va)->Nat->Option Bk}(S:Js):lay (qL m ch yb) S=((As m.p).map λk=>(yb S.ys k).getD (m.base k))++(A6 m.p (4+m.n+5*m.A.length)).map (blk (qL m ch yb) S):=by
 have e:As (m.p+4+m.n+5*m.A.length)=As m.p++A6 m.p (4+m.n+5*m.A.length):=by
  rw[List.range_eq_range',List.range_eq_range',show m.p+4+m.n+5*m.A.length=m.p+(4+m.n+5*m.A.length) by omega,<-List.range'_append_1,Bh]
 show(As (m.p+4+m.n+5*m.A.length)).map (blk (qL m ch yb) S)=_;grind [BO,zVv]
theorem low_nam{m:Mk}(hm:MOk m){ch:List Nat}{yb:List (List Va)->Nat->Option Bk}(hy:YbOk m ch yb)(ys:List (List Va)):∀b∈(As m.p).map (λk=>(yb ys k).getD (m.base k)),namB m.p b:=λb hb=>by
 obtain⟨k,hk,rfl⟩:=B5.1 hb;show namB m.p ((yb ys k).getD (m.base k));cases e:yb ys k with
 |none=>exact hm.bs k (A_.1 hk)
 |some b=>exact(hy.b ys k b e).2
theorem S2_le(m:Mk)(ha:AOk m)(hR:∀a∈m.A,a.2≠[])(M:Nat)(hM:∀a∈m.A,a.2.length+m.n<=M)(hC:(m.A.length+1)*(cE m.A.length M m.n)+1<=big):(S2 m m.A.length).s<=big:=by
 have hc0:1*cE m.A.length M m.n<=(m.A.length+1)*cE m.A.length M m.n:=Br _ (by omega);have hc1:0+cE m.A.length M m.n+1<=big:=by omega
 have hc2:∀a,a<m.A.length->((S0 m).its.getD a Af).s+cE m.A.length M m.n<=big:=λa h=>by
  grind
 have hco:=zQr ha.v M m.n 0 (S0 m) (by omega) (itS_at ha hR) (by simp) (itS_sz ha hM) hc1 hc2;have hb2:sumS (S1 m).its m.A.length<=m.A.length*cE m.A.length M m.n:=zTm λj hj=>by
  grind
 grind
theorem run_a(m:Mk)(hm:MOk m)(ha:AOk m)(ch:List Nat)(yb:List (List Va)->Nat->Option Bk)(hy:YbOk m ch yb)(M K:Nat)(hM:∀a∈m.A,a.2.length+m.n<=M)(hY:YOk (qL m ch yb) K)(hK:(jn m).length<=K)(hC:(m.A.length+1)*(cE m.A.length M m.n)+1<=big)(st0:List Bk)(hp:st0.length=m.p)(hb:∀k,k<m.p->st0[k]?=Aq (m.base k)):∃z:Nat,z<=big/\Acts AB 134 [iD (m.n:Nat),atsD m.A,yCl m.cb] st0 ch (.tup [iD (z:Nat),iD 0]) ((As m.p).map λk=>(yb (jn m) k).getD (m.base k)):=by
 by_cases h:∀a∈m.A,a.2≠[]
 ·have hj:jn m=(S1 m).ys:=by
   grind [jn,B3]
  rw[hj]at hK⊢;have hr:=run_k m hm ha ch yb hy h M K hM hY hK hC st0 hp hb;rw[lay_low]at hr;exact⟨_,S2_le m ha h M hM hC,hr.tail (N:=m.p) (by simp) (by omega) (low_nam hm hy _) (λj hj=>by simp only[refs,zX,AP])⟩
 have hj:jn m=[]:=by
  grind [jn,B3]
 have hx:∃e,e<m.A.length/\(m.A.getD e Af).2=[]/\∀j,j<e->(m.A.getD j Af).2≠[]:=by
  have h0:∃e,e<m.A.length/\(m.A.getD e Af).2=[]:=by
   refine Classical.byContradiction λhn=>h λa h1 h2=>hn ?_;obtain⟨i,hi,rfl⟩:=Ch h1;simp_all
  obtain⟨e,he⟩:=h0;induction e using Nat.strongRecOn with
  |ind e ih=>
   grind
 obtain⟨e,e1,e2,e3⟩:=hx;obtain⟨bs,hr⟩:=run0_k m hm ha e e1 e2 e3 ch st0 hp hb;have hst:st0=(As m.p).map λk=>(yb (jn m) k).getD (m.base k):=by
  apply Ba;intro i;rcases AH i m.p with hi|hi
  ·rw[hb i hi,Bp,Cj hi,BT,hj];cases e:yb [] i with
   |none=>rfl
   |some b=>rw[hy.z i b e];rfl
  grind
 have hr2:=hr.tail (N:=m.p) hp (by omega) (by rw[hst];exact low_nam hm hy _) (λj hj=>by simp only[refs,zX,AP]);grind
end
section
open Go.RowKit
theorem Acts.pre{P:Program}{T:Par}{f:FuncId}{args args':List D}{st st1 st2:List Bk}{ch:List Nat}{x:D}(h:Acts P f args' st1 ch x st2)(hw:Weak T args st args' st1)(hk:∀k,k<st.length->k∉ch->T.keep k=Ab):Acts P f args st ch x st2:=by
 intro β I w vs hr hsr hinj hfz hdom hi hg;obtain⟨β1,I1,s,p,q⟩:=hw β I w vs ⟨hr,hsr,hinj,hfz,hdom,hi,hg⟩;refine(h β1 I1 w vs s.rel s.sr s.inj s.fz s.dom s.imb s.gl).mono ?_;rintro e w' ⟨v,β',I',e1,e2,e3,e4,e5,e6,e7,e8,e9⟩;exact⟨v,β',I',e1,e2,p.trans e3,λk y hc hb=>e4 k y hc (q k y (hk k (hdom k y hb) hc) hb),e5,e6,e7,e8,e9⟩
theorem Acts.at1{P:Program}{f:FuncId}{args1 args:List D}{e b0:Bk}{n c0:Nat}{wh:Bool}{st:List Bk}(k:Nat)(h:Acts P f args1 [e] [] (.osl 1 0 n c0 wh) [e,b0])(he:st[k]?=Aq e)(ha:e.free)(ha':b0.free)
  (hargs:∀I w β vs,RelT I w β args vs->RelT I w (only β k) args1 vs):Acts P f args st [] (.osl st.length 0 n c0 wh) (st++[b0]):=by
 intro β I w vs hr hsr hinj hfz hdom hi hg;have o0:∀{j:Nat}{y:Nat×Nat},only β k j=Aq y->j=0/\β k=Aq y:=λ{j y} hj=>by
  grind [only]
 have hk:k<st.length:=(CE.1 he).1;have hsr1:SR (only β k) I w [e]:=λj b c hj=>by
  obtain⟨rfl,hb⟩:=o0 hj;obtain⟨e0,h1,h2⟩:=hsr k b c hb;rw[he]at h1;cases h1;exact⟨e,rfl,ha.own h2⟩
 have hinj1:Inj (only β k):=λj j' b c c' h1 h2=>by rw[(o0 h1).1,(o0 h2).1]
 have hfz1:FZ (only β k) I [e]:=λj b c i e0 h1 h2 h3=>by
  obtain⟨rfl,hb⟩:=o0 h1;simp only[B6,BI.injEq]at h2;subst h2;exact hfz k b c i e hb he h3
 refine(h (only β k) I w vs (hargs I w β vs hr) hsr1 hinj1 hfz1 (λj y hj=>by rw[(o0 hj).1];simp) hi hg).mono ?_;rintro en w' ⟨v,β1,I',rfl,p1,p2,p3,p4,p5,p6,p7,p8⟩;have keepk:∀y,β k=Aq y->β1 0=Aq y:=λy hy=>p3 0 y (by simp) (by simp only[only,if_true];exact hy);have new1:∀{b c:Nat},β1 1=Aq (b,c)->w.heap.size<=b:=λ{b c} hb=>by
  rcases p2.be 1 b c hb with⟨k',c',hk'⟩|hh
  ·have:=p5 1 0 b c c' hb (keepk _ (o0 hk').2)
   cases this
  exact hh
 have hlt:∀{j b c:Nat},β j=Aq (b,c)->b<w.heap.size:=λ{j b c} hj=>by
  obtain⟨e0,_,h1⟩:=hsr j b c hj;exact h1.lt
 have heap:∀{j b c:Nat},j≠k->β j=Aq (b,c)->w'.heap[b]?=w.heap[b]?:=λ{j b c} hne hj=>p2.out b (hlt hj) λj' c' hj'=>by
  have:=(o0 hj').2
  exact hne (hinj j k b c c' hj this)
 let β':Be:=λj=>if j<st.length then β j else if j=st.length then β1 1 else AS
 have bo:∀{j:Nat}{y:Nat×Nat},β' j=Aq y->(j<st.length/\β j=Aq y)\/(j=st.length/\β1 1=Aq y):=λ{j y} hj=>by
  grind
 have hle:BeLe β β':=λj y hj=>by
  grind
 refine⟨v,β',I',rfl,p1,⟨p2.fix,p2.size,λb hb hn=>p2.out b hb λj c hj=>hn k c (o0 hj).2,p2.os,p2.tape,p2.output,p2.dr,λj b c hj=>?_,λb o hb=>?_⟩,λj y _ hj=>hle j y hj,λj b c hj=>?_,λj j' b c c' hj hj'=>?_,λj b c i e0 hj h2 h3=>?_,λj y hj=>?_,?_⟩
 ·grind
 ·rcases p2.im b o hb with h1|h1|⟨j,c,h1⟩;all_goals grind
 ·rcases bo hj with⟨hl,h⟩|⟨rfl,h⟩
  ·rw[BS hl];by_cases ej:j=k
   ·subst ej;obtain⟨e0,h1,h2⟩:=p4 0 b c (keepk _ h);simp only[B6,BI.injEq]at h1;subst h1;exact⟨e,he,ha.own h2⟩
   obtain⟨e0,h1,h2⟩:=hsr j b c h;exact⟨e0,h1,h2.mono (heap ej h) p2.fix hle⟩
  obtain⟨e0,h1,h2⟩:=p4 1 b c h;simp only[List.getElem?_cons_succ,B6,BI.injEq]at h1;subst h1;exact⟨b0,by simp,ha'.own h2⟩
 ·rcases bo hj with⟨hl,h⟩|⟨rfl,h⟩<;>rcases bo hj' with⟨hl',h'⟩|⟨rfl,h'⟩
  ·exact hinj j j' b c c' h h'
  all_goals grind
 ·rcases bo hj with⟨hl,h⟩|⟨rfl,h⟩
  ·rw[BS hl]at h2;by_cases ej:j=k
   ·subst ej;rw[he]at h2;cases h2;exact p6 0 b c i e (keepk _ h) rfl h3
   refine hfz j b c i e0 h h2 ?_;rcases p2.im b _ h3 with h1|h1|⟨j2,c2,h1⟩
   ·exact h1
   ·have:=hlt h;omega
   exact absurd (hinj j k b c c2 h (o0 h1).2) ej
  simp only[Ci (A0 _),Nat.sub_self,B6,BI.injEq]at h2;subst h2;exact p6 1 b c i b0 h rfl h3
 ·grind
 simp only[Rel]at p8⊢;grind
section
variable {T : Par} {sl : List D} {st : List Bk}
theorem Weak.frzSlot{s:Nat}{d x:D}{ks:List Nat}(hs:sl[s]?=Aq d)(hx:frz Ab st zAc d=Aq (x,ks)):Weak T sl st (sl.set s x) (zAz st ks):=by
 intro β I w tm h;obtain⟨v,hv,hr⟩:=h.rel.get s _ hs;have hfr:=zCi h.sr.weak _ _ _ _ v hx hr;have h0:=h.fzAll ks;refine⟨β,fixI I β st ks,⟨?_,h0.sr,h0.inj,h0.fz,h0.dom,h0.imb,h0.gl⟩,Stp.fzAll h ks,Kp.refl _ _⟩;refine RelT.of_get (by rw[Bl,h0.rel.length]) λi d' u hd hu=>?_;rw[Bw]at hd;split at hd
 ·grind [Rel.no]
 obtain⟨u',g1,g2⟩:=h0.rel.get i d' hd;rw[hu]at g1;cases g1;exact g2
theorem zJ2{st:List Bk}{n k off l m:Nat}{wh:Bool}{e:Bk}(h:st[k]?=Aq e)(hm:e.kd.isMap=Ad)(hn:e.nob=Ab):frz Ab st (n+1) (.osl k off l m wh)=Aq (.row ((e.cells.drop off).take m) l,[k]):=by
 grind [only,frz,Bool.false_eq_true]
end
structure At where
 V:List Int
 ar:Int
 R:List Rw
 deriving Inhabited
abbrev atC(a:At):List D:=[.row (a.V.map λz=>iD z) a.V.length,iD a.ar, .row (a.R.map rowV) a.R.length]
theorem zVy(a:At):(atC a).length=3:=rfl
def zV3(V:List Int)(i:Nat):Bool:=decide (i=0)||decide (V.getD (i-1) 0<V.getD i 0)
def ascB(V:List Int):Bool:=(As V.length).all (zV3 V)
def inB(n:Int)(v:Int):Bool:=decide (0<=v/\v<n)
def atE(n:Int)(a:At):Int:=if ascB a.V=Ad then 16 else if a.V.all (inB n)=Ad then 3 else if(a.V.length:Int)≠a.ar then 6 else 0
def atL(n:Int):List At->Int
 |[]=>0
 |a::l=>if atE n a≠0 then atE n a else atL n l
def useP(n:Nat)(ats:List At)(W:List Int):List Bool:=(As n).map λv:Nat=>(ats.any λa=>decide ((v:Int)∈a.V))||decide ((v:Int)∈W)
def lfE(n:Int)(ats:List At):Int:=if n<0\/32<n then 3 else if 32<ats.length then 12 else if atL n ats≠0 then atL n ats else if(useP n.toNat ats []).contains Ad then 22 else 0
theorem zPl(n:Nat)(ats:List At)(W:List Int):(useP n ats W).length=n:=by simp[useP]
theorem useP_0(n:Nat):useP n [] []=AA n false:=by
 apply Cx (by simp[useP]);intro i h1 h2;simp[useP]
theorem useP_set(n:Nat)(ats:List At)(W:List Int)(v:Nat)(h:v<n):(useP n ats W).set v Ab=useP n ats (W++[(v:Int)]):=by
 apply Cx (by simp[useP]);intro i h1 h2;rw[List.getElem_set];simp only[useP,List.getElem_map,List.getElem_range,BN,By];grind
theorem zZ4(n:Nat)(ats:List At)(a:At):useP n ats a.V=useP n (ats++[a]) []:=by
 grind [useP,BO]
theorem atL_at{n:Int}:∀{L:List At}{i:Nat},(∀j,j<i->atE n (L.getD j Af)=0)->i<L.length->atE n (L.getD i Af)≠0->atL n L=atE n (L.getD i Af)
 |x::l,0,_,_,h=>by
  have h:atE n x≠0:=h;simp only[atL,if_pos h];rfl
 |x::l,i+1,h,hi,he=>by
  have h0:atE n x=0:=h 0 (by omega);simp only[atL];rw[if_neg (by rw[h0];exact λk=>k rfl)]
  have:=atL_at (n:=n) (L:=l) (i:=i) (λj hj=>by have:=h (j+1) (by omega);simpa using this) (by simpa using hi) (by simpa using he)
  rw[this];simp
theorem atL_0{n:Int}:∀{L:List At},(∀j,j<L.length->atE n (L.getD j Af)=0)->atL n L=0
 |[],_=>rfl
 |x::l,h=>by
  have h0:atE n x=0:=h 0 (by simp);simp only[atL];rw[if_neg (by rw[h0];exact λk=>k rfl)];exact atL_0 λj hj=>by have:=h (j+1) (by simpa using hj);simpa using this
end
section
open Go.RowKit
attribute [local irreducible] seqW awp zAf zAn zAd Weak updS zAx retL Pure Acts rP setP setQ cP nP fr
set_option maxRecDepth 4096
abbrev boD(bs:List Bool):List D:=bs.map λb=>bD b
theorem zXy(bs:List Bool)(i:Nat)(h:i<bs.length):((boD bs).drop i).headD .unk=bD (bs.getD i Ab):=by simp_all
theorem indexF_c(bs:List Bool)(n:Nat)(hn:bs.length=n)(hb:n<=1000000):∃z:Int,(0<=z↔bs.contains Ad=Ab)/\Pure AB 93 [.row (boD bs) n,bD Ad] [] (iD z):=by
 subst hn;by_cases hc:bs.contains Ad=Ab
 ·obtain⟨p,hp,hq,hm⟩:∃p,p<bs.length/\bs.getD p Ab=Ad/\∀j,j<p->bs.getD j Ab=true:=by
   have hf:∃p,p<bs.length/\bs.getD p Ab=false:=by
    rw[List.contains_iff_mem]at hc;obtain⟨p,h1,h2⟩:=List.mem_iff_getElem.1 hc;exact⟨p,h1,by rw[Bf,A2 h1];exact h2⟩
   let p:=bs.findIdx (· ==Ad);have hlt:p<bs.length:=List.findIdx_lt_length_of_exists (by
    obtain⟨p,h1,h2⟩:=hf;exact⟨Ad,List.contains_iff_mem.1 hc,rfl⟩)
   refine⟨p,hlt,?_,λj hj=>?_⟩;all_goals grind
  refine⟨p,⟨λ_=>hc,λ_=>by omega⟩,?_⟩;refine zF zBb mixed Tryz.func93 rfl ?_;focus
   refine vAu<|zA<|vAe<|zH ?_;rotate_left
  refine zK (λ(i:Nat)=>fr 19 [(0,Aj (boD bs)<|Aa bs),(1,bD Ad),(7,iD<|Aa bs),(8,iD i)]) (λ(i:Nat)=>[]) (λ(i:Nat)=>p-i) (λ(i:Nat)=>i<=p) 0 ?_ ?_ ?_
  ·omega
  ·refine vk 0
  rintro i h1;have hx:=zXy bs i (by omega);have hne:boD bs≠[]:=zAm (by omega);rcases AH i p with h2|h2
  ·rw[hm i h2]at hx;focus
    refine vAu<|zA<|vT ((i:Int)<↑(Aa bs))<|vKB<|vAe ?_;refine vA<|vr 4 (ix ↑i ↑(Aa bs) (boD bs≠[]))<|vp 14 i (boD bs)<|vr 1 (0<Aa (An i<|boD bs))<|vsh 15 hx<|veT<|vf<|zQ<|zD<|vN<|zB rfl<|vr 2 (i6 (↑i+1)) ?_;refine vnil<|zC ?_;rotate_left
   refine⟨i+1,by omega,by omega,?_⟩;refine vk 0
  obtain rfl:i=p:=by omega
  rw[hq]at hx;focus
   refine vAu<|zA<|vT ((i:Int)<↑(Aa bs))<|vKB<|vAe ?_;refine vA<|vr 4 (ix ↑i ↑(Aa bs) (boD bs≠[]))<|vp 14 i (boD bs)<|vr 1 (0<Aa (An i<|boD bs))<|vsh 15 hx<|veT<|vt<|vAe<|zE<|zL<|zG ?_;refine zG<|zL<|zG<|vret (True)<|.inr rfl
 refine⟨-1,⟨λh=>by omega,λh=>absurd h hc⟩,?_⟩;have hall:∀j,j<bs.length->bs.getD j Ab=true:=λj hj=>by
  grind
 refine zF zBb mixed Tryz.func93 rfl ?_;focus
  refine vAu<|zA<|vAe<|zH ?_;rotate_left
 refine zK (λ(i:Nat)=>fr 19 [(0,Aj (boD bs)<|Aa bs),(1,bD Ad),(7,iD<|Aa bs),(8,iD i)]) (λ(i:Nat)=>[]) (λ(i:Nat)=>bs.length-i) (λ(i:Nat)=>i<=bs.length) 0 ?_ ?_ ?_
 ·omega
 ·refine vk 0
 rintro i h1;rcases AH i bs.length with h2|h2
 ·have hx:=zXy bs i h2;have hne:boD bs≠[]:=zAm (by omega);rw[hall i h2]at hx;focus
   refine vAu<|zA<|vT ((i:Int)<↑(Aa bs))<|vKB<|vAe ?_;refine vA<|vr 4 (ix ↑i ↑(Aa bs) (boD bs≠[]))<|vp 14 i (boD bs)<|vr 1 (0<Aa (An i<|boD bs))<|vsh 15 hx<|veT<|vf<|zQ<|zD<|vN<|zB rfl<|vr 2 (i6 (↑i+1)) ?_;refine vnil<|zC ?_;rotate_left
  refine⟨i+1,by omega,by omega,?_⟩;refine vk 0
 focus
  refine vAu<|zA<|vF ((i:Int)<↑(Aa bs))<|vZ2<|vA ?_;refine veT<|zE<|vret (True)<|.inr rfl
theorem zVl(bs:List Bool)(n:Nat)(hn:bs.length=n)(hb:n<=1000000):Pure AB 50 [.row (boD bs) n,bD Ad] [] (bD (bs.contains Ad)):=by
 obtain⟨z,h1,h2⟩:=indexF_c bs n hn hb;cases hc:bs.contains Ad with
 | true=>
  have hz:0<=z:=h1.2 hc;refine zF zBb mixed Tryz.func50 rfl ?_;focus
   refine vAu<|vA<|vrT 2<|vc h2<|veT<|zE ?_;refine vre (True) (Am<|BR<|decide (z>=(0:Int))) (.inr rfl) ?_;rotate_left
  grind
 | false=>
  have hz:¬0<=z:=λh=>by rw[h1.1 h]at hc;cases hc
  refine zF zBb mixed Tryz.func50 rfl ?_;focus
   refine vAu<|vA<|vrT 2<|vc h2<|veT<|zE ?_;refine vre (True) (Am<|BR<|decide (z>=(0:Int))) (.inr rfl) ?_;rotate_left
  grind
theorem repL_bo(n:Nat):repL n [.val (.bool Ad)]=boD (useP n [] []):=by simp_all [zE9,useP_0]
theorem set_bo(bs:List Bool)(v:Nat):(boD bs).set v (bD Ab)=boD (bs.set v Ab):=by simp
abbrev boB(bs:List Bool):Bk:=⟨boD bs,4,1,Ab,Ad, .plain⟩
abbrev atB(a:At):Bk:=⟨atC a,87,0,Ad,Ad, .plain⟩
theorem lfMany_c(n:Int)(ats:List D)(m:Nat)(h0:0<=n)(h1:n<=32)(hm:32<m):Pure AB 14 [iD n, .row ats m] [] (iD 12):=by
 refine zF zBb mixed Tryz.func14 rfl ?_;focus
  refine vAu<|zA<|vA<|vew [] [(2,Ad)] (decide (n<0)=Ad)<|vF (n>(32:Int))<|vK<|zA<|zA ?_;refine zB rfl<|veT<|vT ((m:Int)>(32:Int))<|vAe<|zE<|zG<|vret (True)<|.inr rfl
set_option maxHeartbeats 4000000 in
theorem zSd(n:Nat)(ats:List At)(hn:n<=32)(hm:ats.length<=32)(hl:∀a∈ats,a.V.length<=2000000):Pure AB 14 [iD (n:Nat), .row (ats.flatMap atC) ats.length] [] (iD (if atL n ats≠0 then atL n ats else if(useP n ats []).contains Ad then 22 else 0)):=by
 refine zF zBb mixed Tryz.func14 rfl ?_;focus
  refine vAu<|zA<|vA<|vew [] [(2,Ad)] (decide ((n:Int)<0)=Ad)<|vF ((n:Int)>(32:Int))<|vK<|zA<|zA ?_;refine zB rfl<|veT<|vF ((Aa ats:Int)>(32:Int))<|vK<|vA<|vr 3 ((0:Int)<=(n:Int)/\(n:Int)<=↑n/\(↑(1:Nat):Int)*(n:Int)<=(281474976710656:Int)/\(n:Int)<=(281474976710656:Int)/\0<1/\1=1)<|vs 5 (Ag 0 0 (Au (n:Int)) (Au (n:Int)*1) Ab) (Ag 0 0 n n Ab) (by simp(disch:=omega) only[AT,AR])<|veT<|zA<|vA ?_;refine veT<|zH ?_;rotate_left
 refine zK (λ(i:Nat)=>fr 75 [(0,iD n),(5,Ag 0 0 n n Ab),(22,Aj (Ax atC ats)<|Aa ats),(23,iD<|Aa ats),(24,iD i)]) (λ(i:Nat)=>[boB<|useP n (ats.take i) []]) (λ(i:Nat)=>ats.length-i) (λ(i:Nat)=>i<=ats.length/\∀j,j<i->atE n (ats.getD j Af)=0) 0 ?_ ?_ ?_
 ·grind
 ·refine wkn (fr 75 [(0,iD (↑n:Int)),(4,iD 0),(5,Ag 0 0 n n Ab),(22,Aj (Ax atC ats) (Aa ats)),(23,iD (↑(Aa ats):Int)),(24,iD 0)]) [Al (repL n [bD Ad]) 4 1 Ab Ad (kdOf Ad)] (zC8 [(0,1),(5,1),(22,1),(23,1),(24,1)] (iD (↑n:Int)=iD (↑n:Int)/\Ag 0 0 n n Ab=Ag 0 0 n n Ab/\Aj (Ax atC ats) (Aa ats)=Aj (Ax atC ats) (Aa ats)/\iD (↑(Aa ats):Int)=iD (↑(Aa ats):Int)/\iD 0=iD (↑(0:Nat):Int)) 1 [] ⟨rfl,rfl,rfl,rfl,(by kernel_rfl)⟩ (λ_ _=>rfl) (e:=by simp[updB,repL_bo,zGl]))
 rintro i ⟨h1,h2⟩;rcases AH i ats.length with h3|h3;case inr=>
  have hco:=zVl (useP n ats []) n (zPl ..) (by omega);rw[if_neg (by rw[atL_0 λj hj=>h2 j (by omega)];exact λk=>k rfl),Bq h3];have htn:(boD (useP n ats [])).take n=boD (useP n ats []):=Bq (by simp[zPl]);by_cases hc:(useP n ats []).contains Ad=Ab
  ·rw[hc]at hco;rw[if_pos hc];focus
    refine vAu<|zA<|vF ((i:Int)<↑(Aa ats))<|vZ2<|zA<|zA ?_;refine zB rfl<|vrT 1<|vcl [Aj (AK n<|An 0<|A5<|boB<|useP n ats []) n,bD Ad] [Aj (boD<|useP n ats []) n,bD Ad] (BH (by simp(disch:=omega) only[A9,htn])) (by exact hco)<|veT<|vt<|vAe<|zE<|zG<|vret (True)<|.inr rfl
  rw[if_neg hc];rw[Bool.not_eq_true]at hc;rw[hc]at hco;focus
   refine vAu<|zA<|vF ((i:Int)<↑(Aa ats))<|vZ2<|zA<|zA ?_;refine zB rfl<|vrT 1<|vcl [Aj (AK n<|An 0<|A5<|boB<|useP n ats []) n,bD Ad] [Aj (boD<|useP n ats []) n,bD Ad] (BH (by simp(disch:=omega) only[A9,htn])) (by exact hco)<|veT<|vf<|vK<|vAe<|zE<|vret (True)<|.inr rfl
 have hg2:=zCz zVy ats i h3;have hle:=zEv zVy ats i h3;have hne:=zDe zVy (by decide) ats (by omega);have hat:=atL_at h2 h3;have hvl:=hl _ (zCp ats Af i h3);have htk:=zEj ats i h3;generalize hA:ats.getD i Af=a at*;obtain⟨V,ar,R⟩:=a;simp only at hvl;focus
  refine vAu<|zA<|vT ((i:Int)<↑(Aa ats))<|vKB<|vA<|vr 2 (ix ↑i ↑(Aa ats) (Ax atC ats≠[])/\3<=Aa (An (i*3)<|Ax atC ats)) ?_;refine vs 27 (AD<|AK 3<|An (i*3)<|Ax atC ats) (AD<|atC<|At.mk V ar R) (by simp(disch:=omega) only[hg2])<|ve (Ad=Ad/\Ab=Ab/\3=3/\3<=3)<|zA<|vAe<|zH ?_;rotate_left
 refine zK (λ(k:Nat)=>fr 75 [(0,iD n),(5,Ag 0 0 n n Ab),(7,Ae 1 0),(8,iD (↑k+1)),(22,Aj (Ax atC ats)<|Aa ats),(23,iD<|Aa ats),(24,iD i)]) (λ(k:Nat)=>[boB<|useP n (ats.take i) [],atB ⟨V,ar,R⟩]) (λ(k:Nat)=>V.length-k) (λ(k:Nat)=>(k=0\/k+1<=V.length)/\∀j,j<=k->j<V.length->zV3 V j=Ab) 0 ?_ ?_ ?_
 ·exact⟨.inl rfl,λj h _=>by
   obtain rfl:j=0:=by omega
   rfl⟩
 ·refine vk 2
 rintro k ⟨k1,k2⟩;rcases AH (k+1) V.length with k3|k3
 ·have hneV:(V.map λz=>iD z)≠[]:=zAm (by omega);have hx:=zMj V (k+1) k3;have hx0:=zMj V k (by omega);have hst:zV3 V (k+1)=decide (V.getD k 0<V.getD (k+1) 0):=by simp[zV3]
  have hno:zV3 V (k+1)=Ad->atE n ⟨V,ar,R⟩=16:=λh=>by
   grind [ascB,rng_no,atE]
  have e1:((k+1:Nat):Int)-1=(k:Int):=by omega
  have e2:((k:Int)+1)=((k+1:Nat):Int):=by omega
  by_cases hs:V.getD k 0<V.getD (k+1) 0
  ·generalize V.getD (k+1) 0=v at*;generalize V.getD k 0=u at*;focus
    refine zA<|vAs<|ve (True/\0<3)<|vT ((↑(k+1):Int)<↑(Aa V))<|vKB<|zA<|vd [0,2,3,6,8,1,4,5,7,9,10,11]<|vr 3 (True/\i6 (↑(k+1)-1)) ?_;refine vs 38 (iD (↑(k+1)-1)) (iD k) (by simp(disch:=omega) only[e1])<|vr 4 (True/\0<3/\ix ↑k ↑(Aa V) (Ah (λ(z:Int)=>iD z) V≠[]))<|vp 39 k (Ah (λ(z:Int)=>iD z) V)<|vr 1 (0<Aa (An k<|Ah (λ(z:Int)=>iD z) V))<|vsh 40 hx0<|vr 2 (0<3/\ix ↑(k+1) ↑(Aa V) (Ah (λ(z:Int)=>iD z) V≠[]))<|vp 44 (k+1) (Ah (λ(z:Int)=>iD z) V)<|vr 1 (0<Aa (An (k+1)<|Ah (λ(z:Int)=>iD z) V))<|vsh 45 hx<|veT<|vF (u>=v)<|zQ<|zD<|zC ?_;refine zAw<|zB rfl<|vr 3 (i6 (↑(k+1)+1))<|vnil<|zC ?_;rotate_left
   refine⟨k+1,⟨.inr k3,λj hj hjl=>?_⟩,by omega,?_⟩
   ·grind
   refine vk 2
  have he:atE n ⟨V,ar,R⟩=16:=hno (by rw[hst];exact decide_eq_false hs);rw[he]at hat;rw[if_pos (by rw[hat (by decide)];decide),hat (by decide)];generalize V.getD (k+1) 0=v at*;generalize V.getD k 0=u at*;focus
   refine zA<|vAs<|ve (True/\0<3)<|vT ((↑(k+1):Int)<↑(Aa V))<|vKB<|zA<|vd [0,2,3,6,8,1,4,5,7,9,10,11]<|vr 3 (True/\i6 (↑(k+1)-1)) ?_;refine vs 38 (iD (↑(k+1)-1)) (iD k) (by simp(disch:=omega) only[e1])<|vr 4 (True/\0<3/\ix ↑k ↑(Aa V) (Ah (λ(z:Int)=>iD z) V≠[]))<|vp 39 k (Ah (λ(z:Int)=>iD z) V)<|vr 1 (0<Aa (An k<|Ah (λ(z:Int)=>iD z) V))<|vsh 40 hx0<|vr 2 (0<3/\ix ↑(k+1) ↑(Aa V) (Ah (λ(z:Int)=>iD z) V≠[]))<|vp 44 (k+1) (Ah (λ(z:Int)=>iD z) V)<|vr 1 (0<Aa (An (k+1)<|Ah (λ(z:Int)=>iD z) V))<|vsh 45 hx<|veT<|vT (u>=v)<|vAe ?_;refine zE<|zL<|zG<|zG<|zL<|zG<|zL<|zG<|zG<|zL<|zG<|vret (True)<|.inr rfl
 have hasc:ascB V=true:=rng_yes λj hj=>k2 j (by omega) hj;focus
  refine zA<|vAs<|ve (True/\0<3)<|vF ((k:Int)+(1:Int)<(Aa V:Int))<|vZ2<|zA<|zA ?_;refine zB rfl<|ve (True/\0<3)<|zH ?_;rotate_left
 refine zK (λ(j:Nat)=>fr 75 [(0,iD n),(5,Ag 0 0 n n Ab),(7,Ae 1 0),(22,Aj (Ax atC ats)<|Aa ats),(23,iD<|Aa ats),(24,iD i),(48,Aj (Ah (λ(z:Int)=>iD z) V)<|Aa V),(49,iD<|Aa V),(50,iD j)]) (λ(j:Nat)=>[boB<|useP n (ats.take i)<|V.take j,atB ⟨V,ar,R⟩]) (λ(j:Nat)=>V.length-j) (λ(j:Nat)=>j<=V.length/\∀t,t<j->t<V.length->inB n (V.getD t 0)=Ab) 0 ?_ ?_ ?_
 ·grind
 ·refine vk 2
 clear k1 k2 k3 k;rintro j ⟨j1,j2⟩;rcases AH j V.length with j3|j3
 ·have hneV:(V.map λz=>iD z)≠[]:=zAm (by omega);have hx:=zMj V j j3;have htv:V.take (j+1)=V.take j++[V.getD j 0]:=zEj V j j3;have hno:inB n (V.getD j 0)=Ad->atE n ⟨V,ar,R⟩=3:=λh=>by
   unfold atE;grind
  by_cases hs:0<=V.getD j 0/\V.getD j 0<n
  ·obtain⟨v,hv⟩:∃v:Nat,V.getD j 0=v:=⟨(V.getD j 0).toNat,by omega⟩;rw[hv]at hx htv hs hno;have hin:inB n (V.getD j 0)=true:=by rw[hv];exact decide_eq_true hs
   have hup:=useP_set n (ats.take i) (V.take j) v (by omega);rw[<-htv]at hup;have hsb:=set_bo (useP n (ats.take i) (V.take j)) v;rw[hup]at hsb;have hul:=zPl n (ats.take i) (V.take j);focus
    refine vAu<|zA<|vT ((j:Int)<↑(Aa V))<|vKB<|vA<|vr 1 (ix ↑j ↑(Aa V) (Ah (λ(z:Int)=>iD z) V≠[])) ?_;refine vp 52 j (Ah (λ(z:Int)=>iD z) V)<|vr 1 (0<Aa (An j<|Ah (λ(z:Int)=>iD z) V))<|vsh 53 hx<|veT<|zA<|vA<|vew [] [(2,Ad)] (decide ((v:Int)<0)=Ad)<|vF ((v:Int)>=(n:Int))<|vK<|zB rfl<|vr 3 ((0:Int)<=(v:Int)/\(v:Int)<↑n) ?_;refine vo 63 0 v<|vr 1 (Bk.fz (boB<|useP n (AK i ats)<|AK j V)=Ad/\Ab=Ab/\1=1/\v+1<=Aa (A5<|boB<|useP n (AK i ats)<|AK j V)/\¬0∈[])<|vb 0 (Al (setAt (A5<|boB<|useP n (AK i ats)<|AK j V) v [bD Ab]) (Bt<|boB<|useP n (AK i ats)<|AK j V) (Bv<|boB<|useP n (AK i ats)<|AK j V) Ab Ad<|A8<|boB<|useP n (AK i ats)<|AK j V) (Al (boD<|useP n (AK i ats)<|AK (j+1) V) (4:TypeId) 1 Ab Ad Ao) (by simp(disch:=omega) only[setAt,hsb])<|vnil<|zD<|vN<|zB rfl<|vr 2 (i6 (↑j+1))<|vnil<|zC ?_;rotate_left
   refine⟨j+1,⟨by omega,λt ht htl=>?_⟩,by omega,?_⟩
   ·grind
   refine vk 2
  have he:=hno (decide_eq_false hs);rw[he]at hat;rw[if_pos (by rw[hat (by decide)];decide),hat (by decide)];generalize V.getD j 0=v at*;by_cases hv0:v<0
  ·focus
    refine vAu<|zA<|vT ((j:Int)<↑(Aa V))<|vKB<|vA<|vr 1 (ix ↑j ↑(Aa V) (Ah (λ(z:Int)=>iD z) V≠[])) ?_;refine vp 52 j (Ah (λ(z:Int)=>iD z) V)<|vr 1 (0<Aa (An j<|Ah (λ(z:Int)=>iD z) V))<|vsh 53 hx<|veT<|zA<|vA<|vew [] [(2,Ab)] (decide (v<0)=Ab)<|vt<|vAe<|zE<|zG ?_;refine zL<|zG<|zG<|zL<|zG<|zL<|zG<|zG<|zL<|zG<|vret (True)<|.inr rfl
  have hvn:(n:Int)<=v:=by omega
  focus
   refine vAu<|zA<|vT ((j:Int)<↑(Aa V))<|vKB<|vA<|vr 1 (ix ↑j ↑(Aa V) (Ah (λ(z:Int)=>iD z) V≠[])) ?_;refine vp 52 j (Ah (λ(z:Int)=>iD z) V)<|vr 1 (0<Aa (An j<|Ah (λ(z:Int)=>iD z) V))<|vsh 53 hx<|veT<|zA<|vA<|vew [] [(2,Ad)] (decide (v<0)=Ad)<|vT (v>=(n:Int))<|vAe<|zE<|zG ?_;refine zL<|zG<|zG<|zL<|zG<|zL<|zG<|zG<|zL<|zG<|vret (True)<|.inr rfl
 have hrng:=all_upto (p:=inB n) (d:=0) j3 j2;have hus:useP n (ats.take i) V=useP n (ats.take i++[⟨V,ar,R⟩]) []:=zZ4 n _ ⟨V,ar,R⟩;rw[Bq j3,hus];have hty:=zP2 ar (R.map rowV) R.length;have htk2:ats.take (i+1)=ats.take i++[⟨V,ar,R⟩]:=htk;rw[<-htk2];by_cases hs:(V.length:Int)=ar
 ·subst hs;have he:atE n ⟨V,V.length,R⟩=0:=by
   grind [atE]
  focus
   refine vAu<|zA<|vF ((j:Int)<↑(Aa V))<|vZ2<|zA<|vd [0,3,1,2,4,5,6] ?_;refine vr 5 (True/\True/\0<3/\2<=2)<|vc hty<|veT<|zFs (t:=(Aa V:Int)!=(Aa V:Int)) (by kernel_rfl) (by simp)<|zQ<|zD<|vN<|zB rfl<|vr 2 (i6 (↑i+1))<|vnil<|zC ?_;rotate_left
  refine⟨i+1,⟨by omega,λt ht=>?_⟩,by omega,?_⟩
  ·grind
  refine vk 1
 have he:atE n ⟨V,ar,R⟩=6:=by
  grind [atE]
 rw[he]at hat;rw[if_pos (by rw[hat (by decide)];decide),hat (by decide)];focus
  refine vAu<|zA<|vF ((j:Int)<↑(Aa V))<|vZ2<|zA<|vd [0,3,1,2,4,5,6] ?_;refine vr 5 (True/\True/\0<3/\2<=2)<|vc hty<|veT<|zGb (t:=(Aa V:Int)!=ar) (by kernel_rfl) (by simpa using by omega)<|vAe<|zE<|zL<|zG<|zG<|zL<|zG<|vret (True)<|.inr rfl
def Tcl(N:Nat)(ch:List Nat)(i:FuncId->Bool):Par:=⟨i,λ_ _=>AS,λk=>decide (k<N)&&!ch.contains k,λ
 | .call {callee:= .value (.tmp _),..}=>Ab
 |_=>Ad,λ_=>Ad⟩
theorem zYs(N:Nat)(ch:List Nat)(i:FuncId->Bool):zA7 AB (Tcl N ch i):=by intro t n f h;cases h
theorem zQ1{N:Nat}{ch:List Nat}{i:FuncId->Bool}:∀k,k<N->(Tcl N ch i).keep k=Ab\/k∈ch:=λk hk=>by
 by_cases h:k∈ch
 ·exact .inr h
 refine .inl ?_;show(decide (k<N)&&!ch.contains k)=Ab;rw[decide_eq_true hk];simpa using h
theorem Tcl_ch{N:Nat}{ch:List Nat}{i:FuncId->Bool}:∀k∈ch,(Tcl N ch i).keep k=false:=λk hk=>by
 show(decide (k<N)&&!ch.contains k)=Ad;simp[hk]
theorem cloneR_a(r:List Va)(n:Nat)(hr:r.length=n)(h0:0<n)(hn:n<=1000000):Acts AB 100 [.osl 0 0 n (n*3) Ab] [roB r] [] (.osl 1 0 n (n*3) Ab) [roB r,roB r]:=by
 have hc:=zA0 r;refine zN (zYs 1 [] λ_=>Ad) mixed Tryz.func100 rfl (λk hk=>by
  have:k=0:=by simpa using hk
  subst this;rfl) ?_
 focus
  refine vAu<|zA<|vA<|ve (0<n)<|vf<|vK<|vA ?_;refine vr 4 ((True/\0<3/\3=3/\0<=16777216/\0<=9223372036854775807)/\Ab=Ab/\0=0/\0=0/\64=64/\3=3/\Aa (AK (n*3)<|An 0<|A5<|roB r)=n*3/\0<3/\0<32/\64=64/\(0+n)*32<=140737488355328/\3=3/\Ad=Ad/\(Ad=Ad\/Ad=Ab))<|vs 2 (Ag 1 0 (0+n) ((0+n)*3) Ab) (Ag 1 0 n (n*3) Ab) (by simp(disch:=omega) only[Bh])<|veT<|zE ?_;refine zM (True) [Ag 1 0 n (n*3) Ab] (.inr rfl) ?_;rotate_left
 have e:(zJ r).take (n*3)=zJ r:=Bq (by omega);exact⟨by kernel_rfl,Eq.trans (b:=[roB r,(⟨(zJ r).take (n*3),64,3,Ab,Ad, .plain⟩:Bk)]) (by kernel_rfl) (by rw[e])⟩
def GOk(L:Lay)(cr K:Nat):Prop:=∀(S:Js)(B:Bk),S.row.length=L.n->S.ys.length<K->B.nob=Ab->Acts AB 113 [.row (zJ S.row) L.n, .own cr 0] (lay L S++[B]) L.ch (bD Ab) (lay L {S with ys:=S.ys++[S.row]}++[B])
abbrev bxB(cr:Nat):Bk:=⟨[.clo (.func 113) [] [.own cr 0]],191,0,Ad,Ad, .plain⟩
theorem zY0{st:List Bk}{k:Nat}{b:Bk}(h:st.length=k):zAz (st++[b]) [k]=st++[{b with fz:=Ab}]:=by
 subst h;unfold zAz;show(st++[_]).modify st.length _=_;apply Ba;grind
def Tkp:Par:=⟨λ_=>Ad,λ_ _=>AS,λ_=>Ab,λ_=>Ad,λ_=>Ad⟩
theorem each1_a(L:Lay)(hL:LOk L)(cr K:Nat)(hc:L.bs L.cb=bxB cr)(hcy:∀ys,L.yb ys L.cb=AS)(hcd:L.cb≠L.jb/\L.cb≠L.rb/\∀i,i<L.na->L.ib i≠L.cb)(h0:0<L.n)(h32:L.n<=32)(hcr:cr<L.N/\cr∉L.ch)(hch:∀k∈L.ch,k<L.N)(hG:GOk L cr K):YOk L K:=λS hsn hsr hsk=>by
 have hlc:(lay L S)[L.cb]?=Aq (bxB cr):=by
  rw[zDw hL.cb.1];unfold blk;rw[if_neg hcd.1,if_neg hcd.2.1,zMp hcd.2.2,hcy,<-hc];rfl
 have hlr:=lay_r (S:=S) hL;have hcl:=(cloneR_a S.row L.n hsr h0 (by omega)).at1 (args:=[.osl L.rb 0 L.n (L.n*3) Ab]) L.rb hlr (.inl rfl) (.inl rfl) (zP9 []);rw[zAq]at hcl;have hg:Acts AB 113 [.osl L.N 0 L.n (L.n*3) Ab, .own cr 0] (lay L S++[roB S.row]) L.ch (bD Ab) (lay L {S with ys:=S.ys++[S.row]}++[{roB S.row with fz:=Ab}]):=by
  have h:=hG S {roB S.row with fz:=Ab} hsr hsk rfl;have hlast:(lay L S++[roB S.row])[L.N]?=Aq (roB S.row):=zAr zAq;have hfz:frz Ab (lay L S++[roB S.row]) zAc (.osl L.N 0 L.n (L.n*3) Ab)=Aq (.row (zJ S.row) L.n,[L.N]):=by
   unfold zAc;rw[frz,hlast];have hc:=zA0 S.row;simp only[show(roB S.row).nob=Ab from rfl,if_true];rw[A9,Bq (by show(zJ S.row).length<=_;rw[hc,hsr];exact A0 _)];rfl
  have hw:=Weak.frzSlot (T:=Tkp) (sl:=[.osl L.N 0 L.n (L.n*3) Ab, .own cr 0]) (st:=lay L S++[roB S.row]) (s:=0) rfl hfz;rw[zY0 zAq]at hw;exact h.pre hw λ_ _ _=>rfl
 have key:Acts AB 135 [.osl L.rb 0 L.n (L.n*3) Ab, .own L.cb 0] (lay L S) L.ch (bD Ab) (lay L {S with ys:=S.ys++[S.row]}++[{roB S.row with fz:=Ab}]):=by
  refine zAj (zYs L.N L.ch λf=>f==113||f==100) mixed Tryz.func135 rfl (λk hk=>zQ1 k (by rwa[zAq]at hk)) ?_;focus
   refine vA ?_;refine zAb [] [(3,bD Ad)] ?_;refine zA ?_;refine zA6 [1,0] [(2,[(0,100000)],[3,4])] rfl ?_;refine zA3 1 [(5,Ag (AQ L) 0 (Ar L) (Ar L*3) Ab)] ?_;rotate_left
  refine zAe (Al [AG (Fn.func 113) [] [Ae cr 0]] 191 0 Ad Ad Ao) (A1 L) (AJ 1 1) (AG (Fn.func 113) [] [Ae cr 0]) hlc (by simp) ?_;focus
   refine zAh ?_ (by kernel_rfl);rotate_left
  refine zBz rfl rfl ?_ (hf:=zDn (λx hx=>by rw[zAq];simp at hx;subst hx;exact hL.sm));focus
   refine zY [] [] [Ag (AQ L) 0 (Ar L) (Ar L*3) Ab] [Ag (AQ L) 0 (Ar L) (Ar L*3) Ab] (AZ _) (by exact hcl) ?_;refine zAh ?_ (by kernel_rfl);rotate_left
  refine zDk (by rw[AN];exact Nat.le_add_right _ _) (zDd 0 100000 (bxB cr) L.cb (0<1) (.clo (.func 113) [] [.own cr 0]) (by kernel_rfl) (by
   rw[List.getElem?_take_of_lt (by have:=hL.cb.1;have:=hL.sm;omega)];exact zA2 hlc) (by decide) (by kernel_rfl)) ?_
  focus
   refine zJn [] [] [Ag (Lay.N L) 0 (Ar L) (Ar L*3) Ab,Ae cr 0] [Ag (Lay.N L) 0 (Ar L) (Ar L*3) Ab,Ae cr 0] (¬AQ L∈A4 L/\¬A1 L∈A4 L/\¬cr∈A4 L/\¬AQ L∈A4 L/\¬Lay.N L∈A4 L/\True) (by kernel_rfl) trivial (AZ _) (by exact hg) (by kernel_rfl) ?_ ?_ ?_;rotate_left;rotate_left;refine zA3 1 [(3,bD Ab)] ?_;refine zAh ?_ (by kernel_rfl);refine zBu<|vN<|zE ?_;refine zM (True) [Am<|BR Ab] (.inr rfl) ?_;rotate_left
  ·exact Tcl_ch
  ·exact⟨hL.cht.2.1,hL.cb.2,hcr.2,hL.cht.2.1,λh=>by have:=hch _ h;omega,trivial⟩
  exact⟨by kernel_rfl,rfl⟩
 exact key.tail zAq (by rw[zAq];exact A0 _) (zHb hL) (λj hj=>by simp only[refs])
theorem each_a(m:Mk)(hm:MOk m)(ha:AOk m)(cr:Nat)(ch:List Nat)(yb:List (List Va)->Nat->Option Bk)(hy:YbOk m ch yb)(hp:m.p=m.cb+1)(hbx:m.base m.cb=bxB cr)(h0:0<m.n)(hcr:cr<m.cb/\cr∉ch)(hch:∀k∈ch,k<m.cb)(hn1:∀k,k<m.cb->namB m.cb (m.base k))(hn2:∀ys k b,yb ys k=Aq b->k<m.cb/\namB m.cb b)(M K:Nat)(hM:∀a∈m.A,a.2.length+m.n<=M)(hG:GOk (qL m ch yb) cr K)(hK:(jn m).length<=K)(hC:(m.A.length+1)*(cE m.A.length M m.n)+1<=big)(hchk:Pure AB 14 [iD (m.n:Nat),atsD m.A] [] (iD 0))(st:List Bk)(hst:st.length=m.cb)(hb:∀k,k<m.cb->st[k]?=Aq (m.base k)):∃z:Nat,z<=big/\Acts AB 112 [iD (m.n:Nat), .clo (.func 113) [] [.own cr 0],atsD m.A] st ch (.tup [iD (z:Nat),iD 0]) ((As m.cb).map λk=>(yb (jn m) k).getD (m.base k)):=by
 have hL:=qL_ok hm ha hy;have hn:=ha.n;have hcy:∀ys,yb ys m.cb=none:=λys=>by
  cases e:yb ys m.cb with
  |none=>rfl
  |some b=>exact absurd (hn2 ys _ b e).1 (Nat.lt_irrefl _)
 have hcN:m.cb<m.p:=hm.cb;have hY:YOk (qL m ch yb) K:=each1_a (qL m ch yb) hL cr K (by
  show qblk m _ _ m.cb=_;unfold qblk;rw[if_pos hcN,hbx]) hcy ⟨by show m.cb≠m.p+2;omega,by show m.cb≠m.p;omega,λi hi=>by show m.p+4+m.n+5*i+4≠m.cb;omega⟩ h0 hn ⟨by show cr<m.p+4+m.n+5*m.A.length;omega,hcr.2⟩ (λk hk=>by have:=hch k hk;show k<m.p+4+m.n+5*m.A.length;omega) hG
 have hst1:(st++[bxB cr]).length=m.p:=by rw[AN,hst,hp];rfl
 obtain⟨z,hz,hrun⟩:=run_a m hm ha ch yb hy M K hM hY hK hC (st++[bxB cr]) hst1 (λk hk=>by
  rcases AH k m.cb with h|h
  ·exact zA2 (hb k h)
  obtain rfl:k=m.cb:=by omega
  rw[zAr hst,hbx])
 refine⟨z,hz,?_⟩;have hsp:(As m.p).map (λk=>(yb (jn m) k).getD (m.base k))=(As m.cb).map (λk=>(yb (jn m) k).getD (m.base k))++[bxB cr]:=by
  grind [Bs,jn]
 rw[hsp]at hrun;have key:Acts AB 112 [iD (m.n:Nat), .clo (.func 113) [] [.own cr 0],atsD m.A] st ch (.tup [iD (z:Nat),iD 0]) ((As m.cb).map (λk=>(yb (jn m) k).getD (m.base k))++[bxB cr]):=by
  refine zAj (zYs m.cb ch λf=>f==134) mixed Tryz.func112 rfl (λk hk=>zQ1 k (by rwa[hst]at hk)) ?_;focus
   refine vA ?_;rotate_left
  refine zBc (Mk.cb m) (True) (Al [AG (Fn.func 113) [] [Ae cr 0]] 191 0 Ad Ad Ao) (Ae 0 0) hst ?_;focus
   refine zAb [1] [(6,iD 0),(7,iD 0)] ?_;refine zA<|vA ?_;refine zA3 2 [(9,iD ↑(Mk.n m)),(10,(q9_ m))] ?_;refine zRj [iD ↑(Mk.n m),(q9_ m)] (by exact hchk) ?_;refine zAb [9,10,11] [(8,iD 0)] ?_;refine vA ?_;refine zAb [12] [(13,bD Ad)] ?_;refine vf<|vK<|zA<|vA ?_;rotate_left
  refine zAe (Al [AG (Fn.func 113) [] [Ae cr 0]] 191 0 Ad Ad Ao) (Mk.cb m) (AJ 1 1) (AG (Fn.func 113) [] [Ae cr 0]) (zAr hst) (by simp) ?_;focus
   refine zAb [8,13,15] [(16,bD Ad)] ?_;refine vf<|vK<|vA ?_;refine zA3 3 [(17,iD ↑(Mk.n m)),(18,(q9_ m)),(19,AG (Fn.func 135) [] [Ae (Mk.cb m) 0])] ?_;refine zJn [] [] [iD ↑(Mk.n m),(q9_ m),AG (Fn.func 135) [] [Ae (Mk.cb m) 0]] [iD ↑(Mk.n m),(q9_ m),AG (Fn.func 135) [] [Ae (Mk.cb m) 0]] (¬Mk.cb m∈ch/\¬Mk.cb m∈ch/\True) (by kernel_rfl) trivial (AZ _) (by exact hrun) (by kernel_rfl) ?_ ?_ ?_;rotate_left;rotate_left;refine st_end0 [] [] [0,2,4,16,17,18,19,20,21,22] (0<2/\1<2) [(6,iD z)] (by kernel_rfl) (by omega) ?_;refine zE ?_;refine zM (True) [Am<|Ap BK (z:Int),q2_] (.inr rfl) ?_;rotate_left
  ·exact Tcl_ch
  ·grind
  exact⟨by kernel_rfl,rfl⟩
 refine key.tail (N:=m.cb) (by simp) (by rw[hst];exact A0 _) (λb hb=>?_) (λj hj=>by simp only[refs,zX,AP]);obtain⟨k,hk,rfl⟩:=B5.1 hb;show namB m.cb ((yb (jn m) k).getD (m.base k));cases e:yb (jn m) k with
 |none=>exact hn1 k (A_.1 hk)
 |some b=>exact(hn2 _ _ b e).2
abbrev rvB(ra n:Nat):Bk:=⟨[.osl ra 0 n n Ab],65,0,Ad,Ad, .plain⟩
abbrev raB(ys:List Rw):Bk:=⟨ys.map rowV,54,1,Ab,Ad, .plain⟩
def ybM(cr ra:Nat)(ys:List Rw)(k:Nat):Option Bk:=if k=cr then Aq (rvB ra ys.length)else if k=ra then Aq (raB ys)else AS
structure MkM(m:Mk)(cr ra:Nat):Prop where
 p:m.p=m.cb+1
 lc:cr<m.cb
 la:ra<m.cb
 ne:cr≠ra
 bx:m.base m.cb=bxB cr
 bcr:m.base cr=rvB ra 0
 bra:m.base ra=raB []
 nam:∀k,k<m.cb->namB m.cb (m.base k)
 kill:∀k,k<m.cb->k≠cr->zAk ra (m.base k)=m.base k
section
variable {m : Mk} {cr ra : Nat}
theorem MkM.ok(h:MkM m cr ra):MOk m where
 bs k hk:=by
  have hp:=h.p
  rcases AH k m.cb with h1|h1
  ·exact(h.nam k h1).imp id λh j hj=>h j (by omega)
  obtain rfl:k=m.cb:=by omega
  rw[h.bx]
  have:=h.lc
  refine .inr λj hj=>?_
  simp only[zX,refs,AP,BF,beq_eq_false_iff_ne]
  omega
 cb:=by have:=h.p;omega
theorem zZx(h:MkM m cr ra)(ys:List Rw)(k:Nat)(b:Bk)(e:ybM cr ra ys k=Aq b):k<m.cb/\namB m.cb b:=by
 unfold ybM at e;have h1:=h.lc;have h2:=h.la;split at e
 ·cases e;refine⟨by omega, .inr λj hj=>?_⟩;simp only[zX,refs,AP,beq_eq_false_iff_ne];omega
 split at e
 ·cases e;exact⟨by omega, .inl rfl⟩
 cases e
theorem MkM.yb(h:MkM m cr ra):YbOk m [ra] (ybM cr ra) where
 c k hk:=by
  have:=h.la;have:=h.p
  rw[By.1 hk];omega
 cb hk:=by
  have:=h.la
  have e:=By.1 hk
  omega
 b ys k b e:=by
  obtain⟨h1,h2⟩:=zZx h ys k b e
  have hp:=h.p
  exact⟨by omega,h2.imp id λh j hj=>h j (by omega)⟩
 z k b e:=by
  unfold ybM at e
  split at e
  ·rename_i e1;subst e1;cases e;exact h.bcr.symm
  split at e
  ·rename_i e1;subst e1;cases e;exact h.bra.symm
  cases e
theorem MkM.qk(h:MkM m cr ra){ix:Nat->List Nat}{al:List Nat}{k:Nat}(hk:k≠cr):zAk ra (qblk m ix al k)=qblk m ix al k:=by
 have hp:=h.p;have h1:=h.la;unfold qblk;split
 ·rename_i hkp;rcases AH k m.cb with h3|h3
  ·exact h.kill k h3 hk
  obtain rfl:k=m.cb:=by omega
  rw[h.bx]
  have:=h.ne
  simp_all [zA1,only,zX,refs,AP,BF]
 split
 ·exact zB4 rfl
 split
 ·refine zA1 ?_;have key:∀ls:List Nat,zX ra (ls.map (ltP m ix))=false:=by
   intro ls;induction ls with
   |nil=>simp only[B7,zX]
   |cons v ls ih=>
    simp only[BD,zX,refs,ih,AP,beq_eq_false_iff_ne];omega
  exact key _
 split
 ·refine zA1 ?_;simp only[zX,refs,AP,BF,BE,beq_eq_false_iff_ne];omega
 split
 ·exact zA1 (zGi m ra (by omega) al)
 split
 ·exact zA1 (zGi m ra (by omega) _)
 unfold qatm;split
 ·simp_all [zA1,only,zX,refs,AP]
 split
 ·exact zB4 rfl
 split
 ·exact zA1 (zMg (zBg _) ra)
 simp_all [zA1,only,zX,refs,AP]
theorem MkM.bk(h:MkM m cr ra){S:Js}{k:Nat}(hk:k≠cr):zAk ra (blk (qL m [ra] (ybM cr ra)) S k)=blk (qL m [ra] (ybM cr ra)) S k:=by
 have hp:=h.p;have h1:=h.la;unfold blk;split
 ·refine zA1 ?_;show zX ra [.osl m.p 0 m.n (m.n*3) Ab, .osl (m.p+1) 0 m.n m.n Ab,iD (S.s:Nat), .clo (.func 135) [] [.own m.cb 0]]=Ad;simp only[zX,refs,AP,BF,BE,beq_eq_false_iff_ne];omega
 split
 ·exact zB4 rfl
 split
 ·exact zA1 (zMg (zBg _) ra)
 show zAk ra ((ybM cr ra S.ys k).getD (qblk m _ _ k))=(ybM cr ra S.ys k).getD (qblk m _ _ k);unfold ybM;rw[if_neg hk];split
 ·exact zB4 rfl
 exact h.qk hk
theorem MkM.gcr(h:MkM m cr ra)(S:Js):(lay (qL m [ra] (ybM cr ra)) S)[cr]?=Aq (rvB ra S.ys.length):=by
 have hp:=h.p;have h1:=h.lc;rw[zDw (by show cr<m.p+4+m.n+5*m.A.length;omega),zVv S (by omega)];unfold ybM;rw[if_pos rfl];rfl
theorem MkM.gra(h:MkM m cr ra)(S:Js):(lay (qL m [ra] (ybM cr ra)) S)[ra]?=Aq (raB S.ys):=by
 have hp:=h.p;have h1:=h.la;rw[zDw (by show ra<m.p+4+m.n+5*m.A.length;omega),zVv S (by omega)];unfold ybM;rw[if_neg (Ne.symm h.ne),if_pos rfl];rfl
theorem MkM.step(h:MkM m cr ra)(S:Js)(y:Rw):(((lay (qL m [ra] (ybM cr ra)) S).map (zAk ra)).set ra (raB (S.ys++[y]))).set cr (rvB ra (S.ys.length+1))=lay (qL m [ra] (ybM cr ra)) {S with ys:=S.ys++[y]}:=by
 have hp:=h.p;have h1:=h.lc;have h2:=h.la;have hne:=h.ne;apply Ba;intro j;have hgc:=h.gcr {S with ys:=S.ys++[y]};have hga:=h.gra {S with ys:=S.ys++[y]};have hlen:(lay (qL m [ra] (ybM cr ra)) S).length=m.p+4+m.n+5*m.A.length:=zAq;have hlen2:(lay (qL m [ra] (ybM cr ra)) {S with ys:=S.ys++[y]}).length=m.p+4+m.n+5*m.A.length:=zAq;rw[Bw,Bl,A7,hlen];split
 ·grind
 rename_i e;rw[Bw,A7,hlen];split
 ·grind
 rename_i e2;rw[Bp];rcases AH j (m.p+4+m.n+5*m.A.length)with hj|hj
 ·rw [zDw hj,zDw hj,BT,h.bk (Ne.symm e)];congr 1;have hyb:∀ys,ybM cr ra ys j=none:=λys=>by
   grind [ybM]
  unfold blk;split
  ·rfl
  split
  ·rfl
  split
  ·rfl
  show(ybM cr ra S.ys j).getD _=(ybM cr ra (S.ys++[y]) j).getD _;rw[hyb,hyb]
 grind
theorem MkM.gk(h:MkM m cr ra)(S:Js)(b:Bk):(((lay (qL m [ra] (ybM cr ra)) S).map (zAk ra)).set ra b)[cr]?=Aq ⟨[.unk],65,0,Ad,Ad, .plain⟩:=by
 rw[Cg (Ne.symm h.ne),Bp,h.gcr S,BT];congr 1;show(⟨[.osl ra 0 S.ys.length S.ys.length Ab].map (zAi ra),65,0,Ad,Ad, .plain⟩:Bk)=_;grind [zQj]
abbrev q13_(x0:Js)(x1:Mk):=Aj (zJ (Js.row x0)) (Mk.n x1)
theorem mat2_a(h:MkM m cr ra)(ha:AOk m):GOk (qL m [ra] (ybM cr ra)) cr 65536:=by
 intro S B hr hy hB;have hcr:=h.gcr S;have hra:=h.gra S;have hne:=h.ne;have hl0:(lay (qL m [ra] (ybM cr ra)) S).length=m.p+4+m.n+5*m.A.length:=zAq;have hl1:(lay (qL m [ra] (ybM cr ra)) S++[B]).length=m.p+4+m.n+5*m.A.length+1:=by rw[AN,hl0];rfl
 have h1:=h.p;have h2:=h.lc;have h3:=h.la;have key:Acts AB 113 [.row (zJ S.row) m.n, .own cr 0] (lay (qL m [ra] (ybM cr ra)) S++[B]) [ra] (bD Ab) (lay (qL m [ra] (ybM cr ra)) {S with ys:=S.ys++[S.row]}++[B]++[⟨[.row (zJ S.row) m.n],54,1,Ab,Ad, .plain⟩]):=by
  refine zAj (zYs (m.p+4+m.n+5*m.A.length+1) [ra] λ_=>Ad) mixed Tryz.func113 rfl (λk hk=>zQ1 k (by rwa[hl1]at hk)) ?_;focus
   refine vA ?_;refine zAb [] [(3,bD Ad)] ?_;refine vA ?_;rotate_left
  refine zAe (Al [Ag ra 0 (Aa<|AY S) (Aa<|AY S) Ab] 65 0 Ad Ad Ao) (cr) (AJ 1 1) (Ag ra 0 (Aa<|AY S) (Aa<|AY S) Ab) (zA2 hcr) (by simp) ?_;focus
   refine zA3 1 [(5,(q13_ S m))] ?_;rotate_left
  refine zBc (Mk.p m+4+Mk.n m+5*Aa (Mk.A m)+1) ((1=1/\1<=1/\True)/\0<1/\1=1/\1<=16777216/\1<=9223372036854775807) (Al [(q13_ S m)] 54 1 Ab Ad Ao) (Ag 0 0 1 1 Ab) hl1 ?_ (hp:=⟨⟨(by kernel_rfl),⟨(by omega),trivial⟩⟩,(by omega)⟩);refine zLm (Al (Ah rowV<|AY S) 54 1 Ab Ad Ao) (Al [(q13_ S m)] 54 1 Ab Ad Ao) 4 (ra) (Mk.p m+4+Mk.n m+5*Aa (Mk.A m)+1) (Ab=Ab/\Aa (Ah rowV<|AY S)=Aa (AY S)*1/\Aa (AY S)=Aa (AY S)*1/\54=54/\1=1/\1=1/\0<1/\0<24/\54=54/\(Aa (AY S)+1)*24<=140737488355328/\1=1/\Bi Ao=Ad/\(zCs AB (Tcl (Mk.p m+4+Mk.n m+5*Aa (Mk.A m)+1) [ra] λ(x:FuncId)=>Ad) 65=Ad\/Bj Ao=Ab)) (cr≠ra/\Mk.p m+4+Mk.n m+5*Aa (Mk.A m)+1≠ra/\True) (Al (Ah rowV (AY S)++[(q13_ S m)]) 54 1 Ab Ad Ao) (Ag ra 0 (Aa (AY S)+1) ((Aa (AY S)+1)*1) Ab) (by kernel_rfl) (zA2<|zA2 hra) (zAr hl1) ?_ (by kernel_rfl) ⟨(by omega),⟨(by omega),trivial⟩⟩ ?_ ?_
  ·exact⟨rfl,by simp,by omega,rfl,rfl,rfl,by decide,by decide,rfl,by have:S.ys.length<65536:=hy;omega,rfl,rfl, .inl (by kernel_rfl)⟩
  ·grind [Tcl_ch]
  rw[kill1 (k:=ra) (by rw[hl1];omega) (zB4 rfl),kill1 (k:=ra) (by rw[hl0];omega) (zB4 hB)];refine zB3 (Al [Uk] 65 0 Ad Ad Ao) (cr) (Ad=Ad/\Ab=Ab/\1=1/\1<=1) (Al [Ag ra 0 (Aa (AY S)+1) ((Aa (AY S)+1)*1) Ab] 65 0 Ad Ad Ao) (zA2<|zA2<|h.gk S _) ⟨(by kernel_rfl),⟨(by kernel_rfl),(by omega)⟩⟩ ?_;have hcs:S.ys.map rowV++[.row (zJ S.row) m.n]=(S.ys++[S.row]).map rowV:=by
   rw[Cr];show _=_++[rowV S.row];rw[<-(show S.row.length=m.n from hr)]
  have hys:S.ys.length<65536:=hy;have hcr2:=h.gcr {S with ys:=S.ys++[S.row]};rw[show(S.ys++[S.row]).length=S.ys.length+1 by simp]at hcr2;refine zFy (lay (qL m [ra]<|ybM cr ra) {S with ys:=S.ys++[S.row]}++[B]++[⟨[.row (zJ S.row) m.n],54,1,Ab,Ad,.plain⟩]) ?_ ?_
  ·rw[hcs,zBj (by rw[AN,Bl,A7,hl0];omega),zBj (by rw[Bl,A7,hl0];omega),<-h.step S S.row,AR]
  focus
   refine zAb [0,5,6,7] [] ?_;refine vA ?_;rotate_left
  refine zAe (Al [Ag ra 0 (Aa (AY S)+1) (Aa (AY S)+1) Ab] 65 0 Ad Ad Ao) (cr) (AJ 1 1) (Ag ra 0 (Aa (AY S)+1) (Aa (AY S)+1) Ab) (zA2<|zA2 hcr2) (by simp) ?_;focus
   refine zAb [1,8,9,10] [(3,bD<|decide ((↑(Aa (AY S)+1):Int)<=(65536:Int)))] ?_;refine zE ?_;refine zM (True) [Am<|BR<|decide ((↑(Aa (AY S)+1):Int)<=(65536:Int))] (.inr rfl) ?_;rotate_left
  have hd:decide (((S.ys.length+1:Nat):Int)<=65536)=true:=decide_eq_true (by omega);exact⟨Eq.trans (b:=bD (decide (((S.ys.length+1:Nat):Int)<=65536))) (by kernel_rfl) (by rw[hd]),rfl⟩
 exact key.tail (N:=m.p+4+m.n+5*m.A.length+1) (by rw[AN,zAq];rfl) (by rw[hl1];exact A0 _) (λb hb=>by
  have hL:=qL_ok h.ok ha h.yb;rcases BN.1 hb with hb|hb
  ·exact(zHb hL b hb).imp id λk j hj=>k j (by have hj:m.p+4+m.n+5*m.A.length+1<=j:=hj;show m.p+4+m.n+5*m.A.length<=j;omega)
  rw[By.1 hb];exact .inl hB) (λj hj=>by simp only[refs])
end
theorem zSo(p:Nat->Bool)(V:List Nat)(i:Nat)(h:i<V.length):(V.take (i+1)).filter p=(V.take i).filter p++if p (V.getD i 0)then[V.getD i 0]else[]:=by
 grind [Cy,A2,List.filter,only]
theorem zSp(p:Nat->Bool)(V:List Nat):∀i,i<=V.length->((V.take i).filter p).length=(((As V.length).take i).filter λj=>p (V.getD j 0)).length
 |0,_=>by simp
 |i+1,h=>by
  rw[zSo p V i h,zMw p V i h,AN,AN,zSp p V i (by omega)];split<;>rfl
theorem zQv(p:Nat->Bool)(V:List Nat):(V.filter p).length=(zBy p V).length:=by
 have h:=zSp p V V.length (A0 _);rw[Bx,Bq (by simp)]at h;exact h
theorem zJ7(p:Nat->Bool)(V:List Nat):∀c∈zBy p V,c<V.length:=λc hc=>A_.1 (Ck.1 hc).1
abbrev nl0:D:= .val (.slice AS 0 0)
abbrev aaB(x y z:D):Bk:=⟨[x,y,z],87,0,Ad,Ad, .plain⟩
set_option maxHeartbeats 2000000 in
theorem project_c(V:List Nat)(R:List Rw)(m:Nat)(hm:m<4294967296)(hV:V.Pairwise (· <·))(hV2:∀v∈V,v<32)(hl:V.length<=32)(hR:R.length<=65536)(hRl:∀r∈R,r.length=V.length):Pure AB 111 [.agg [.row (nsD V) V.length,iD (V.length:Nat), .row (R.map rowV) R.length],u32D m] [] (.tup [.agg [.row (nsD (V.filter λv=>m.testBit v)) (V.filter λv=>m.testBit v).length,iD ((V.filter λv=>m.testBit v).length:Nat), .row ((relR (R.map λr=>zT r (zBy (λv=>m.testBit v) V))).map rowV) (relR (R.map λr=>zT r (zBy (λv=>m.testBit v) V))).length],iD 0]):=by
 have hra:=zP2 (V.length:Nat) (R.map rowV) R.length;refine zF zBb mixed Tryz.func111 rfl ?_;focus
  refine vAu<|zA<|vAe<|zH ?_;rotate_left
 refine zK (λ(i:Nat)=>fr 96 [(1,u32D m),(2,Ae 0 0),(4,Ae 1 0),(6,iD i)]) (λ(i:Nat)=>[aaB (.row (nsD V) V.length) (iD (V.length:Nat))<|.row (R.map rowV) R.length,aaB nl0 (iD 0) nl0]) (λ(i:Nat)=>V.length+1-i) (λ(i:Nat)=>1<=i/\i<=V.length+1) 1 ?_ ?_ ?_
 ·omega
 ·refine vk 2
 rintro i ⟨h1,h2⟩;rcases AH i V.length with h3|h3
 ·have e1:(((i:Nat):Int)-1).toNat=i-1:=by omega
  have h5:V.getD (i-1) 0<V.getD i 0:=by
   grind [CD,A2]
  focus
   refine zA<|vAs<|ve (True/\0<3)<|vT ((i:Int)<↑(Aa V))<|vKB<|zA<|vd [0,2,3,6,8,1,4,5,7,9,10,11]<|vr 7 (True/\i6 (↑i-1)/\True/\0<3/\ix ((i:Int)-(1:Int)) (Aa V:Int) (nsD V≠[])) ?_ ⟨trivial,(by omega),trivial,(by omega),⟨(by omega),⟨(by omega),(by exact zAm (by omega))⟩⟩⟩;refine vs 26 (AU<|An (Au ((i:Int)-(1:Int))*1)<|nsD V) (AU<|An (i-1)<|nsD V) (by simp(disch:=omega) only[AR,e1])<|vr 1 (0<Aa (An (i-1)<|nsD V))<|vs 27 (AO (An (i-1)<|nsD V) Uk) (iD (↑(AE V (i-1) 0):Int)) (by simp(disch:=omega) only[zCl])<|vr 2 (0<3/\ix ↑i ↑(Aa V) (nsD V≠[])) (vp 31 i (nsD V)<|vr 1 (0<Aa (An i<|nsD V))<|vs 32 (AO (An i<|nsD V) Uk) (iD ↑(AE V i 0)) (by simp(disch:=omega) only[zCl])<|veT<|vF ((↑(AE V (i-1) 0):Int)>=(↑(AE V i 0):Int))<|zQ<|zD<|vN<|zB rfl ?_) ⟨(by omega),⟨(by omega),⟨(by omega),(by exact zAm (by omega))⟩⟩⟩;refine vr 3 (i6 (↑i+1))<|vnil<|zC ?_;rotate_left
  refine⟨i+1,by omega,by omega,?_⟩;refine vk 2
 focus
  refine zA<|vAs<|ve (True/\0<3)<|vF ((i:Int)<↑(Aa V))<|vZ2<|zA<|zA ?_;refine zB rfl<|ve (True/\0<3)<|zH ?_;rotate_left
 refine zK (λ(i:Nat)=>fr 96 [(1,u32D m),(2,Ae 0 0),(4,Ae 1 0),(36,(q5_ V)),(37,iD<|Aa V),(38,iD i)]) (λ(i:Nat)=>[aaB (.row (nsD V) V.length) (iD (V.length:Nat))<|.row (R.map rowV) R.length,aaB nl0 (iD 0) nl0]) (λ(i:Nat)=>V.length-i) (λ(i:Nat)=>i<=V.length) 0 ?_ ?_ ?_
 ·omega
 ·refine vk 2
 intro i h1;rcases AH i V.length with h3|h3
 ·have h5:=hV2 _ (zBv V i h3);focus
   refine vAu<|zA<|vT ((i:Int)<↑(Aa V))<|vKB<|vA<|vr 1 (ix ↑i ↑(Aa V) (nsD V≠[])) ?_ ⟨(by omega),⟨(by omega),(by exact zAm (by omega))⟩⟩;refine vp 40 i (nsD V)<|vr 1 (0<Aa (An i<|nsD V))<|vs 41 (AO (An i<|nsD V) Uk) (iD ↑(AE V i 0)) (by simp(disch:=omega) only[zCl])<|veT<|vA<|vew [] [(2,Ad)] (decide ((↑(AE V i 0):Int)<0)=Ad)<|vF ((↑(AE V i 0):Int)>=(32:Int))<|zQ<|zD<|vN<|zB rfl<|vr 2 (i6 (↑i+1)) ?_;refine vnil<|zC ?_;rotate_left
  refine⟨i+1,by omega,by omega,?_⟩;refine vk 2
 focus
  refine vAu<|zA<|vF ((i:Int)<↑(Aa V))<|vZ2<|zA<|zA ?_;refine vd [0,3,1,2,4,5,6]<|vr 5 (True/\True/\0<3/\2<=2)<|vc hra<|veT<|zFs (t:=(Aa V:Int)!=(Aa V:Int)) (by kernel_rfl) (by simp)<|vK<|vAe<|vA<|vrT 1 ?_;refine vnil<|zC<|vnn (fr 96 [(1,u32D m),(2,Ae 0 0),(4,Ae 1 0),(9,Ae 2 0),(10,nl)]) [aaB ((q5_ V)) (iD<|Aa V)<|Aj (Ah rowV R)<|Aa R,aaB nl0 (iD 0) nl0,q12_] ?_;rotate_left
 refine zBx (Weak.nilC (j:=2) (i:=0) (ej:=aaB nl0 (iD 0) nl0) (intB []) rfl rfl rfl rfl) ?_;focus
  refine zA<|vAs<|ve (True/\0<3)<|zH ?_;rotate_left
 refine zC0 (λ(i:Nat)(l1:List Nat)(l2:List Nat)=>fr 96 [(1,u32D m),(2,Ae 0 0),(4,Ae 1 0),(9,Ae 2 0),(10,Ag 4 0 (Aa l2) (Aa l2) Ab),(59,(q5_ V)),(60,iD<|Aa V),(61,iD i)]) (λi l1 l2=>[aaB (.row (nsD V) V.length) (iD (V.length:Nat))<|.row (R.map rowV) R.length,aaB nl0 (iD 0) nl0,aaB (.osl 3 0 l1.length l1.length Ab) (iD 0) nl0,intB<|nsD l1,intB<|nsD l2]) (λi l1 l2=>V.length-i) (λ(i:Nat)(l1 l2:List Nat)=>i<=V.length/\l1=(V.take i).filter (λv=>m.testBit v)/\l2=((As V.length).take i).filter λj=>m.testBit (V.getD j 0)) 0 [] [] ?_ ?_ ?_
 ·grind
 ·refine vk 4
 rintro i l1 l2 ⟨h1,h2,h2'⟩;rcases AH i V.length with h3|h3
 ·have h4:=zSo (λv=>m.testBit v) V i h3;have h4':=zMw (λv=>m.testBit v) V i h3;rw[<-h2]at h4;rw[<-h2']at h4';have hlen:l1.length<=32:=by rw[h2];exact AF (BB _ _) (by simp;omega)
  have hlen':l2.length<=32:=by rw[h2'];exact AF (BB _ _) (by simp;omega)
  have h5:=hV2 _ (zBv V i h3);focus
   refine vAu<|zA<|vT ((i:Int)<↑(Aa V))<|vKB<|vA<|vr 2 (ix ↑i ↑(Aa V) (nsD V≠[])) ?_ ⟨(by omega),⟨(by omega),(by exact zAm (by omega))⟩⟩;refine vp 64 i (nsD V)<|vr 1 (0<Aa (An i<|nsD V))<|vs 65 (AO (An i<|nsD V) Uk) (iD ↑(AE V i 0)) (by simp(disch:=omega) only[zCl])<|veT<|vA<|vr 3 ((0:Int)<=(↑(AE V i 0):Int))<|vs 68 (Am<|Ap BL<|Int.fdiv (m:Int) ((2:Int)^min (Au (↑(AE V i 0):Int)) 32)) (dig (m>>>AE V i 0)) (by simp(disch:=omega) only[AT,zE4])<|vrT 1<|vs 69 (Am<|Ap BL<|BJ BL (↑(BV (Bm 32 (↑(m>>>AE V i 0):Int)&&&Bm 32 (1:Int))):Int)) (dig<|BV (Bm 32 (↑(m>>>AE V i 0):Int)&&&Bm 32 (1:Int))) (by simp(disch:=omega) only[zA4])<|vrT 1<|vs 70 (bD ((↑(BV (Bm 32 (↑(m>>>AE V i 0):Int)&&&Bm 32 (1:Int))):Int)==(1:Int))) (bD<|Bn m<|AE V i 0) (by simp(disch:=omega) only[bit_b])<|veT ?_;refine zAa (t:=Bn m (AE V i 0)) (by kernel_rfl) (λhc=>?_)<|λhc=>?_;refine vA<|vr 7 (True/\0<3/\((1=1/\1<=1/\True)/\0<1/\1=1/\1<=16777216/\1<=9223372036854775807)/\(BM (intB<|nsD l1)=Ab/\Aa (A5<|intB<|nsD l1)=Aa l1*1/\Aa l1=Aa l1*1/\Bt (intB<|nsD l1)=3/\Bv (intB<|nsD l1)=1/\1=1/\0<1/\0<8/\3=3/\(Aa l1+1)*8<=140737488355328/\1=1/\Bi (A8<|intB<|nsD l1)=Ad/\(Ad=Ad\/Bj (A8<|intB<|nsD l1)=Ab))/\True/\Ad=Ad/\Ab=Ab/\1=1/\1<=3)<|vb 2 (Al [Ag 3 0 (Aa l1+1) ((Aa l1+1)*1) Ab,iD 0,nl] 87 0 Ad Ad Ao) (Al [Ag 3 0 (Aa l1+1) (Aa l1+1) Ab,iD 0,nl] 87 0 Ad Ad Ao) (by simp(disch:=omega) only[AR])<|veT<|zB rfl<|vr 5 (((1=1/\1<=1/\True)/\0<1/\1=1/\1<=16777216/\1<=9223372036854775807)/\Ab=Ab/\Aa (nsD l2)=Aa l2*1/\Aa l2=Aa l2*1/\3=3/\1=1/\1=1/\0<1/\0<8/\3=3/\(Aa l2+1)*8<=140737488355328/\1=1/\Bi Ao=Ad/\(Ad=Ad\/Bj Ao=Ab))<|vs 10 (Ag 4 0 (Aa l2+1) ((Aa l2+1)*1) Ab) (Ag 4 0 (Aa l2+1) (Aa l2+1) Ab) (by simp(disch:=omega) only[AR]) ?_;refine vnil<|zD<|vN<|zB rfl<|vr 2 (i6 (↑i+1))<|vnil<|zC ?_;rotate_left;refine zQ<|zD<|vN<|zB rfl<|vr 2 (i6 (↑i+1))<|vnil<|zC ?_;rotate_left
  ·have hc2:m.testBit (V.getD i 0)=true:=by assumption
   rw[hc2,if_pos rfl]at h4 h4';refine⟨i+1,l1++[V.getD i 0],l2++[i],⟨by omega,h4.symm,h4'.symm⟩,by omega,?_⟩;rw[zL5,zL5,AN,AN];refine vk 5
  have hc2:m.testBit (V.getD i 0)=false:=by assumption
  rw[hc2,if_neg (by decide),BU]at h4 h4';refine⟨i+1,l1,l2,⟨by omega,h4.symm,h4'.symm⟩,by omega,?_⟩;refine vk 5
 obtain rfl:i=V.length:=by omega
 rw[Bx]at h2;rw[Bq (by simp)]at h2';obtain⟨cs,hcs⟩:∃cs,cs=zBy (λv=>m.testBit v) V:=⟨_,rfl⟩;have hl12:=zQv (λv=>m.testBit v) V;have hlt:=zJ7 (λv=>m.testBit v) V;have hcl:(zBy (λv=>m.testBit v) V).length<=32:=by rw[<-hl12];exact AF (BB _ _) hl
 rw[hl12];rw[<-hcs]at hl12 hlt hcl⊢;rw[<-h2]at hl12⊢;have hce:l2=cs:=by rw[h2',hcs];rfl
 subst hce;have hpr:=zRs V.length R l2 hR hcl hRl (by omega) hlt;have hns:=zNw l2 _ rfl;have hns1:(nsD l1).take l2.length=nsD l1:=zNw l1 _ hl12;rw[hl12];focus
  refine vAu<|zA<|vF ((Aa V:Int)<↑(Aa V))<|vZ2<|vA ?_;refine vr 3 (True/\2<=2)<|vcl [AD [iD<|Aa V,Aj (Ah rowV R)<|Aa R],Aj (AK (Aa l2)<|An 0<|A5<|intB<|nsD l2)<|Aa l2] [AD [iD<|Aa V,Aj (Ah rowV R)<|Aa R],Aj (nsD l2)<|Aa l2] (BH (by simp(disch:=omega) only[A9,hns])) (by exact hpr)<|ve (0<2/\1<2/\Ad=Ad/\Ab=Ab/\2=2/\2<=2)<|zA<|vAe<|vf<|vK<|vA<|ve (2<=2/\True/\Bk.fz (aaB (Ag 3 0 (Aa l2) (Aa l2) Ab) (iD 0) nl0)=Ad/\Ab=Ab/\2=2/\3<=3) ?_;refine vA<|ve (3<=3/\Ad=Ad/\Ab=Ab/\3=3/\3<=3)<|zE ?_;refine zCf (3<=3) (D.tup [AD [Aj (AK (Aa l2)<|An 0<|A5<|intB<|nsD l1)<|Aa l2,iD<|Aa l2,Aj (Ah rowV<|relR<|Ah (λ(r:List Va)=>zT r l2) R)<|Aa<|relR<|Ah (λ(r:List Va)=>zT r l2) R],iD 0]) (D.tup [AD [Aj (nsD l1)<|Aa l2,Am<|Ap BK (Aa l2:Int),Aj (Ah rowV<|relR<|Ah (λ(r:List Va)=>zT r l2) R)<|Aa<|relR<|Ah (λ(r:List Va)=>zT r l2) R],Am<|Ap BK 0]) (.inr rfl) (by omega) (by simp(disch:=omega) only[A9,hns1]) rfl
theorem rename_c(V num:List Nat)(ar:Nat)(R:List D)(l:Nat)(hl:V.length<=32)(hn:num.length=32)(hV:∀v∈V,v<32):Pure AB 110 [.agg [.row (nsD V) V.length,iD (ar:Nat), .row R l], .ptr [.row (nsD num) 32]] [] (.agg [.row (nsD (V.map λv=>num.getD v 0)) V.length,iD (ar:Nat), .row R l]):=by
 refine zF zBb mixed Tryz.func110 rfl ?_;focus
  refine vAu<|vA<|vr 5 (True/\2<=2/\((2=2/\3<=3/\True)/\Ab=Ab)/\Ad=Ad/\Ab=Ab/\3=3/\3<=3)<|vnil<|zC<|vnn (fr 28 [(1,AU [Aj (nsD num) 32]),(2,Ae 0 0),(3,Ae 1 0),(4,Ae 2 0),(7,Ae 0 1),(8,AD [iD ar,Aj R l]),(9,AD [nl,iD ar,Aj R l])]) [Al [(q5_ V),iD ar,Aj R l] 87 0 Ad Ad Ao,q12_,Al [nl,iD ar,Aj R l] 87 0 Ad Ad Ao] ?_;rotate_left
 refine zBx (Weak.nilC (j:=2) (i:=0) (ej:=aaB nl0 (iD (ar:Nat)) (.row R l)) (intB []) rfl rfl rfl rfl) ?_;focus
  refine zA<|vAs<|ve (True/\0<3)<|zH ?_;rotate_left
 refine zK (λ(i:Nat)=>fr 28 [(1,AU [Aj (nsD num) 32]),(3,Ae 1 0),(4,Ae 2 0),(11,(q5_ V)),(12,iD<|Aa V),(13,iD i)]) (λ(i:Nat)=>[aaB (.row (nsD V) V.length) (iD (ar:Nat))<|.row R l,aaB nl0 (iD 0) nl0,aaB (.osl 3 0 i i Ab) (iD (ar:Nat))<|.row R l,intB<|nsD ((V.take i).map λv=>num.getD v 0)]) (λ(i:Nat)=>V.length-i) (λ(i:Nat)=>i<=V.length) 0 ?_ ?_ ?_
 ·omega
 ·refine vk 4
 intro i h1;rcases AH i V.length with h3|h3
 ·have h5:=hV _ (zBv V i h3);have h6:(V.take (i+1)).map (λv=>num.getD v 0)=(V.take i).map (λv=>num.getD v 0)++[num.getD (V.getD i 0) 0]:=by
   grind [Cy,A2]
  have h7:=zCl num (V.getD i 0) (by omega);have h8:((V.take i).map λv=>num.getD v 0).length=i:=by simp;omega
  have h9:0<((nsD num).drop (V.getD i 0)).length:=by rw[List.length_drop,A7,hn];omega
  generalize (V.take i).map (λv=>num.getD v 0)=cs at*;subst h8;focus
   refine vAu<|zA<|vT ((Aa cs:Int)<↑(Aa V))<|vKB<|vA<|vr 1 (ix ↑(Aa cs) ↑(Aa V) (nsD V≠[])) ?_ ⟨(by omega),⟨(by omega),(by exact zAm (by omega))⟩⟩;refine vp 15 (Aa cs) (nsD V)<|vr 1 (0<Aa (An (Aa cs)<|nsD V))<|vs 16 (AO (An (Aa cs)<|nsD V) Uk) (iD (↑(AE V (Aa cs) 0):Int)) (by simp(disch:=omega) only[zCl])<|veT<|vd [0,3,1,2,4,5,6,7,8,9]<|vr 5 (True/\0<3/\0<1/\ix (↑(AE V (Aa cs) 0):Int) (↑(32:Nat):Int) (nsD num≠[])) (vp 21 (AE V (Aa cs) 0) (nsD num)<|vr 1 (0<Aa (An (AE V (Aa cs) 0)<|nsD num))<|vs 22 (AO (An (AE V (Aa cs) 0)<|nsD num) Uk) (iD (↑(AE num (AE V (Aa cs) 0) 0):Int)) (by simp(disch:=omega) only[zCl])<|vr 4 (((1=1/\1<=1/\True)/\0<1/\1=1/\1<=16777216/\1<=9223372036854775807)/\(BM (intB<|nsD cs)=Ab/\Aa (A5<|intB<|nsD cs)=Aa cs*1/\Aa cs=Aa cs*1/\Bt (intB<|nsD cs)=3/\Bv (intB<|nsD cs)=1/\1=1/\0<1/\0<8/\3=3/\(Aa cs+1)*8<=140737488355328/\1=1/\Bi (A8<|intB<|nsD cs)=Ad/\(Ad=Ad\/Bj (A8<|intB<|nsD cs)=Ab))/\True/\Ad=Ad/\Ab=Ab/\1=1/\1<=3)<|vb 2 (Al [Ag 3 0 (Aa cs+1) ((Aa cs+1)*1) Ab,iD ar,Aj R l] 87 0 Ad Ad Ao) (Al [Ag 3 0 (Aa cs+1) (Aa cs+1) Ab,iD ar,Aj R l] 87 0 Ad Ad Ao) (by simp(disch:=omega) only[AR]) ?_) ⟨trivial,(by omega),(by omega),⟨(by omega),⟨(by omega),(by exact zAm (by omega))⟩⟩⟩;refine vnil<|zD<|vN<|zB rfl<|vr 2 (i6 (↑(Aa cs)+1))<|vnil<|zC ?_;rotate_left
  refine⟨cs.length+1,by omega,by omega,?_⟩;rw[h6,zL5];refine vk 4
 obtain rfl:i=V.length:=by omega
 rw[Bx];have hns:=zNw (V.map λv=>num.getD v 0) V.length (by simp);focus
  refine vAu<|zA<|vF ((Aa V:Int)<↑(Aa V))<|vZ2<|vA ?_;refine ve (3<=3/\Ad=Ad/\Ab=Ab/\3=3/\3<=3)<|zE ?_;refine zCf (3<=3) (AD [Aj (AK (Aa V)<|An 0<|A5<|intB<|nsD<|Ah (λ(v:Nat)=>AE num v 0) V)<|Aa V,iD ar,Aj R l]) (AD [Aj (nsD<|Ah (λ(v:Nat)=>AE num v 0) V)<|Aa V,Am<|Ap BK (ar:Int),Aj R l]) (.inr rfl) (by omega) (by simp(disch:=omega) only[A9,hns]) rfl
def numL(m:Nat):List Nat:=(As 32).map λu=>if m.testBit u then((As u).filter λw=>m.testBit w).length else 0
def numU(m i:Nat):List Nat:=(As 32).map λu=>if u<i/\m.testBit u then((As u).filter λw=>m.testBit w).length else 0
theorem numU_all(m:Nat):numU m 32=numL m:=BO λu hu=>by
 have:=A_.1 hu
 by_cases h:m.testBit u=Ab
 ·rw[if_pos ⟨this,h⟩,if_pos h]
 rw[if_neg (λk=>h k.2),if_neg h]
theorem zW6(m i:Nat):(numU m i).length=32:=by simp[numU]
theorem numU_no(m i:Nat)(h:m.testBit i=Ad):numU m (i+1)=numU m i:=BO λu hu=>by
 by_cases e:u=i
 ·subst e;simp[h]
 exact ite_congr (propext ⟨λk=>⟨by omega,k.2⟩,λk=>⟨by omega,k.2⟩⟩) (λ_=>rfl) λ_=>rfl
theorem numU_set(m i:Nat)(hi:i<32)(h:m.testBit i=Ab):(numU m i).set i ((As i).filter λw=>m.testBit w).length=numU m (i+1):=by
 apply Ba;grind [zW6,numU,Cj,AH,BA]
theorem num_set(l:List Nat)(i x:Nat):setAt (nsD l) i [iD (x:Nat)]=nsD (l.set i x):=by
 show(nsD l).set i (iD (x:Nat))=_;unfold nsD;rw[List.map_set]
abbrev atR(a:List Nat×List Rw):List D:=[.row (nsD a.1) a.1.length,iD (a.1.length:Nat), .row (a.2.map rowV) a.2.length]
def zBe(s:Nat)(a:List Nat×List Rw):List Nat×List Rw:=((a.1.filter λv=>s.testBit v).map λv=>(numL s).getD v 0,relR (a.2.map λr=>zT r (zBy (λv=>s.testBit v) a.1)))
def stpA(s:Nat)(A:List (List Nat×List Rw)):Nat:=(A.map λa=>(zBe s a).2.length).sum
theorem zRf(s:Nat)(A:List (List Nat×List Rw))(a:List Nat×List Rw):stpA s (A++[a])=stpA s A+(zBe s a).2.length:=by simp[stpA]
theorem zK0(s:Nat)(a:List Nat×List Rw):(zBe s a).2.length<=a.2.length:=by
 refine AF (zHu _) ?_;grind
theorem zPs{s B:Nat}:∀{A:List (List Nat×List Rw)},(∀a∈A,a.2.length<=B)->stpA s A<=A.length*B
 |[],_=>Bz _
 |a::A,h=>by
  have h1:=zPs (s:=s) (A:=A) λa ha=>h a (by simp[ha]);grind [AF,zK0,zBe,stpA,Cu,BQ]
theorem part_fl(s:Nat)(A:List (List Nat×List Rw))(a:List Nat×List Rw):(A++[a]).flatMap (λa=>atR (zBe s a))=A.flatMap (λa=>atR (zBe s a))++[.row (nsD ((a.1.filter λv=>s.testBit v).map λv=>(numL s).getD v 0)) (a.1.filter λv=>s.testBit v).length,iD ((a.1.filter λv=>s.testBit v).length:Nat), .row ((zBe s a).2.map rowV) (zBe s a).2.length]:=by
 simp_all [List.flatMap_append,atR,zBe,BU,D,nsD,iD,rowV,A7]
def Tbm:Par:=⟨λf=>f==112||f==91,λ_ _=>AS,λ_=>Ad,λ_=>Ad,λ_=>Ad⟩
theorem Tbm_ok:zA7 AB Tbm:=by intro t n f h;cases h
def mkP(s:Nat)(A:List (List Nat×List Rw)):Mk:=⟨5,(zAo s).length,4,A.map (zBe s),λk=>[aaB nl0 (iD 0) nl0,⟨A.flatMap λa=>atR (zBe s a),87,3,Ab,Ab, .plain⟩,rvB 3 0,raB [],bxB 2].getD k Af⟩
theorem mkP_ok(s:Nat)(A:List (List Nat×List Rw)):MkM (mkP s A) 2 3 where
 p:=rfl
 lc:=by show 2<4;omega
 la:=by show 3<4;omega
 ne:=by decide
 bx:=rfl
 bcr:=rfl
 bra:=rfl
 nam k hk:=by
  have hk:k<4:=hk
  match k,hk with
  |0,_=>exact .inr λj _=>by show zX j [nl0,iD 0,nl0]=Ad;simp only[zX,refs,AP]
  |1,_=>exact .inl rfl
  |2,_=>
   refine .inr λj hj=>?_
   have hj:4<=j:=hj
   show zX j [.osl 3 0 0 0 Ab]=Ad
   simp only[zX,refs,AP,beq_eq_false_iff_ne]
   omega
  |3,_=>exact .inl rfl
 kill k hk hne:=by
  have hk:k<4:=hk
  match k,hk,hne with
  |2,_,h=>exact absurd rfl h
  |0,_,_=>exact zA1 (by show zX 3 [nl0,iD 0,nl0]=Ad;simp only[zX,refs,AP])
  |1,_,_=>exact zB4 rfl
  |3,_,_=>exact zB4 rfl
abbrev q14_(x0:List (List Nat×List Rw)):=Aj (Ax atR x0) (Aa x0)
theorem zQe(n s:Nat)(A:List (List Nat×List Rw))(hn:n<32)(hs:s<4294967296)(hsn:s>>>n=0)(hA:A.length<=32)(hr:∀a∈A,a.1.Pairwise (· <·)/\(∀v∈a.1,v<32)/\a.1.length<=32/\a.2.length<=65536/\∀r∈a.2,r.length=a.1.length)(hchk:Pure AB 14 [iD (n:Nat), .row (A.flatMap atR) A.length] [] (iD 0))(hAo:AOk (mkP s A))(h0:0<(zAo s).length)(M:Nat)(hM:∀a∈A.map (zBe s),a.2.length+(zAo s).length<=M)(hC:(A.length+1)*(cE A.length M (zAo s).length)+1<=big)(hchk2:Pure AB 14 [iD ((zAo s).length:Nat), .row (A.flatMap λa=>atR (zBe s a)) A.length] [] (iD 0))(hJ:(jn (mkP s A)).length<=65536)(hJl:∀r∈jn (mkP s A),r.length=(zAo s).length)(hJs:Rsc (jn (mkP s A)))(hacc:accL ((zAo s).length:Nat) (jn (mkP s A))=0):∃z:Nat,z<=big/\Pure AB 72 [iD (n:Nat),u32D s, .row (A.flatMap atR) A.length] [] (.tup [.agg (atR (zAo s,jn (mkP s A))),iD ((stpA s A+z+(jn (mkP s A)).length:Nat):Int),iD 0]):=by
 obtain⟨z,hz,hEach⟩:∃z:Nat,z<=big/\Acts AB 112 [iD ((zAo s).length:Nat), .clo (.func 113) [] [.own 2 0], .row (A.flatMap λa=>atR (zBe s a)) A.length] [aaB nl0 (iD 0) nl0,⟨A.flatMap λa=>atR (zBe s a),87,3,Ab,Ab, .plain⟩,rvB 3 0,raB []] [3] (.tup [iD (z:Nat),iD 0]) [aaB nl0 (iD 0) nl0,⟨A.flatMap λa=>atR (zBe s a),87,3,Ab,Ab, .plain⟩,rvB 3 (jn (mkP s A)).length,raB (jn (mkP s A))]:=by
  have hmm:=mkP_ok s A;have hfl:(mkP s A).A.flatMap atN=A.flatMap λa=>atR (zBe s a):=by
   show(A.map (zBe s)).flatMap atN=_;rw[List.flatMap_map]
  have hln:(mkP s A).A.length=A.length:=A7 _;have he:=each_a (mkP s A) hmm.ok hAo 2 [3] (ybM 2 3) hmm.yb rfl rfl h0 ⟨by show 2<4;omega,by decide⟩ (λk hk=>by rw[By.1 hk];show 3<4;omega) hmm.nam (λys k b e=>zZx hmm ys k b e) M 65536 hM (mat2_a hmm hAo) hJ (by rw[hln];exact hC) (by
   show Pure _ _ [iD ((zAo s).length:Nat), .row ((mkP s A).A.flatMap atN) (mkP s A).A.length] [] _;rw[hfl,hln];exact hchk2) [aaB nl0 (iD 0) nl0,⟨A.flatMap λa=>atR (zBe s a),87,3,Ab,Ab, .plain⟩,rvB 3 0,raB []] rfl (λk hk=>by
   have hk:k<4:=hk;match k,hk with
   |0,_=>rfl
   |1,_=>rfl
   |2,_=>rfl
   |3,_=>rfl)
  obtain⟨z,hz,he⟩:=he;refine⟨z,hz,?_⟩;change Acts _ _ [iD ((zAo s).length:Nat),_, .row ((mkP s A).A.flatMap atN) (mkP s A).A.length] _ _ _ _ at he;rw[hfl,hln]at he;exact he
 refine⟨z,hz,?_⟩;refine zF Tbm_ok mixed Tryz.func72 rfl ?_;focus
  refine vAu<|zA<|vA<|vrT 2<|vc hchk<|veT<|vAe<|vf ?_;refine vK<|zA<|vA<|vr 3 ((0:Int)<=(n:Int))<|vs 33 (Am<|Ap BL<|Int.fdiv (s:Int) ((2:Int)^min (Au (n:Int)) 32)) (dig (0:Nat)) (by simp(disch:=omega) only[AT,zE4,hsn])<|veT<|vf<|vK<|zA ?_;refine zB rfl<|veT<|vA<|ve (((0:Int)<=(32:Int)/\(32:Int)<=(32:Int)/\(↑(8:Nat):Int)*(32:Int)<=(281474976710656:Int)/\(32:Int)<=(281474976710656:Int)/\0<1/\1=1)/\Ad=Ad/\Ab=Ab/\1=1/\1<=1)<|zA<|vAe<|zH ?_;rotate_left
 refine zGd (λ(i:Nat)(l:List Nat)=>fr 116 [(1,u32D s),(2,(q14_ A)),(6,Ae 0 0),(7,iD 0),(8,iD 0),(10,Ag 3 0 (Aa l) (Aa l) Ab),(11,Ae 2 0),(37,iD i)]) (λi l=>[aaB nl0 (iD 0) nl0,intB<|nsD<|numU s i,⟨[.osl 1 0 32 32 Ab],23,0,Ad,Ad,.plain⟩,intB<|nsD l]) (λi l=>32-i) (λ(i:Nat)(l:List Nat)=>i<=32/\l=((As 32).take i).filter λv=>s.testBit v) 0 [] ?_ ?_ ?_
 ·grind
 ·refine vk 3
 rintro i l ⟨h1,h2⟩;rcases AH i 32 with h3|h3
 ·have h4:=zY9 s i h3;rw[<-h2]at h4;have hlen:l.length<=32:=by rw[h2];exact AF (BB _ _) (by simp;omega)
  have hnl:=zW6 s i;focus
   refine vAu<|zA<|vT ((i:Int)<(32:Int))<|vKB<|vAe ?_;refine vA<|vr 3 ((0:Int)<=(i:Int))<|vs 42 (Am<|Ap BL<|Int.fdiv (s:Int) ((2:Int)^min (Au (i:Int)) 32)) (dig (s>>>i)) (by simp(disch:=omega) only[AT,zE4])<|vrT 1<|vs 43 (Am<|Ap BL<|BJ BL (↑(BV (Bm 32 (↑(s>>>i):Int)&&&Bm 32 (1:Int))):Int)) (dig<|BV (Bm 32 (↑(s>>>i):Int)&&&Bm 32 (1:Int))) (by simp(disch:=omega) only[zA4])<|vrT 1<|vs 44 (bD ((↑(BV (Bm 32 (↑(s>>>i):Int)&&&Bm 32 (1:Int))):Int)==(1:Int))) (bD<|Bn s i) (by simp(disch:=omega) only[bit_b])<|veT ?_;refine zAa (t:=Bn s i) (by kernel_rfl) (λhc=>?_)<|λhc=>?_;refine vA<|vr 5 (0<1/\(0:Int)<=(i:Int)/\(i:Int)<↑(32:Nat))<|vo 49 1 i<|ve (Bk.fz (intB<|nsD<|numU s i)=Ad/\Ab=Ab/\1=1/\i+1<=32/\¬1∈[])<|zB rfl<|vr 5 (((1=1/\1<=1/\True)/\0<1/\1=1/\1<=16777216/\1<=9223372036854775807)/\BM (intB<|nsD l)=Ab/\Aa (A5<|intB<|nsD l)=Aa l*1/\Aa l=Aa l*1/\Bt (intB<|nsD l)=3/\Bv (intB<|nsD l)=1/\1=1/\0<1/\0<8/\3=3/\(Aa l+1)*8<=140737488355328/\1=1/\Bi (A8<|intB<|nsD l)=Ad/\(Ad=Ad\/Bj (A8<|intB<|nsD l)=Ab))<|vs 10 (Ag 3 0 (Aa l+1) ((Aa l+1)*1) Ab) (Ag 3 0 (Aa l+1) (Aa l+1) Ab) (by simp(disch:=omega) only[AR])<|vnil<|zD<|vN<|zB rfl<|vr 2 (i6 (↑i+1)) ?_;refine vnil<|zC ?_;rotate_left;refine zQ<|zD<|vN<|zB rfl<|vr 2 (i6 (↑i+1))<|vnil<|zC ?_;rotate_left
  ·have hc2:s.testBit i=true:=by assumption
   rw[hc2,if_pos rfl]at h4;have hset:(nsD (numU s i)).set i (iD (l.length:Nat))=nsD (numU s (i+1)):=by
    rw[<-numU_set s i h3 hc2,<-num_set];rw[h2,List.take_range,Cd (by omega)];rfl
   refine⟨i+1,l++[i],⟨by omega,h4.symm⟩,by omega,?_⟩;rw[<-hset,zL5,AN];refine vk 4
  have hc2:s.testBit i=false:=by assumption
  rw[hc2,if_neg (by decide),BU]at h4;refine⟨i+1,l,⟨by omega,h4.symm⟩,by omega,?_⟩;rw[numU_no s i hc2];refine vk 4
 obtain rfl:i=32:=by omega
 rw[Bq (by simp)]at h2;obtain rfl:l=zAo s:=h2;rw[numU_all];have hnl:(numL s).length=32:=by simp[numL]
 have hac:∀a:List Nat×List Rw,(atR a).length=3:=λ_=>rfl;have hf1:frz Ab [aaB nl0 (iD 0) nl0,intB (nsD (numL s)),⟨[.osl 1 0 32 32 Ab],23,0,Ad,Ad, .plain⟩,intB (nsD (zAo s))] zAc (.osl 3 0 (zAo s).length (zAo s).length Ab)=Aq (.row (nsD (zAo s)) (zAo s).length,[3]):=by
  rw[show zAc=8+1 from rfl,zJ2 (e:=intB (nsD (zAo s))) rfl rfl rfl];simp_all [D,nsD,zAo,A9,zNw]
 have hf2:frz Ab [aaB nl0 (iD 0) nl0,intB (nsD (numL s)),⟨[.osl 1 0 32 32 Ab],23,0,Ad,Ad, .plain⟩,{intB (nsD (zAo s))with fz:=Ab}] zAc (.clo (.func 110) [] [.own 2 0])=Aq (.clo (.func 110) [] [.ptr [.row (nsD (numL s)) 32]],[2,1]):=
  (show _=Aq (AG (.func 110) [] [.ptr [.row (((nsD (numL s)).drop 0).take 32) 32]],[2,1])from rfl).trans (by rw[A9,zNw _ _ hnl])
 focus
  refine vAu<|zA<|vf<|vZ2<|vA ?_;refine veT<|vAe<|vA<|vrT 1<|vnil<|zC<|vnn (fr 116 [(1,u32D s),(2,(q14_ A)),(6,Ae 0 0),(7,iD 0),(8,iD 0),(10,Ag 3 0 (Aa<|zAo s) (Aa<|zAo s) Ab),(13,AG (Fn.func 110) [] [Ae 2 0]),(14,iD 0),(15,nl)]) [aaB nl0 (iD 0) nl0,intB<|nsD<|numL s,Al [Ag 1 0 32 32 Ab] (23:TypeId) 0 Ad Ad Ao,intB<|nsD<|zAo s] ?_;rotate_left
 refine zBx ((((Weak.frzSlot (s:=10) (by kernel_rfl) hf1).trans (Weak.frzSlot (s:=13) (by kernel_rfl) hf2)).trans (Weak.slots (LeL.dead [11] _))).trans<|Weak.cut 1 (by kernel_rfl)<|λ_ _=>rfl) ?_;focus
  refine zA<|vAu<|zH ?_;rotate_left
 refine zK (λ(i:Nat)=>fr 116 [(1,u32D s),(6,Ae 0 0),(10,Aj (nsD<|zAo s)<|Aa<|zAo s),(13,AG (Fn.func (110:FuncId)) [] [AU [Aj (nsD<|numL s) 32]]),(14,iD (↑(stpA s<|AK i A):Int)),(15,Ag 1 0 i (i*3) Ab),(56,(q14_ A)),(57,iD<|Aa A),(58,iD i)]) (λ(i:Nat)=>[aaB nl0 (iD 0) nl0,(⟨(A.take i).flatMap λa=>atR (zBe s a),87,3,Ab,Ad,.plain⟩:Bk)]) (λ(i:Nat)=>A.length-i) (λ(i:Nat)=>i<=A.length) 0 ?_ ?_ ?_
 ·omega
 ·refine vk 1
 intro i h1;rcases AH i A.length with h3|h3
 ·have hg2:=zCz hac A i h3;have hle:=zEv hac A i h3;have hne:=zDe hac (by decide) A (by omega);have htk:A.take (i+1)=A.take i++[A.getD i Af]:=by rw[Cy h3,Bf,A2 h3];rfl
  have ham:A.getD i Af∈A:=by rw[Bf,A2 h3];exact BP h3
  obtain⟨r1,r2,r3,r4,r5⟩:=hr _ ham;have hpj:=project_c (A.getD i Af).1 (A.getD i Af).2 s hs r1 r2 r3 r4 r5;have hfl:((A.getD i Af).1.filter λv=>s.testBit v).length<=32:=AF (BB _ _) r3;have hrn:=rename_c ((A.getD i Af).1.filter λv=>s.testBit v) (numL s) ((A.getD i Af).1.filter λv=>s.testBit v).length ((zBe s (A.getD i Af)).2.map rowV) (zBe s (A.getD i Af)).2.length hfl hnl (λv hv=>r2 v (Ck.1 hv).1);have hln:=zKe (((A.getD i Af).1.filter λv=>s.testBit v).length:Nat) ((zBe s (A.getD i Af)).2.map rowV) (zBe s (A.getD i Af)).2.length;have hpl:((A.take i).flatMap λa=>atR (zBe s a)).length=i*3:=by rw[zDj (c:=3) (λ_=>rfl),Cq,Cd h1]
  have hsb:stpA s (A.take i)+(zBe s (A.getD i Af)).2.length<=32*65536:=by
   rw[<-zRf,<-htk];refine AF (zPs (B:=65536) λa ha=>(hr a (Ce ha)).2.2.2.1) (Br _ ?_);rw[Cq];omega
  focus
   refine vAu<|zA<|vT ((i:Int)<↑(Aa A))<|vKB<|vA<|vr 2 (ix ↑i ↑(Aa A) (Ax atR A≠[])/\3<=Aa (An (i*3)<|Ax atR A)) ?_;refine vs 61 (AD<|AK 3<|An (i*3)<|Ax atR A) (AD<|atR<|AE A i Af) (by simp(disch:=omega) only[hg2])<|ve (Ad=Ad/\Ab=Ab/\3=3/\3<=3)<|vA<|vr 2 (3<=3)<|vc hpj<|ve (0<2/\1<2/\Ad=Ad/\Ab=Ab/\3=3/\3<=3)<|zA<|vAe<|vf<|zQ<|zC ?_;refine zAw<|vA<|vr 3 (True/\2<=2)<|vc hln<|ve (i6 ((↑(stpA s<|AK i A):Int)+(↑(Aa<|Aw<|zBe s<|AE A i Af):Int)))<|zB rfl<|vr 3 (3<=3)<|vc hrn<|vr 3 (((3=3/\3<=3/\True)/\0<3/\3=3/\3<=16777216/\1<=9223372036854775807)/\Ab=Ab/\Aa (Ax (λ(a:List Nat×List Rw)=>atR (zBe s a))<|AK i A)=i*3/\i*3=i*3/\87=87/\3=3/\3=3/\0<3/\0<56/\87=87/\(i+1)*56<=140737488355328/\3=3/\Bi Ao=Ad/\(Ad=Ad\/Bj Ao=Ab))<|vnil<|zD<|vN ?_;refine zB rfl<|vr 2 (i6 (↑i+1))<|vnil<|zC ?_;rotate_left
  ·refine⟨i+1,h3,by omega,?_⟩;rw[htk,zRf,part_fl];refine vk 2
 obtain rfl:i=A.length:=by omega
 rw[Bx];have hfl:(A.flatMap λa=>atR (zBe s a)).length=A.length*3:=zDj (c:=3) (λ_=>rfl) A;have hf3:frz Ab [aaB nl0 (iD 0) nl0,(⟨A.flatMap λa=>atR (zBe s a),87,3,Ab,Ad, .plain⟩:Bk),⟨[nl0],65,0,Ad,Ad, .plain⟩] zAc (.osl 1 0 A.length (A.length*3) Ab)=Aq (.row (A.flatMap λa=>atR (zBe s a)) A.length,[1]):=by
  rw[show zAc=8+1 from rfl,zJ2 (e:=(⟨A.flatMap λa=>atR (zBe s a),87,3,Ab,Ad, .plain⟩:Bk)) rfl rfl rfl];grind
 focus
  refine vAu<|zA<|vF ((Aa A:Int)<↑(Aa A))<|vZ2<|vA ?_;refine vrT 1<|vnil<|zC<|vnn (fr 116 [(1,u32D s),(6,Ae 0 0),(10,Aj (nsD<|zAo s)<|Aa<|zAo s),(13,AG (Fn.func (110:FuncId)) [] [AU [Aj (nsD<|numL s) 32]]),(14,iD ↑(stpA s A)),(15,Ag 1 0 (Aa A) (Aa A*3) Ab),(20,Ae 2 0),(56,(q14_ A)),(57,iD<|Aa A),(58,iD<|Aa A),(59,bD<|decide ((Aa A:Int)<(Aa A:Int)))]) [aaB nl0 (iD 0) nl0,Al (Ax (λ(a:List Nat×List Rw)=>atR (zBe s a)) A) (87:TypeId) 3 Ab Ad Ao,Al [nl] 65 0 Ad Ad Ao] ?_;rotate_left
 refine zBx ((Weak.frzSlot (s:=15) (by kernel_rfl) hf3).trans<|Weak.nilC (j:=2) (i:=0) (ej:=(⟨[nl0],65,0,Ad,Ad, .plain⟩:Bk)) (raB []) rfl rfl rfl rfl) ?_;have hv32:(zAo s).length<=32:=AF (BB _ _) (by simp);have hsb:stpA s A<=32*65536:=AF (zPs (B:=65536) λa ha=>(hr a ha).2.2.2.1) (Br _ hA);have hz2:z<=100000000000000000:=hz;generalize jn (mkP s A)=J at*;have hof:=relOf_c ((zAo s).length:Nat) J J.length (by omega) (by omega) rfl hJ (λr hr=>by rw[hJl r hr];omega);rw[if_pos hacc,relR_id hJs]at hof;have hjt:(J.map rowV).take J.length=J.map rowV:=Bq (by simp);have hln:=zKe ((zAo s).length:Nat) (J.map rowV) J.length;focus
  refine vAs<|vrT 4<|vnt [aaB nl0 (iD 0) nl0,(λ(e:Bk)=>Al (A5 e) (Bt e) (Bv e) (BM e) Ab (A8 e))<|Al (Ax (λ(a:List Nat×List Rw)=>atR (zBe s a)) A) (87:TypeId) 3 Ab Ad Ao,Al (List.set [nl0] 0<|Ag (Aa<|zAz [aaB nl0 (iD 0) nl0,Al (Ax (λ(a:List Nat×List Rw)=>atR (zBe s a)) A) (87:TypeId) 3 Ab Ad Ao,Al [nl0] (65:TypeId) 0 Ad Ad Ao] [1]) 0 0 0 Ab) (65:TypeId) 0 Ad Ad Ao,raB []] ?_;refine zG3 [] [] [iD (Aa (zAo s):Int),AG (Fn.func 113) [] [Ae 2 0],Aj (Ax (λ(a:List Nat×List Rw)=>atR (zBe s a)) A)<|Aa A] [iD (Aa (zAo s):Int),AG (Fn.func 113) [] [Ae 2 0],Aj (Ax (λ(a:List Nat×List Rw)=>atR (zBe s a)) A)<|Aa A] (AZ _) (by exact hEach) ?_;refine v0s<|ve (0<2/\1<2)<|zA<|vAe<|vf<|vK<|vA<|vr 3 (0<1)<|vcl [iD (Aa (zAo s):Int),Aj (AK (Aa J)<|An 0<|Ah rowV J)<|Aa J] [iD (Aa (zAo s):Int),Aj (Ah rowV J)<|Aa J] (BH (by simp(disch:=omega) only[A9,hjt])) (by exact hof) ?_;refine ve (0<2/\1<2/\Ad=Ad/\Ab=Ab/\2=2/\2<=2)<|zA<|vAe<|vf<|vK<|zA<|vd [0,3,4,5,1,2,6,7,8,9,10,11]<|vr 7 (i6 ((↑(stpA s A):Int)+(z:Int))/\2<=2/\((1=1/\1<=3/\2=2/\3<=3/\True)/\Ab=Ab)/\2<=2)<|vc hln<|ve (i6 ((↑(stpA s A):Int)+(z:Int)+(Aa J:Int))/\Ad=Ad/\Ab=Ab/\3=3/\3<=3) ?_;refine zE<|vret (3<=3)<|.inr rfl
abbrev chC(c:Nat×List Nat):List D:=[iD (c.1:Nat), .row (nsD c.2) c.2.length]
abbrev chB(l:List (Nat×List Nat)):Bk:=⟨l.flatMap chC,200,2,Ab,Ad, .plain⟩
def chI(L:List Bg)(V:List Nat)(v i:Nat):List (Nat×List Nat):=((As i).filter λc=>decide ((L.getD c Af).p=(v:Int))).map λc=>(c,zBy (λu=>(L.getD c Af).k.testBit u) V)
theorem chI_succ(L:List Bg)(V:List Nat)(v i:Nat):chI L V v (i+1)=chI L V v i++if(L.getD i Af).p=(v:Int)then[(i,zBy (λu=>(L.getD i Af).k.testBit u) V)]else[]:=by
 grind [chI,Bs,only]
theorem zVt(L:List Bg)(V:List Nat)(v i:Nat):(chI L V v i).length<=i:=by
 grind [chI,A7,AF,BB]
theorem killL{k:Nat}:∀{c:List D},zX k c=Ad->c.map (zAi k)=c
 |[],_=>rfl
 |d::c,h=>by
  simp only[zX,BE]at h;rw[BD,killL h.2];congr 1;unfold zAi;rw[h.1];rfl
structure Bd where
 n:Nat
 f:Nat
 desc:List Bool
 P:List Nat
 A:List (List Nat×List Rw)
 L:List Bg
 R:List (List Nat×List Rw)
 E:List Nat
abbrev blI(b:Bd):Bk:=⟨[iD (b.n:Nat),iD (b.f:Nat), .row (b.desc.map bD) b.desc.length, .row (nsD b.P) b.P.length, .row (b.A.flatMap atR) b.A.length],31,0,Ad,Ad, .plain⟩
abbrev blX:Bk:=⟨[nl0,nl0,nl0,nl0,nl0],46,0,Ad,Ad, .plain⟩
abbrev blG(b:Bd):Bk:=⟨[iD (b.n:Nat), .osl 3 0 b.A.length b.A.length Ab],77,0,Ad,Ad, .plain⟩
abbrev blE(b:Bd):Bk:=⟨b.E.map u32D,36,1,Ab,Ab, .plain⟩
abbrev blB(b:Bd):Bk:=⟨[iD (b.n:Nat),iD (b.f:Nat), .row (b.desc.map bD) b.desc.length, .row (nsD b.P) b.P.length, .row (b.A.flatMap atR) b.A.length, .row (b.L.flatMap bgC) b.L.length, .row (b.R.flatMap atR) b.R.length, .osl 5 0 b.n b.n Ab, .osl 6 0 b.n b.n Ab, .osl 7 0 b.f b.f Ab],120,0,Ad,Ad, .plain⟩
abbrev blV(c:List D):Bk:=⟨c,170,1,Ab,Ad, .sh⟩
abbrev blT(c:List D):Bk:=⟨c,177,1,Ab,Ad, .sh⟩
abbrev blU(c:List D):Bk:=⟨c,88,1,Ab,Ad, .plain⟩
abbrev blM(t:TypeId)(ks:List Value)(c:List D):Bk:=⟨c,t,0,Ab,Ad, .map ks⟩
def blw(m:Nat)(c:List D):Prop:=∀j,m<=j->zX j c=Ad
theorem zHf{m:Nat}{b:Bd}{c5 c6 c7:List D}{rest:List Bk}(hm:8<=m)(h5:blw m c5)(h6:blw m c6)(hr:∀e∈rest,namB m e):∀e∈blI b::blX::blG b::blE b::blB b::blV c5::blT c6::blU c7::rest,namB m e:=λe he=>by
 have hne:∀{i j:Nat},j<8->m<=i->(j==i)=false:=λh1 h2=>by rw[beq_eq_false_iff_ne];omega
 simp only[B8]at he;rcases he with rfl|rfl|rfl|rfl|rfl|rfl|rfl|rfl|he
 ·exact .inr λj hj=>by simp[zX,refs]
 ·exact .inr λj hj=>by simp[zX,refs]
 ·exact .inr λj hj=>by simp[zX,refs];omega
 ·exact .inl rfl
 ·exact .inr λj hj=>by simp[zX,refs];omega
 ·exact .inr h5
 ·exact .inr h6
 ·exact .inl rfl
 exact hr e he
def Tch:Par:=⟨λ_=>Ad,λ_ _=>AS,λk=>decide (k<9),λ_=>Ad,λ_=>Ad⟩
theorem Tch_ok:zA7 AB Tch:=by intro t n f h;cases h
theorem keep9{st:List Bk}(h:st.length=9):∀k,k<st.length->Tch.keep k=true:=λk hk=>by
 show decide (k<9)=Ab;rw[decide_eq_true_eq];omega
theorem zXt:∀k,9<=k->Tch.keep k=false:=λk hk=>by
 show decide (k<9)=Ad;rw[decide_eq_false_iff_not];omega
abbrev q15_(x0:Bd):=Aj (Ax atR (Bd.R x0)) (Aa (Bd.R x0))
abbrev q16_(x0:Bd):=Aj (Ax bgC (Bd.L x0)) (Aa (Bd.L x0))
abbrev q17_(x0:Bd):=Aj (Ah bD (Bd.desc x0)) (Aa (Bd.desc x0))
abbrev q18_(x0:Bd):=Aj (nsD (Bd.P x0)) (Aa (Bd.P x0))
abbrev q19_(x0:Bd):=Aj (Ax atR (Bd.A x0)) (Aa (Bd.A x0))
theorem zZr(b:Bd)(v:Nat)(hv:v<b.R.length)(hl:b.L.length<=1000)(hV:(b.R.getD v Af).1.length<=1000)(hV2:∀u∈(b.R.getD v Af).1,u<32)(hk:∀c∈b.L,c.k<4294967296)(c5 c6 c7 c8:List D)(t8:TypeId)(ks:List Value)(h5:blw 9 c5)(h6:blw 9 c6):
  Acts AB 94 [.own 4 0,iD (v:Nat)] [blI b,blX,blG b,blE b,blB b,blV c5,blT c6,blU c7,blM t8 ks c8] [] (.osl 9 0 (chI b.L (b.R.getD v Af).1 v b.L.length).length ((chI b.L (b.R.getD v Af).1 v b.L.length).length*2) Ab)
   [blI b,blX,blG b,blE b,blB b,blV c5,blT c6,blU c7,blM t8 ks c8,chB (chI b.L (b.R.getD v Af).1 v b.L.length)]:=by
 have hbc:∀c:Bg,(bgC c).length=3:=λ_=>rfl;have hac:∀a:List Nat×List Rw,(atR a).length=3:=λ_=>rfl;have hav:(b.R.flatMap atR).drop (v*3)= .row (nsD (b.R.getD v Af).1) (b.R.getD v Af).1.length::iD ((b.R.getD v Af).1.length:Nat):: .row ((b.R.getD v Af).2.map rowV) (b.R.getD v Af).2.length::(b.R.drop (v+1)).flatMap atR:=zMo hac b.R v hv;have hne:=zDe hac (by decide) b.R (by omega);generalize hVd:(b.R.getD v Af).1=V at*;have hcl:∀l:List (Nat×List Nat),(l.flatMap chC).length=l.length*2:=λl=>zDj (g:=chC) (λ_=>rfl) l;have hnm:∀l,∀e∈[blI b,blX,blG b,blE b,blB b,blV c5,blT c6,blU c7,blM t8 ks c8,chB l],namB 10 e:=λl=>zHf (by omega) (λj hj=>h5 j (by omega)) (λj hj=>h6 j (by omega)) λe he=>by
  simp only[B8,Cv,or_false]at he;rcases he with rfl|rfl<;>exact .inl rfl
 have k5:=killL (h5 9 (by omega));have k6:=killL (h6 9 (by omega));refine zN Tch_ok mixed Tryz.func94 rfl (keep9 rfl) ?_;focus
  refine vAu<|vAe<|zA<|vA<|ve (True/\0<5)<|zH ?_;rotate_left
 refine zK (λ(i:Nat)=>fr 49 [(0,Ae 4 0),(1,iD v),(4,nl),(5,Ag 9 0 (Aa<|chI (Bd.L b) V v i) (Aa (chI (Bd.L b) V v i)*2) Ab),(11,iD (Aa (Bd.L b):Int)),(12,iD i)]) (λ(i:Nat)=>[blI b,blX,blG b,blE b,blB b,blV c5,blT c6,blU c7,blM t8 ks c8,chB<|chI b.L V v i]) (λ(i:Nat)=>b.L.length-i) (λ(i:Nat)=>i<=b.L.length) 0 ?_ ?_ ?_
 ·omega
 ·refine vk 9 ?_;exact zXt
 intro i h1;have hlen:=zVt b.L V v i;have hc2:=hcl (chI b.L V v i);rcases AH i b.L.length with h3|h3
 ·have hbat:=zMo hbc b.L i h3;have hbne:=zDe hbc (by decide) b.L (by omega);have hmem:b.L.getD i Af∈b.L:=by rw[Bf,A2 h3];exact BP h3
  have hic:=icols_c V V.length rfl hV hV2 (b.L.getD i Af).k (hk _ hmem);have hsu:=chI_succ b.L V v i;generalize b.L.getD i Af=c at*;have happ:∀l:List (Nat×List Nat),chB (l++[(i,zBy (λu=>c.k.testBit u) V)])=⟨l.flatMap chC++[iD (i:Nat), .row (nsD (zBy (λu=>c.k.testBit u) V)) (zBy (λu=>c.k.testBit u) V).length],200,2,Ab,Ad, .plain⟩:=λl=>by
   grind
  focus
   refine vAu<|zA<|vT ((i:Int)<(Aa (Bd.L b):Int))<|vKB<|vAe ?_;refine vA<|vr 6 (True/\0<5/\ix ↑i (Aa (Bd.L b):Int) (Ax bgC (Bd.L b)≠[]))<|vs 20 (AU<|An (Au (i:Int)*3)<|Ax bgC<|Bd.L b) (AU (iD ↑(Bg.v c)::u32D (Bb c)::iD (Bg.p c)::Ax bgC (An (i+1)<|Bd.L b))) (by simp(disch:=omega) only[AT,Cc,Ct,hbat])<|ve (True/\0<Aa (iD (Bg.p c)::Ax bgC (An (i+1)<|Bd.L b))/\True) ?_;refine zAa (t:=Bg.p c==(v:Int)) (by kernel_rfl) (λhc=>?_)<|λhc=>?_;simp only[beq_iff_eq]at hc;refine vd [0,1,2,3,4,6,10,11,12,14,5,7,8,9,13,15,16,17,18,19,20,21,22]<|vr 12 (True/\True/\0<4/\ix ↑v (Aa (Bd.R b):Int) (Ax atR (Bd.R b)≠[]))<|vs 32 (AU<|An (Au (v:Int)*3)<|Ax atR<|Bd.R b) (AU (Aj (nsD V) (Aa V)::iD (Aa V)::Aj (Ah rowV<|Aw<|AE (Bd.R b) v Af) (Aa<|Aw<|AE (Bd.R b) v Af)::Ax atR (An (v+1)<|Bd.R b))) (by simp(disch:=omega) only[AT,hav])<|vr 4 (True/\0<Aa (Aj (nsD V) (Aa V)::iD (Aa V)::Aj (Ah rowV<|Aw<|AE (Bd.R b) v Af) (Aa<|Aw<|AE (Bd.R b) v Af)::Ax atR (An (v+1)<|Bd.R b))/\0<5/\ix ↑i (Aa (Bd.L b):Int) (Ax bgC (Bd.L b)≠[]))<|vs 40 (AU<|An (Au (i:Int)*3)<|Ax bgC<|Bd.L b) (AU (iD ↑(Bg.v c)::u32D (Bb c)::iD (Bg.p c)::Ax bgC (An (i+1)<|Bd.L b))) (by simp(disch:=omega) only[AT,Cc,Ct,hbat])<|vr 2 (True/\0<Aa (u32D (Bb c)::iD (Bg.p c)::Ax bgC (An (i+1)<|Bd.L b)))<|vc hic<|vr 4 (((1=1/\1<=2/\1=1/\2<=2/\True)/\Ab=Ab)/\((2=2/\2<=2/\True)/\0<2/\2=2/\2<=16777216/\1<=9223372036854775807)/\BM (chB<|chI (Bd.L b) V v i)=Ab/\Aa (A5<|chB<|chI (Bd.L b) V v i)=Aa (chI (Bd.L b) V v i)*2/\Aa (chI (Bd.L b) V v i)*2=Aa (chI (Bd.L b) V v i)*2/\Bt (chB<|chI (Bd.L b) V v i)=200/\Bv (chB<|chI (Bd.L b) V v i)=2/\2=2/\0<2/\0<32/\200=200/\(Aa (chI (Bd.L b) V v i)+1)*32<=140737488355328/\2=2/\Bi (A8<|chB<|chI (Bd.L b) V v i)=Ad/\(Ad=Ad\/Bj (A8<|chB<|chI (Bd.L b) V v i)=Ab))<|vnil<|zD<|vN<|zB rfl<|vr 2 (i6 (↑i+1)) ?_;refine vnil<|zC ?_;rotate_left;simp only[beq_eq_false_iff_ne]at hc;refine zQ<|zD<|vN<|zB rfl<|vr 2 (i6 (↑i+1))<|vnil<|zC ?_;rotate_left
  ·have hcp:c.p=(v:Int):=by assumption
   rw[if_pos hcp]at hsu;have hn2:=hnm (chI b.L V v i++[(i,zBy (λu=>c.k.testBit u) V)]);rw[happ]at hn2;refine⟨i+1,by omega,by omega,?_⟩;rw[hsu,AN,happ];refine wkn (fr 49 [(0,Ae 4 0),(1,iD v),(4,nl),(5,Ag 9 0 (Aa (chI (Bd.L b) V v i)+1) ((Aa (chI (Bd.L b) V v i)+1)*2) Ab),(6,iD i),(11,iD (Aa (Bd.L b):Int)),(12,iD ↑(i+1)),(24,bD (Bg.p c==(v:Int))),(26,iD i),(27,Ae 4 0),(28,Ae 4 0),(29,Ae 4 6),(30,(q15_ b)),(31,iD v),(32,AU ((q5_ V)::iD (Aa V)::Aj (Ah rowV (Aw (AE (Bd.R b) v Af))) (Aa (Aw (AE (Bd.R b) v Af)))::Ax atR (An (v+1) (Bd.R b)))),(33,AU ((q5_ V)::iD (Aa V)::Aj (Ah rowV (Aw (AE (Bd.R b) v Af))) (Aa (Aw (AE (Bd.R b) v Af)))::Ax atR (An (v+1) (Bd.R b)))),(34,(q5_ V)),(35,Ae 4 0),(36,Ae 4 0),(37,Ae 4 5),(38,(q16_ b)),(39,iD i),(40,AU (iD ↑(Bg.v c)::u32D (Bb c)::iD (Bg.p c)::Ax bgC (An (i+1) (Bd.L b)))),(41,AU (u32D (Bb c)::iD (Bg.p c)::Ax bgC (An (i+1) (Bd.L b)))),(42,dig (Bb c)),(43,Aj (nsD (zBy (λ(v:Nat)=>Bn (Bb c) v) V)) (Aa (zBy (λ(v:Nat)=>Bn (Bb c) v) V))),(44,AD [iD i,Aj (nsD (zBy (λ(v:Nat)=>Bn (Bb c) v) V)) (Aa (zBy (λ(v:Nat)=>Bn (Bb c) v) V))]),(45,Ag 10 0 1 2 Ab),(46,Ag 9 0 (Aa (chI (Bd.L b) V v i)+1) ((Aa (chI (Bd.L b) V v i)+1)*2) Ab),(47,iD ↑(i+1))]) [Al [iD ↑(Bd.n b),iD ↑(Bd.f b),(q17_ b),(q18_ b),(q19_ b)] (31:TypeId) 0 Ad Ad Ao,Al [nl0,nl0,nl0,nl0,nl0] (46:TypeId) 0 Ad Ad Ao,Al [iD ↑(Bd.n b),Ag 3 0 (Aa (Bd.A b)) (Aa (Bd.A b)) Ab] (77:TypeId) 0 Ad Ad Ao,Al (Ah u32D (Bd.E b)) (36:TypeId) 1 Ab Ab Ao,Al [iD ↑(Bd.n b),iD ↑(Bd.f b),(q17_ b),(q18_ b),(q19_ b),(q16_ b),(q15_ b),Ag 5 0 (Bd.n b) (Bd.n b) Ab,Ag 6 0 (Bd.n b) (Bd.n b) Ab,Ag 7 0 (Bd.f b) (Bd.f b) Ab] (120:TypeId) 0 Ad Ad Ao,Al (Ah (zAi 9) c5) (170:TypeId) 1 Ab Ad AW,Al (Ah (zAi 9) c6) (177:TypeId) 1 Ab Ad AW,Al c7 (88:TypeId) 1 Ab Ad Ao,Al c8 t8 0 Ab Ad (Kd.map ks),Al (Ax chC (chI (Bd.L b) V v i)++[iD i,Aj (nsD (zBy (λ(v:Nat)=>Bn (Bb c) v) V)) (Aa (zBy (λ(v:Nat)=>Bn (Bb c) v) V))]) (200:TypeId) 2 Ab Ad Ao,Al [iD i,Aj (nsD (zBy (λ(v:Nat)=>Bn (Bb c) v) V)) (Aa (zBy (λ(v:Nat)=>Bn (Bb c) v) V))] 200 2 Ab Ad Ao] ?_;rw[k5,k6];refine zA5 (N:=10) (4<10/\9<10/\True) rfl hn2 (λk hk=>zXt k (by omega)) ?_ ⟨by omega,by omega,trivial⟩;refine vk 11 ?_;grind [zXt]
  have hcp:¬c.p=(v:Int):=by assumption
  rw[if_neg hcp,BU]at hsu;refine⟨i+1,by omega,by omega,?_⟩;rw[hsu];refine vk 10 ?_;grind [zXt]
 obtain rfl:i=b.L.length:=by omega
 focus
  refine vAu<|zA<|vF ((Aa (Bd.L b):Int)<(Aa (Bd.L b):Int))<|vZ2<|vA ?_;refine veT<|zE ?_;refine zM (True) [Ag 9 0 (Aa<|chI (Bd.L b) V v<|Aa<|Bd.L b) (Aa (chI (Bd.L b) V v<|Aa<|Bd.L b)*2) Ab] (.inr rfl) ?_;rotate_left
 exact⟨by kernel_rfl,by kernel_rfl⟩
end
section
open Go.RowKit
section
variable {P : Program} {T : Par}
theorem Acts.res{f:FuncId}{args:List D}{st st':List Bk}{x x':D}{ch:List Nat}(h:Acts P f args st ch x st')(hx:LeD x x'):Acts P f args st ch x' st':=λβ I w vs hr hsr hinj hfz hdom hi hg=>(h β I w vs hr hsr hinj hfz hdom hi hg).mono λe w' ⟨v,β',I',p0,p1,p2,p3,p4,p5,p6,p7,p8⟩=>⟨v,β',I',p0,p1,p2,p3,p4,p5,p6,p7,hx _ _ _ _ p8⟩
theorem Acts.cutN{f:FuncId}{args:List D}{st st0 bs:List Bk}{x:D}{ch:List Nat}(h:Acts P f args st ch x (st0++bs))(hm:st.length<=st0.length)(hn:∀b∈st0,namB st0.length b)(hx:∀j,st0.length<=j->refs j x=Ad):Acts P f args st ch x st0:=by
 have ht:(st0++bs).take st0.length=st0:=List.take_left' rfl
 have:=Acts.cut st0.length h hm ?_
 ·grind
 unfold zEp;simp only[B3,A_,Bool.and_eq_true,Bool.not_eq_true',Bool.or_eq_true];intro i hi;refine⟨by simp only[zX,hx _ (show st0.length<=st0.length+i by omega),AP],λe he=>?_⟩;rw[ht]at he;rcases hn e he with h|h;all_goals grind
theorem Acts.post{f:FuncId}{args:List D}{st s s':List Bk}{x x':D}{ch:List Nat}(h:Acts P f args st ch x s)(hw:Weak T [x] s [x'] s')(hk:∀k,k<st.length->T.keep k=Ab):Acts P f args st ch x' s':=λβ I w vs hr hsr hinj hfz hdom hi hg=>by
 refine(h β I w vs hr hsr hinj hfz hdom hi hg).mono ?_;rintro e w' ⟨v,β',I',rfl,p1,p2,p3,p4,p5,p6,p7,p8⟩;have hs:Sim β' I' w' [x] s [v]:=⟨by simp only[RelT];exact⟨v,[],rfl,p8,rfl⟩,p4,p5,p6,p7,p1,hg.mono p2.fix⟩;obtain⟨β2,I2,s2,t2,k2⟩:=hw β' I' w' _ hs;have hx:=s2.rel;simp only[RelT]at hx;obtain⟨v2,us,hv,hx,_⟩:=hx;simp only[List.cons.injEq]at hv;obtain⟨rfl,_⟩:=hv;exact⟨v,β2,I2,rfl,s2.imb,p2.trans t2,λk y hc hb=>k2 k y (hk k (hdom k y hb)) (p3 k y hc hb),s2.sr,s2.inj,s2.fz,s2.dom,hx⟩
theorem Weak.phant{sl:List D}{st:List Bk}(b:Bk):Weak T sl st sl (st++[b]):=λβ I w tm h=>by
 have hk:∀k y,β k=Aq y->(st++[b])[k]?=st[k]?:=λk y hy=>BS (h.dom k y hy);refine⟨β,I,⟨h.rel,λk bb cap hb=>?_,h.inj,λk bb c j e hb he hi=>?_,λk x hb=>?_,h.imb,h.gl⟩,Stp.refl _ _ _,Kp.refl _ _⟩
 ·rw[hk k _ hb];exact h.sr k bb cap hb
 ·rw[hk k _ hb]at he;exact h.fz k bb c j e hb he hi
 have:=h.dom k x hb
 simp;omega
theorem Weak.nilS{sl:List D}{st:List Bk}(s k:Nat)(wh:Bool)(hs:sl[s]?=Aq (.val (.slice AS 0 0))):Weak T sl st (sl.set s (.osl k 0 0 0 wh)) st:=λβ I w tm h=>by
 refine⟨β,I,⟨RelT.of_get ?_ λi d v hd hv=>?_,h.sr,h.inj,h.fz,h.dom,h.imb,h.gl⟩,Stp.refl _ _ _,Kp.refl _ _⟩
 ·rw[Bl];exact h.rel.length
 rw[Bw]at hd;split at hd
 ·rename_i e;subst e;split at hd
  ·cases hd;obtain⟨v2,h1,h2⟩:=h.rel.get s _ hs;rw[hv]at h1;cases h1;simp only[Rel]at h2⊢;exact .inl ⟨trivial,trivial,h2⟩
  cases hd
 obtain⟨v2,h1,h2⟩:=h.rel.get i d hd;rw[hv]at h1;cases h1;exact h2
end
end
section
open Go.RowKit Go.Shelf Go.Lib
theorem zR0{P:Program}{f:FuncId}{us:List Value}{v:Value}(h:∀I w,Gl I w->Calls P f us.toArray w λe w'=>e= .returned v/\w=w'):Pure P f (us.map .val) [] (.val v):=by
 intro I w vs hr hi hg;rw[zKz us vs hr];refine(h I w hg).mono ?_;rintro e w' ⟨rfl,rfl⟩;exact⟨v,I,noB,rfl,Ext.refl _,hi,Fix.refl _ _,λ_ _ h=> .inl h,λ_ _ _ h=>(by cases h),λ_ _ _ h=>(by cases h),λ_ _ _ _ _ h=>(by cases h),λ_ _ _ _ _ h=>(by cases h),λ_ _ h=>(by cases h),by simp only[Rel],by simp⟩
section
variable {P : Program} {I : Im} {w : World} {β : Be} {st : List Bk}
theorem zNq:∀(ys xs pre zs:List D),xs.length=ys.length->setAt (pre++xs++zs) pre.length ys=pre++ys++zs
 |[],xs,pre,zs,hl=>by
  obtain rfl:xs=[]:=List.eq_nil_of_length_eq_zero (by simpa using hl);rfl
 |y::ys,[],pre,zs,hl=>by simp at hl
 |y::ys,x::xs,pre,zs,hl=>by
  simp only[setAt];have e1:(pre++x::xs++zs).set pre.length y=(pre++[y])++xs++zs:=by simp
  rw[e1]
  have:=zNq ys xs (pre++[y]) zs (by simpa using hl)
  grind
theorem acts_fill{f:FuncId}{k n:Nat}{e:Bk}{wh:Bool}{us vs:List Value}{margs:List D}{more:List Value}(hmore:∀I w β vs,RelT I w β margs vs->vs=more)(he:st[k]?=Aq e)(hkd:e.kd.isMap=Ad)(hf:e.fz=Ad)(hc:e.cells.take n=us.map .val)(hn:n<=e.cells.length)(hu:us.length=n)(hv:vs.length=n)(h1:∀v∈vs,v.oneCell'=Ab)(hpos:0<n)
  (h:∀b c w,(∀j,j<n->w.cell? ⟨b,0+j,AS⟩=Aq (us.getD j undef))->(∀j,j<n->w.frozen? ⟨b,0+j,AS⟩=Ad)->n<=c->Calls P f (#[.slice (Aq ⟨b,0,AS⟩) n c]++more.toArray) w λx w'=>x= .returned (.tuple #[])/\∃q,w'=(w.drewN q).setCells b 0 vs):
  Acts P f (.osl k 0 n n wh::margs) st [] (.val (.tuple #[])) (st.set k {e with cells:=vs.map .val++e.cells.drop n}):=by
 intro β I w xs hr hsr hinj hfz hdom hi hg;simp only[RelT]at hr;obtain⟨v,ys,rfl,hr,hys⟩:=hr;obtain rfl:=hmore _ _ _ _ hys;simp only[Rel]at hr;rcases hr with⟨e0,_,rfl⟩|⟨e0,_,_,a,c,rfl,_⟩|⟨b,c,cap,hb,rfl,k1,k2,k3⟩
 ·omega
 ·omega
 have hs0:Sim β I w ([]:List D) st ({tmps:=#[],defers:=[]}:Act).tmps.toList:=⟨by simp only[RelT],hsr,hinj,hfz,hdom,hi,hg⟩;obtain⟨e',he',hown⟩:=hsr k b c hb;rw[he]at he';cases he';obtain⟨cur,c1,c2,c3,c4⟩:=hown.c hkd;have hul:(cur.take n)=us:=by
  have hx:RelL I w (if e.nob then noB else β) (e.cells.take n) (cur.take n):=by
   refine RelL.of_get (by simp;omega) λi d v hd hv=>?_;rw[List.getElem?_take]at hd hv;split at hd
   ·rename_i hi;rw[if_pos hi]at hv;obtain⟨v',k1,k2,k3⟩:=c3.get i d hd;grind
   cases hd
  rw[hc]at hx;exact zRt hx
 have hpre:=(hs0.put (off:=0) (cs:=e.cells) (vs:=cur.take e.cells.length) (ks:=[]) hb he hf hkd (by simp) (RelL.mono (zAv _) _ _ (BeLe.refl _) _ _ c3) (by simp) AS undef).2.2;have hlc:(cur.take e.cells.length).length=e.cells.length:=c3.length.symm;have e1:(#[Value.slice (Aq ⟨b,0,AS⟩) n cap]++ys.toArray)=(Value.slice (Aq ⟨b,0,AS⟩) n cap::ys).toArray:=by apply Array.ext';simp
 rw[<-e1];refine(h b cap w (λj hj=>?_) (λj hj=>(hpre j (by omega)).2) k1).mono ?_
 ·have hlt:j<cur.length:=by omega
  rw[<-hul,Bf,List.getElem?_take,if_pos hj,A2 hlt];simp[World.cell?,c1,hlt]
 rintro x w' ⟨rfl,q,rfl⟩;obtain⟨s1,s2,s3⟩:=(hs0.drew q).put (off:=0) (cs:=vs.map .val) (vs:=vs) (ks:=[]) hb he hf hkd (by simp) (zKf h1) (by simp;omega) AS undef;have hset2:setAt e.cells 0 (vs.map .val)=vs.map .val++e.cells.drop n:=by
  have:=zNq (vs.map .val) (e.cells.take n) [] (e.cells.drop n) (by simp;omega)
  grind [List.take_append_drop]
 rw[hset2]at s1;exact⟨_,β,_,rfl,s1.imb,(Stp.drew β I w q).trans s2,λ_ _ _ h=>h,s1.sr,s1.inj,s1.fz,s1.dom,by simp only[Rel]⟩
end
theorem small_c(n:Nat)(h:n<100):Pure AB 157 [.val (.int .i64 n)] [] (.val (.string ⟨(AI n).toArray⟩)):=
 zG7 (us:=[.int .i64 n]) λw=>(Tryz.internal_strconv_small n h w).mono λe w' h=>⟨h.1,h.2.symm⟩
theorem zT2(u:Nat)(h1:1<=u)(h2:u<18446744073709551616):Pure AB 158 [.val (.int .u64 u)] [] (.val (.int .i64 (AL u))):=by
 refine zR0 (us:=[.int .u64 u]) λI w hG=>?_;obtain⟨hnd,h19⟩:=Lib.numDigits_eq u h1 h2;have hL:B9 u<=64:=Lib.bitLen_le u 64 (A0 _) h2;have hcell:w.cell? ⟨1,Lib.l10 (B9 u),AS⟩=Aq (.int .u64 ((10^Lib.l10 (B9 u):Nat):Int)):=by
  refine(hG (1,Lib.pow10Tab.map λz=>Ap .u64 z) (by simp[globT]) (Lib.l10 (B9 u)) _ ?_).2;rw[Bp,<-Lib.pow10Tab_at _ (by omega)];rw[Bf,A2 (by rw[Lib.pow10Tab_length];omega)];rfl
 have hto:((u:Int)).toNat=u:=by omega
 generalize hq:Lib.l10 (B9 u)=q at hnd h19 hcell;generalize hT:10^q=T at hnd hcell;have h20:q<20:=by omega
 have Hnd:=Lib.hid hnd;clear hnd;clear hG;go_enter Tryz.func158,Tryz.ntmps158;go_wp2_with fail;refine(Tryz.bits_Len64 (u:Int) w (by omega) (by omega)).mono ?_;rintro e w' ⟨rfl,rfl⟩;rw[hto];go_wp2_with fail;refine(Tryz.internal_strconv_log10Pow2 _ hL _).mono ?_;rintro e w' ⟨rfl,rfl⟩;rw[hq];go_wp2_with fail;all_goals (
  refine(Tryz.internal_strconv_bool2_int _ _).mono ?_;rintro e w' ⟨rfl,rfl⟩)
 all_goals go_wp2_with fail
 all_goals go_ret
 all_goals (
  refine⟨?_,rfl⟩;have hnd:=Hnd.out;congr 2;split at hnd<;>simp_all<;>omega)
open Go.Sort in
theorem zVd{st:List Bk}{k u n:Nat}{e:Bk}{wh:Bool}(hn:n=AL u)(he:st[k]?=Aq e)(hkd:e.kd.isMap=Ad)(hf:e.fz=Ad)(hc:e.cells.take n=AA n (.val (.int .u8 0)))(hl:n<=e.cells.length)(hu:u<18446744073709551616):
  Acts AB 159 [.osl k 0 n n wh, .val (.int .u64 u)] st [] (.val (.tuple #[])) (st.set k {e with cells:=(B_ (AI u)).map .val++e.cells.drop n}):=by
 have hpos:0<n:=by rw[hn];unfold AL;split<;>omega
 have hdl:(AI u).length=n:=by rw[Cz,hn]
 refine acts_fill (us:=AA n (.int .u8 0)) (more:=[.int .u64 u]) (λI w β vs h=>?_) he hkd hf (by rw[hc,List.map_replicate]) hl (by simp) (by rw[Lib.byteCells_length,hdl]) (λv hv=>?_) hpos (λb c w h1 h2 h3=>?_)
 ·exact zKz [.int .u64 u] vs h
 ·obtain⟨x,_,rfl⟩:=B5.1 hv;rfl
 have hH:Holds (λ(b:UInt8)=>Ap .u8 (b.toNat:Int)) w b 0 (CA n (0:UInt8)):=λj hj=>by
  simp_all
 have main:=Tryz.internal_strconv_formatBase10 b 0 c u (CA n (0:UInt8)) w hH (by
  rw[CB,hn];exact Lib.lt_pow_nDigits u) hu (by
  rw[CB,hn]
  have:=CC u hu;omega)
 rw[CB]at main;refine main.mono ?_;rintro x w' ⟨rfl,q,v',dk,rfl,hfm⟩;refine⟨rfl,q,?_⟩;have hsz:=hfm.size;have hdk:dk.toList=AI u:=by
  apply Cx
  ·grind
  intro j a b';subst hn;rw[Lib.row_is_numeral hfm j b',Array.getElem_toList,getElem!_pos dk j (by simpa using a)]
 have:=Lib.putRow_eq_setCells (λ(b:UInt8)=>Ap .u8 (b.toNat:Int)) w b 0 (CA n (0:UInt8)) dk.toList q hH (by simp[hsz])
 rw[hdk]at this;rw[show(AI u).toArray=dk by rw[<-hdk]]at this;exact this
end
section
open Go.RowKit
attribute [local irreducible] seqW awp zAf zAn zAd Weak updS zAx retL Pure Acts rP setP setQ cP nP fr
set_option maxRecDepth 4096
abbrev byB(l:List UInt8):Bk:=⟨zAg l,5,1,Ab,Ad, .plain⟩
def Ta:Par:=⟨λf=>f==102||f==126||f==140||f==159,λ_ _=>AS,λk=>k==1,λ_=>Ad,λ_=>Ad⟩
theorem Ta_ok:zA7 AB Ta:=by intro t n f h;cases h
theorem zC5(a b:List UInt8):zAg a++zAg b=zAg (a++b):=by simp[zAg]
theorem zBi(a:List UInt8):(zAg a).length=a.length:=by simp[zAg]
theorem zHe(l:List UInt8):(B_ l).map Am=zAg l:=by simp[B_,zAg]
theorem zM0(l:List UInt8):(zAg l).map zKp=zAg l:=by simp[zAg,zKp]
theorem zYx(l:List UInt8)(r:List D)(n:Nat)(h:l.length=n):(zAg l++r).take n=zAg l:=by
 grind [zBi,Bq]
theorem bs_dl(l:List UInt8):(bs l).data.toList=l:=rfl
theorem dd_len(u:Nat)(h:u<18446744073709551616):(AI u).length<=20:=by
 rw[Cz];exact CC u h
set_option maxHeartbeats 2000000 in
theorem zTa(l:List UInt8)(u:Nat)(n:Nat)(hn:l.length=n)(hl:n<=1000000000)(hu:u<18446744073709551616):Acts AB 140 [.osl 0 0 n n Ab, .val (.int .u64 u), .val (.int .i64 10)] [byB l] [0] (.osl 0 0 (n+(AI u).length) (n+(AI u).length) Ab) [byB (l++AI u)]:=by
 subst hn;have hd:=dd_len u hu;by_cases h1:u<100
 ·refine zAj Ta_ok mixed Tryz.func140 rfl (by intro k hk;match k,hk with|0,_=>exact .inr (by simp)|1,_=>exact .inl rfl) ?_;focus
   refine vAu<|zA<|vAe<|vt<|zA<|vAe<|vT ((u:Int)<(100:Int)) ?_;refine vA<|vr 3 (i6 (u:Int))<|vc (small_c u h1)<|vr 1 (BM (byB l)=Ab/\Aa (A5<|byB l)=Aa l*1/\Aa l=Aa l*1/\Bt (byB l)=5/\Bv (byB l)=1/\Aa (zAg<|BW<|BX<|BY<|BZ<|AI u)=Aa (BW<|BX<|BY<|BZ<|AI u)*1/\0<1/\0<1/\5=5/\(Aa l+Aa (BW<|BX<|BY<|BZ<|AI u))*1<=140737488355328/\1=1/\Bi (A8<|byB l)=Ad/\(Ad=Ad\/Bj (A8<|byB l)=Ab)) (vb 0 (Al (A5 (byB l)++zAg (BW<|BX<|BY<|BZ<|AI u)) (Bt<|byB l) (Bv<|byB l) Ab Ad<|A8<|byB l) (Al (zAg (l++AI u)) (5:TypeId) 1 Ab Ad Ao) (by simp(disch:=omega) only[zC5])<|vrT 1<|vs 6 (Ag 0 0 (Aa l+Aa (BW<|BX<|BY<|BZ<|AI u)) ((Aa l+Aa (BW<|BX<|BY<|BZ<|AI u))*1) Ab) (Ag 0 0 (Aa l+Aa (AI u)) (Aa l+Aa (AI u)) Ab) (by simp(disch:=omega) only[AR])<|veT<|zE<|zG<|zG ?_) ⟨(by kernel_rfl),⟨(by simp[zBi]),⟨(by omega),⟨(by kernel_rfl),⟨(by kernel_rfl),⟨(by simp[zBi]),⟨(by omega),⟨(by omega),⟨(by kernel_rfl),⟨(by(simp;omega)),⟨(by kernel_rfl),⟨(by kernel_rfl),(by simp)⟩⟩⟩⟩⟩⟩⟩⟩⟩⟩⟩⟩;refine zM (True) [Ag 0 0 (Aa l+Aa (AI u)) (Aa l+Aa (AI u)) Ab] (.inr rfl) ?_;rotate_left
  exact⟨by kernel_rfl,by kernel_rfl⟩
 have h2:AL u<=20:=CC u hu;have hz:∀n,n<=20->(AA 24 (Am (.int .u8 0))).take n=AA n (.val (.int .u8 0)):=λn h=>by rw[List.take_replicate,Cd (by omega)]
 have hx:=Cz u;have hk:∀r,(zAg (AI u)++r).take (AL u)=zAg (AI u):=λr=>zYx _ r _ hx;have main:Acts AB 140 [.osl 0 0 l.length l.length Ab, .val (.int .u64 u), .val (.int .i64 10)] [byB l] [0] (.osl 0 0 (l.length+(AI u).length) (l.length+(AI u).length) Ab) [byB (l++AI u),⟨Ah (zAi 0) (zAg (AI u)++An (AL u) (AA 24 (.val (.int .u8 0)))),237,0,Ad,Ad, .plain⟩]:=by
  refine zAj Ta_ok mixed Tryz.func140 rfl (by intro k hk;match k,hk with|0,_=>exact .inr (by simp)|1,_=>exact .inl rfl) ?_;focus
   refine vAu<|zA<|vAe<|vt<|zA<|vAe<|vF ((u:Int)<(100:Int)) ?_;refine vK<|vAe<|vA<|vrT 1<|vc (zT2 u (by omega) hu)<|veT<|vA<|vr 2 (True/\(0:Int)<=(↑(AL u):Int)/\0<1/\Au (↑(AL u):Int)<=24/\24<=maxLen) ?_;refine vs 21 (Ag 1 0 (Au (↑(AL u):Int)) (Au (↑(AL u):Int)*1) Ad) (Ag 1 0 (AL u) (AL u) Ad) (by simp(disch:=omega) only[AT,AR])<|vrT 1<|vnt [byB l,Al [Am<|Ap Ay 0,Am<|Ap Ay 0,Am<|Ap Ay 0,Am<|Ap Ay 0,Am<|Ap Ay 0,Am<|Ap Ay 0,Am<|Ap Ay 0,Am<|Ap Ay 0,Am<|Ap Ay 0,Am<|Ap Ay 0,Am<|Ap Ay 0,Am<|Ap Ay 0,Am<|Ap Ay 0,Am<|Ap Ay 0,Am<|Ap Ay 0,Am<|Ap Ay 0,Am<|Ap Ay 0,Am<|Ap Ay 0,Am<|Ap Ay 0,Am<|Ap Ay 0,Am<|Ap Ay 0,Am<|Ap Ay 0,Am<|Ap Ay 0,Am<|Ap Ay 0] 237 0 Ad Ad Ao] ?_;refine zY [] [] [Ag 1 0 (AL u) (AL u) Ad,Am<|Ap Bo (u:Int)] [Ag 1 0 (AL u) (AL u) Ad,Am<|Ap Bo (u:Int)] (AZ _) (by exact zVd (k:=1) rfl rfl rfl rfl (hz _ h2) (by simp;omega) hu) ?_;refine v0s<|veT<|vA<|vr 3 (True/\(0:Int)<=(↑(AL u):Int)/\0<1/\Au (↑(AL u):Int)<=24/\24<=maxLen)<|vs 26 (Ag 1 0 (Au (↑(AL u):Int)) (Au (↑(AL u):Int)*1) Ad) (Ag 1 0 (AL u) (AL u) Ad) (by simp(disch:=omega) only[AT,AR])<|vr 1 (Ab=Ab/\Aa (zAg l)=Aa l*1/\Aa l=Aa l*1/\5=5/\1=1/\Aa (Ah zKp<|AK (AL u)<|An 0 (Ah Am (B_<|AI u)++An (AL u) [Am<|Ap Ay 0,Am<|Ap Ay 0,Am<|Ap Ay 0,Am<|Ap Ay 0,Am<|Ap Ay 0,Am<|Ap Ay 0,Am<|Ap Ay 0,Am<|Ap Ay 0,Am<|Ap Ay 0,Am<|Ap Ay 0,Am<|Ap Ay 0,Am<|Ap Ay 0,Am<|Ap Ay 0,Am<|Ap Ay 0,Am<|Ap Ay 0,Am<|Ap Ay 0,Am<|Ap Ay 0,Am<|Ap Ay 0,Am<|Ap Ay 0,Am<|Ap Ay 0,Am<|Ap Ay 0,Am<|Ap Ay 0,Am<|Ap Ay 0,Am<|Ap Ay 0]))=AL u*1/\0<1/\0<1/\5=5/\(Aa l+AL u)*1<=140737488355328/\1=1/\Bi Ao=Ad/\(Ad=Ad\/Bj Ao=Ab)) ?_ ⟨(by kernel_rfl),⟨(by simp[zBi]),⟨(by omega),⟨(by kernel_rfl),⟨(by kernel_rfl),⟨(by simp[zBi,hk,zM0,zHe,hx]),⟨(by omega),⟨(by omega),⟨(by kernel_rfl),⟨(by omega),⟨(by kernel_rfl),⟨(by kernel_rfl),(by simp)⟩⟩⟩⟩⟩⟩⟩⟩⟩⟩⟩⟩;refine vb 0 (Al (zAg l++Ah zKp (AK (AL u)<|An 0 (Ah Am (B_<|AI u)++An (AL u) [Am<|Ap Ay 0,Am<|Ap Ay 0,Am<|Ap Ay 0,Am<|Ap Ay 0,Am<|Ap Ay 0,Am<|Ap Ay 0,Am<|Ap Ay 0,Am<|Ap Ay 0,Am<|Ap Ay 0,Am<|Ap Ay 0,Am<|Ap Ay 0,Am<|Ap Ay 0,Am<|Ap Ay 0,Am<|Ap Ay 0,Am<|Ap Ay 0,Am<|Ap Ay 0,Am<|Ap Ay 0,Am<|Ap Ay 0,Am<|Ap Ay 0,Am<|Ap Ay 0,Am<|Ap Ay 0,Am<|Ap Ay 0,Am<|Ap Ay 0,Am<|Ap Ay 0]))) 5 1 Ab Ad Ao) (Al (zAg (l++AI u)) 5 1 Ab Ad Ao) (by simp(disch:=omega) only[zHe,A9,zM0,zC5,hk])<|vrT 1<|vs 6 (Ag 0 0 (Aa l+AL u) ((Aa l+AL u)*1) Ab) (Ag 0 0 (Aa l+AL u) (Aa l+AL u) Ab) (by simp(disch:=omega) only[AR])<|veT<|zE<|zG ?_;refine zM (True) [Ag 0 0 (Aa l+AL u) (Aa l+AL u) Ab] (.inr rfl) ?_;rotate_left
  exact⟨by rw[hx];rfl,by rw[<-zHe (AI u)];kernel_rfl⟩
 exact main.cut 1 (by simp) rfl
set_option maxHeartbeats 2000000 in
theorem appIntI_c(l:List UInt8)(z:Int)(n:Nat)(hn:l.length=n)(hl:n<=900000000)(h0:-9223372036854775808<=z)(h1:z<=9223372036854775807):Acts AB 126 [.osl 0 0 n n Ab,iD z,iD 10] [byB l] [0] (.osl 0 0 (n+(Bc z).length) (n+(Bc z).length) Ab) [byB (l++Bc z)]:=by
 subst hn;by_cases hz:z<0
 ·have e:Bc z=45::AI z.natAbs:=by unfold Bc;rw[if_pos hz]
  have e1:(Bo.wrap (0-Bo.wrap z))=((z.natAbs:Nat):Int):=by
   simp only[BJ,IntKind.bits,IntKind.signed,Bool.false_and,Bool.false_eq_true,if_false];omega
  have j1:=(zTa (l++[45]) z.natAbs (l.length+1) (by simp) (by omega) (by omega)).atC 0 (st:=[byB (l++[45]),byB [45]]) rfl (.inl rfl) (.inl rfl) (zP9 [.int .u64 z.natAbs, .int .i64 10]) (λj e0 hj he=>by match j,hj,he with|0,hj,_=>exact absurd rfl hj|1,_,he=>cases he;exact .inl rfl);have main:Acts AB 126 [.osl 0 0 l.length l.length Ab,iD z,iD 10] [byB l] [0] (.osl 0 0 (l.length+1+(AI z.natAbs).length) (l.length+1+(AI z.natAbs).length) Ab) [byB (l++[45]++AI z.natAbs),byB [45]]:=by
   refine zAj Ta_ok mixed Tryz.func126 rfl (by intro k hk;match k,hk with|0,_=>exact .inr (by simp)|1,_=>exact .inl rfl) ?_;focus
    refine vAu<|vA<|vew [9] [] (True)<|zA<|vAe<|vT (z<0)<|vA ?_;refine vr 3 (((1=1/\1<=1/\True)/\0<1/\1=1/\1<=16777216/\1<=9223372036854775807)/\BM (byB l)=Ab/\Aa (A5<|byB l)=Aa l*1/\Aa l=Aa l*1/\Bt (byB l)=5/\Bv (byB l)=1/\1=1/\0<1/\0<1/\5=5/\(Aa l+1)*1<=140737488355328/\1=1/\Bi (A8<|byB l)=Ad/\(Ad=Ad\/Bj (A8<|byB l)=Ab)) (vb 0 (Al (A5 (byB l)++[Am<|Ap Ay 45]) (Bt<|byB l) (Bv<|byB l) Ab Ad<|A8<|byB l) (Al (zAg (l++[(45:UInt8)])) (5:TypeId) 1 Ab Ad Ao) (by simp(disch:=omega) only[zC5,show([Am (Ap Ay 45)]:List D)=zAg [45]from rfl])<|vrT 1<|vs 0 (Ag 0 0 (Aa l+1) ((Aa l+1)*1) Ab) (Ag 0 0 (Aa l+1) (Aa l+1) Ab) (by simp(disch:=omega) only[AR])<|veT<|zB rfl<|vw 2 [16] [] (True)<|vs 16 (Am<|Ap Bo<|BJ Bo ((0:Int)-BJ Bo z)) (Am<|Ap Bo (↑(Cb z):Int)) (by simp(disch:=omega) only[e1])<|veT<|vA<|vrT 3<|vnt [Al (zAg (l++[(45:UInt8)])) (5:TypeId) 1 Ab Ad Ao,Al (zAg [(45:UInt8)]) 5 1 Ab Ad Ao] ?_) ⟨⟨⟨(by kernel_rfl),⟨(by omega),trivial⟩⟩,(by omega)⟩,⟨(by kernel_rfl),⟨(by simp[zBi]),⟨(by omega),⟨(by kernel_rfl),⟨(by kernel_rfl),⟨(by kernel_rfl),⟨(by omega),⟨(by omega),⟨(by kernel_rfl),⟨(by omega),⟨(by kernel_rfl),⟨(by kernel_rfl),(by simp)⟩⟩⟩⟩⟩⟩⟩⟩⟩⟩⟩⟩⟩;refine zG3 [] [] [Ag 0 0 (Aa l+1) (Aa l+1) Ab,Am<|Ap Bo (↑(Cb z):Int),iD 10] [Ag 0 0 (Aa l+1) (Aa l+1) Ab,Am<|Ap Bo (↑(Cb z):Int),iD 10] (AZ _) (by exact j1) ?_;refine v0s<|veT<|zE ?_;refine zM (True) [Ag 0 0 (Aa l+1+Aa (AI<|Cb z)) (Aa l+1+Aa (AI<|Cb z)) Ab] (.inr rfl) ?_;rotate_left
   exact⟨by kernel_rfl,by kernel_rfl⟩
  have h2:=main.cut 1 (by simp) rfl;grind
 obtain⟨u,rfl⟩:∃u:Nat,z=u:=⟨z.toNat,by omega⟩;have e:Bc u=AI u:=Lib.itoa_nonneg u;have j1:=zTa l u l.length rfl (by omega) (by omega);rw[e];refine zAj Ta_ok mixed Tryz.func126 rfl (by intro k hk;match k,hk with|0,_=>exact .inr (by simp)|1,_=>exact .inl rfl) ?_;focus
  refine vAu<|vA<|ve (u6 (u:Int))<|zA<|vAe<|vF ((u:Int)<0)<|zQ<|zC ?_;refine zAw<|vA<|vrT 3<|vnt [byB l] ?_;refine zG3 [] [] [Ag 0 0 (Aa l) (Aa l) Ab,Am<|Ap Bo (u:Int),iD 10] [Ag 0 0 (Aa l) (Aa l) Ab,Am<|Ap Bo (u:Int),iD 10] (AZ _) (by exact j1) ?_;refine v0s<|veT<|zE ?_;refine zM (True) [Ag 0 0 (Aa l+Aa (AI u)) (Aa l+Aa (AI u)) Ab] (.inr rfl) ?_;rotate_left
 exact⟨by kernel_rfl,by kernel_rfl⟩
theorem appInt_c(l:List UInt8)(z:Int)(n:Nat)(hn:l.length=n)(hl:n<=900000000)(h0:-9223372036854775808<=z)(h1:z<=9223372036854775807):Acts AB 102 [.osl 0 0 n n Ab,iD z,iD 10] [byB l] [0] (.osl 0 0 (n+(Bc z).length) (n+(Bc z).length) Ab) [byB (l++Bc z)]:=by
 refine zAj Ta_ok mixed Tryz.func102 rfl (by intro k hk;match k,hk with|0,_=>exact .inr (by simp)|1,_=>exact .inl rfl) ?_;focus
  refine vAu<|vA<|vrT 3<|vnt [byB l] ?_;refine zG3 [] [] [Ag 0 0 n n Ab,iD z,iD 10] [Ag 0 0 n n Ab,iD z,iD 10] (AZ _) (by exact appIntI_c l z n hn hl h0 h1) ?_;refine v0s<|veT<|zE ?_;refine zM (True) [Ag 0 0 (n+Aa (Bc z)) (n+Aa (Bc z)) Ab] (.inr rfl) ?_;rotate_left
 exact⟨by kernel_rfl,by kernel_rfl⟩
theorem zM7{st:List Bk}(k:Nat)(l:List UInt8)(z:Int)(n:Nat)(hn:l.length=n)(hl:n<=900000000)(h0:-9223372036854775808<=z)(h1:z<=9223372036854775807)(he:st[k]?=Aq (byB l))(hno:∀j e0,j≠k->st[j]?=Aq e0->e0.nob=Ab\/zX k e0.cells=Ad):Acts AB 102 [.osl k 0 n n Ab,iD z,iD 10] st [k] (.osl k 0 (n+(Bc z).length) (n+(Bc z).length) Ab) (st.set k (byB (l++Bc z))):=
 (appInt_c l z n hn hl h0 h1).atC k he (.inl rfl) (.inl rfl) (zP9 [.int .i64 z, .int .i64 10]) hno
end
end Go.Proofs.YtjcofbkhoeockaaGreatDoor
