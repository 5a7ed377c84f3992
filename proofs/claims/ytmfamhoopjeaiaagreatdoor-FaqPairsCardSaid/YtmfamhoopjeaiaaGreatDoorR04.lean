/- Texts of this claim, joined. -/
import Derived.Test.YtmfamhoopjeaiaaGreatDoorR03
set_option linter.unusedVariables false
set_option linter.unusedSimpArgs false
namespace Go.Proofs.YtmfamhoopjeaiaaGreatDoor
open _root_.List renaming length->Aa,flatMap->Ae,map->Af,drop->Ag,take->Al,getD->Ap,range->AB,mem_map->AE,getD_eq_getElem?_getD->AF,take_of_length_le->AK,drop_zero->AM,getElem?_eq_getElem->AQ,length_map->AR,length_append->A1,mem_filter->A2,cons_append->A3,nil_append->A4,length_drop->A5,length_cons->A8,all_eq_true->Bb,map_map->Bf,length_filter_le->Bj,append_nil->Bl,mem_cons->Bo,mem_cons_of_mem->Bq,length_take->Br,getElem_mem->Bs,headD->Bx,filter_append->BA,mem_cons_self->BF,map_congr_left->BG,drop_eq_getElem_cons->BI,mem_of_mem_drop->BJ,flatMap_append->BK,drop_of_length_le->BL,take_succ_eq_append_getElem->BO,all->BP,set->BQ,any_eq_true->BR,mem_iff_getElem->BS,getElem_take->BU,flatMap_cons->BV,not_mem_nil->BW,filter_cons->BX,take_length->BZ,map_id->B0,mem_append_left->B4,mem_append_right->B5,mem_append->B6,foldr_nil->B7,length_nil->B9,pairwise_lt_range->B_,foldl_append->Cc,filter_congr->Cd,flatMap_map->Ce,eq_nil_of_length_eq_zero->Cf
open _root_.Bool renaming true->Ab,false->Ac,and_eq_true->Bn,eq_iff_iff->BC,not_eq_true'->BD,not_eq_false'->BN,or_eq_true->Ca,eq_false_iff->Cb
open D renaming row->Ad,osl->Ai,own->Aj,agg->Ak,val->Aq,ptr->AD,ifc->AG,clo->Bc,mref->By
open _root_.Inhabited renaming default->Ah
open Kd renaming plain->Am,isMap->AU,isSh->AV
open _root_.Option renaming some->An,none->AH,isNone->A9,getD->A_,getD_some->BT
open Bk renaming mk->Ao,kd->AA,cells->AI,ty->AS,sz->AT,arr->A0,fz->A7
open _root_.Go.Proofs.Tryz renaming prog->Ar,func3->B3
open _root_.Int renaming toNat->As,toNat_natCast->Az,fdiv->Bu
open _root_.Nat renaming le_trans->Au,lt_or_ge->Aw,le_mul_of_pos_right->AN,mul_le_mul_right->A6,pow_le_pow_right->Ba,mul_one->Bm,mul_assoc->BB,le_refl->BE,add_sub_cancel->BH,one_le_two_pow->BM,mul_le_mul_left->B2,testBit_two_pow_sub_one->B8
open IntKind renaming u32->Av,wrap->AO,i64->AY
open Value renaming int->Ax,string->AJ,slice->Bt,bool->B1
open _root_.BitVec renaming ofInt->Ay,toNat->AP
open Fa renaming A->AC,l->AW,mp->AX
open _root_.Prod renaming snd->AL,fst->AZ
open _root_.ByteArray renaming mk->Bd
open TypeInfo renaming desc->Bg,mk->Bh
open TypeDesc renaming string->Bi
open Weak renaming nilC->Bp,osr->Bv,fzCell->Bw
open Lib renaming bitLen->BY
open Go.RowKit
section
attribute [local irreducible] seqW awp zAe zAh zAb Weak updS zAs retL Pure Acts rP setP setQ cP nP fr
set_option maxRecDepth 4096
theorem zNs(l:List (Fa Nat)):(l.flatMap faAc).length=l.length*3:=zCc zA7 l
theorem zX1(v:Nat)(fs:List (Fa Nat))(k:Nat)(h:k<fs.length):zCg v (fs.take (k+1))=zCg v (fs.take k)++(if v∈(fs.getD k Ah).A then[fs.getD k Ah]else[])/\zCq v (fs.take (k+1))=zCq v (fs.take k)++(if v∈(fs.getD k Ah).A then[]else[fs.getD k Ah]):=by
 rw[zBl fs k h];unfold zCg zCq;rw[BA,BA];constructor<;>congr 1<;>by_cases hc:v∈(fs.getD k Ah).A<;>simp[BX,hc]
theorem zCv{α:Type}(l:List α)(x:α):(l++[x]).length=l.length+1:=by simp
theorem zTl(l:List (Fa Nat))(f:Fa Nat):(l++[f]).flatMap faAc=l.flatMap faAc++faAc f:=by simp
section
variable {Dm : List Va}
set_option maxHeartbeats 8000000 in
theorem zTo(hD:Okv Dm)(fs:List (Fa Nat))(v:Nat)(hf:∀f∈fs,FOk rcmp Dm f)(hl:fs.length<=500)(hr:pz rz fs<=900000)(hz:pz vz fs<=4000000000000000000)(hv:∃f∈fs,v∈f.A)(hv32:v<32):
  Pure Ar 48 [cntD, .row (fs.flatMap faAc) fs.length,iD (v:Nat)] [] (.row ((elim rcmp Sn v fs).flatMap faAc) (elim rcmp Sn v fs).length):=by
 have hg:∀f∈fs,Gof Dm f:=λf h=>⟨hf f h,Au (zFx zCh h) hr,Au (zFx zG3 h) hz⟩;refine zH zCf mixed Tryz.func48 rfl<|vAu<|vAe<|zB<|vAe<|zF<|zAo (λ(k:Nat)(a:List (Fa Nat))(b:List (Fa Nat))=>fr 65 [(0,cntD),(2,iD (v:Int)),(6,nl),(7,Ai 0 0 (Aa a) (Aa a*3) Ab),(8,Ai 1 0 (Aa b) (Aa b*3) Ab),(14,Ad (Ae faAc fs)<|Aa fs),(15,iD (Aa fs:Int)),(16,iD (k:Int))]) (λ(k:Nat)(a:List (Fa Nat))(b:List (Fa Nat))=>[fsB<|a.flatMap faAc,fsB<|b.flatMap faAc]) (λk a b=>fs.length-k) (λ(k:Nat)(a:List (Fa Nat))(b:List (Fa Nat))=>k<=fs.length/\a=zCg v (fs.take k)/\b=zCq v (fs.take k)) 0 [] [] ?_ ?_ ?_
 ·exact⟨by omega,rfl,rfl⟩
 ·refine vk 0
 rintro k a b ⟨h1,ha,hb⟩;rcases Aw k fs.length with h2|h2
 ·have hmf:=zAx fs Ah k h2;have hg2:=zA9 zA7 fs k h2;have hle:=zB5 zA7 fs k h2;have hne2:=zCb zA7 (by decide) fs;have hAf:=(hf _ hmf).asc;have nAf:=zBc hAf;have sA:=zNm (fs.getD k Ah).A _ rfl (by omega) hAf.2 (rwsD (fs.getD k Ah).l) (vlsD (fs.getD k Ah).l) (fs.getD k Ah).l.length (fs.getD k Ah).l.length;have hma:=zA3 hAf.2;have w1:=zR4 hma v;have w2:=zXs hma v;rw[zB2]at w1 w2;have w3:=zDt (msk (fs.getD k Ah).A) hv32;obtain⟨u1,u2⟩:=zX1 v fs k h2;rw[<-ha]at u1;rw[<-hb]at u2;have la:a.length<=500:=by rw[ha];exact Au (Bj _ _) (by simp;omega)
  have lb:b.length<=500:=by rw[hb];exact Au (Bj _ _) (by simp;omega)
  have ca:=zNs a;have cb:=zNs b;generalize fs.getD k Ah=f at*;focus
   refine vAu<|zB<|vT ((k:Int)<↑(Aa fs))<|vKB<|vA<|vr 2 (ix ↑k ↑(Aa fs) (Ae faAc fs≠[])/\3<=Aa (Ag (k*3)<|Ae faAc fs))<|vs 19 (Ak<|Al 3<|Ag (k*3)<|Ae faAc fs) (Ak<|faAc f) (hd:=by simp(disch:=omega) only[hg2])<|ve (Ac=Ac/\Ab=Ab/\3=3/\3<=3)<|vA<|vr 1 (3<=3)<|vc sA<|vr 2 ((0:Int)<=(v:Int))<|vs 23 (Aq<|Ax Av<|Bu (↑(msk<|AC f):Int) ((2:Int)^min (As (v:Int)) 32)) (dig (msk (AC f)>>>v)) (hd:=by simp(disch:=omega) only[Az,w3])<|vrT 1<|vs 24 (Aq<|Ax Av<|AO Av (↑(AP (Ay 32 (↑(msk (AC f)>>>v):Int)&&&Ay 32 (1:Int))):Int)) (dig<|AP (Ay 32 (↑(msk (AC f)>>>v):Int)&&&Ay 32 (1:Int))) (hd:=by simp(disch:=omega) only[zA1])<|vrT 1<|vs 25 (bD ((↑(AP (Ay 32 (↑(msk (AC f)>>>v):Int)&&&Ay 32 (1:Int))):Int)==(1:Int))) (bD<|decide (v∈AC f)) (hd:=by simp(disch:=omega) only[w1])<|veT<|vcD (v∈AC f) (λhc=>?_)<|λhc=>?_;refine zA rfl<|vr 5 (3<=3/\((3=3/\3<=3/\True)/\0<3/\3=3/\3<=16777216/\1<=9223372036854775807)/\A0 (fsB<|Ae faAc a)=Ab/\Aa (AI<|fsB<|Ae faAc a)=Aa a*3/\Aa a*3=Aa a*3/\AS (fsB<|Ae faAc a)=90/\AT (fsB<|Ae faAc a)=3/\3=3/\0<3/\0<72/\90=90/\(Aa a+1)*72<=140737488355328/\3=3/\AU (AA<|fsB<|Ae faAc a)=Ac/\(Ac=Ac\/AV (AA<|fsB<|Ae faAc a)=Ab))<|vnil<|zD<|vN<|zA rfl<|vr 2 (i6 (↑k+1))<|vnil<|zC ?_;rotate_left;refine zA rfl<|vr 5 (3<=3/\((3=3/\3<=3/\True)/\0<3/\3=3/\3<=16777216/\1<=9223372036854775807)/\A0 (fsB<|Ae faAc b)=Ab/\Aa (AI<|fsB<|Ae faAc b)=Aa b*3/\Aa b*3=Aa b*3/\AS (fsB<|Ae faAc b)=90/\AT (fsB<|Ae faAc b)=3/\3=3/\0<3/\0<72/\90=90/\(Aa b+1)*72<=140737488355328/\3=3/\AU (AA<|fsB<|Ae faAc b)=Ac/\(Ac=Ac\/AV (AA<|fsB<|Ae faAc b)=Ab))<|vnil<|zD<|vN<|zA rfl<|vr 2 (i6 (↑k+1))<|vnil<|zC ?_;rotate_left
  ·rw[if_pos hc]at u1 u2;rw[Bl]at u2;refine⟨k+1,a++[f],b,⟨by omega,u1.symm,u2.symm⟩,by omega,?_⟩;rw[zTl,zCv];refine vk 2
  rw[if_neg hc]at u1 u2;rw[Bl]at u1;refine⟨k+1,a,b++[f],⟨by omega,u1.symm,u2.symm⟩,by omega,?_⟩;rw[zTl,zCv];refine vk 2
 rw[AK (by omega)]at ha hb;have hperm:=zC2 v fs;rw[<-ha,<-hb]at hperm;have hpr:=zHd rz hperm;have hpv:=zHd vz hperm;have hmem:=λf=>hperm.mem_iff (a:=f);have hvin:∀f∈a,v∈f.A:=λf h=>by
  rw[ha,zCg,A2]at h;simpa using h.2
 have hlen:=hperm.length_eq;rw[A1]at hlen;cases a with
 |nil=>
  exfalso;obtain⟨f,h5,h6⟩:=hv;have:f∈zCg v fs:=A2.2 ⟨h5,by simpa using h6⟩;rw[<-ha]at this;simp at this
 | cons p ws=>
  have hel:elim rcmp Sn v fs=b++[fsum rcmp Sn v (zBb rcmp Sn p ws b)]:=by
   unfold elim;rw[<-ha,<-hb]
  rw[hel];clear hel ha hb hv;have h0:((p::ws).flatMap faAc).take 3=faAc p:=rfl;have hfa:=zBs zA7 (p::ws) (ws.length+1) rfl;have hfb:=zBs zA7 b _ rfl;refine vAu<|zB<|vF ((k:Int)<↑(Aa fs))<|vZ2<|vA<|vr 5 (((0:Int)<=(0:Int)/\(0:Int)<(↑(Aa ws+1):Int))/\3<=Aa (Ag 0<|AI<|fsB<|Ae faAc (p::ws))/\Ac=Ac/\Ab=Ab/\3=3/\3<=3)<|vnil<|zC<|vnn (fr 65 [(0,cntD),(2,iD v),(6,nl),(7,Ai 0 0 (Aa (p::ws)) (Aa (p::ws)*3) Ab),(8,Ai 1 0 (Aa b) (Aa b*3) Ab),(11,Aj 2 0),(14,Ad (Ae faAc fs)<|Aa fs),(15,iD<|Aa fs),(16,iD k),(17,bD<|decide ((k:Int)<↑(Aa fs))),(35,Ai 0 0 (Aa ws+1) ((Aa ws+1)*3) Ab),(36,Aj 0 0),(37,Ak [Ad (nsD<|AC p)<|Aa<|AC p,Ad (rwsD<|AW p)<|Aa<|AW p,Ad (vlsD<|AW p)<|Aa<|AW p])]) [fsB<|Ae faAc (p::ws),fsB<|Ae faAc b,Ao [Ad (nsD<|AC p)<|Aa<|AC p,Ad (rwsD<|AW p)<|Aa<|AW p,Ad (vlsD<|AW p)<|Aa<|AW p] 90 0 Ac Ac Am] ?_;clear h1 h2 hperm;refine zAw (((Bv (s:=7) (k:=0) (off:=0) (n:=ws.length+1) (m:=(ws.length+1)*3) (wh:=Ab) (cs:=(p::ws).flatMap faAc) (by kernel_rfl) (by exact(show An (Ad ((((p::ws).flatMap faAc).drop 0).take ((ws.length+1)*3)) (ws.length+1),[0])=_ by rw[AM,hfa]))).trans (Bv (s:=8) (k:=1) (off:=0) (n:=b.length) (m:=b.length*3) (wh:=Ab) (cs:=b.flatMap faAc) (by kernel_rfl) (by exact(show An (Ad (((b.flatMap faAc).drop 0).take (b.length*3)) b.length,[1])=_ by rw[AM,hfb])))).trans<|Weak.leS (s:=7) (d':= .row ((p::ws).flatMap faAc) (ws.length+1)) (by kernel_rfl)<|LeD.osr_row 0 0 (ws.length+1) ((ws.length+1)*3) Ab<|(p::ws).flatMap faAc) ?_;have hs1:((p::ws).flatMap faAc).drop 3=ws.flatMap faAc:=rfl;have hs2:(ws.flatMap faAc).take (ws.length*3)=ws.flatMap faAc:=zBs zA7 ws _ rfl;have hwl:ws.length<=500:=by simp only[A8]at hlen;omega
  refine zB<|vAs<|vr 2 ((0:Int)<=(1:Int)/\True/\True/\0<3/\1<=Aa ws+1/\Aa ws+1<=Aa ws+1/\Aa ws+1=Aa ws+1)<|vs 39 (Ad (Al ((Aa ws+1-1)*3)<|Ag 3<|Ae faAc (p::ws)) (Aa ws+1-1)) (Ad (Ae faAc ws)<|Aa ws) (hd:=by simp(disch:=omega) only[BH,hs2,hs1])<|veT<|zF ?_;have hp1:=hf p ((hmem p).1 (by simp));have hws:∀f∈ws,f∈fs:=λf h=>(hmem f).1 (B4 _ (Bq _ h));have hbs:∀f∈b,f∈fs:=λf h=>(hmem f).1 (B5 _ h);have b1:rz p*pz rz ws<=900000:=by
   rw[zHx,zBj]at hpr;exact Au (AN _ (zCo zCh b)) (by omega)
  have b2:vz p*pz vz ws<=4000000000000000000:=by
   rw[zHx,zBj]at hpv;exact Au (AN _ (zCo zG3 b)) (by omega)
  refine zAo (λ(t:Nat)(A:List Nat)(l:List (Rw×Nat))=>fr 65 [(0,cntD),(2,iD v),(6,nl),(7,Ad (Ae faAc (p::ws)) (Aa ws+1)),(8,D.osr 1 0 (Aa b) (Aa b*3) Ab<|Ae faAc b),(11,Aj 2 0),(39,Ad (Ae faAc ws)<|Aa ws),(40,iD<|Aa ws),(41,iD t)]) (λ(t:Nat)(A:List Nat)(l:List (Rw×Nat))=>[⟨(p::ws).flatMap faAc,90,3,Ab,Ab,.plain⟩,⟨b.flatMap faAc,90,3,Ab,Ab,.plain⟩,fB1 (.row (nsD A) A.length) (.row (rwsD l) l.length)<|.row (vlsD l) l.length]) (λt A l=>ws.length-t) (λ(t:Nat)(A:List Nat)(l:List (Rw×Nat))=>t<=ws.length/\zBb rcmp Sn ⟨A,l⟩ (ws.drop t) b=zBb rcmp Sn p ws b/\FOk rcmp Dm ⟨A,l⟩/\rz (⟨A,l⟩:Fa Nat)*pz rz (ws.drop t)<=900000/\vz (⟨A,l⟩:Fa Nat)*pz vz (ws.drop t)<=4000000000000000000/\v∈A) 0 p.A p.l ?_ ?_ ?_
  ·exact⟨by omega,rfl,hp1,b1,b2,hvin p (by simp)⟩
  ·refine vk 3
  rintro t A l ⟨t1,t2,t3,t4,t5,t6⟩;rcases Aw t ws.length with t7|t7
  ·have hmf:=zAx ws Ah t t7;have hg2:=zA9 zA7 ws t t7;have hle:=zB5 zA7 ws t t7;have hne2:=zCb zA7 (by decide) ws;have hdr:ws.drop t=ws.getD t Ah::ws.drop (t+1):=by
    rw[BI t7,AF,AQ t7];rfl
   rw[hdr]at t2 t4 t5;rw[zBj,<-BB]at t4 t5;have q1:rz (⟨A,l⟩:Fa Nat)*rz (ws.getD t Ah)<=900000:=Au (AN _ (zCo zCh _)) t4;have q2:vz (⟨A,l⟩:Fa Nat)*vz (ws.getD t Ah)<=4000000000000000000:=Au (AN _ (zCo zG3 _)) t5;have gA:Gof Dm ⟨A,l⟩:=⟨t3,Au (AN _ (zCh _)) q1,Au (AN _ (zG3 _)) q2⟩;have hmul:=zL2 hD ⟨A,l⟩ (ws.getD t Ah) (ws.drop (t+1)++b) gA (hg _ (hws _ hmf)) (λo ho=>by
    rcases B6.1 ho with h|h
    ·exact hg _ (hws _ (BJ h))
    exact hg _ (hbs _ h)) (by rw[A1,A5];simp only[A8]at hlen;omega) q1
   have r1:=zEt (c:=rcmp) Sn ⟨A,l⟩ (ws.getD t Ah) (ws.drop (t+1)++b);have r2:=zMb (c:=rcmp) ⟨A,l⟩ (ws.getD t Ah) (ws.drop (t+1)++b);have r3:=zEu (S:=Sn) rcw t3 (hf _ (hws _ hmf)) (ws.drop (t+1)++b);have r4:=Au (A6 (pz rz (ws.drop (t+1))) r1) t4;have r5:=Au (A6 (pz vz (ws.drop (t+1))) r2) t5;have r6:v∈(fmul rcmp Sn ⟨A,l⟩ (ws.getD t Ah) (ws.drop (t+1)++b)).A:=zD0.2 ⟨hv32, .inl t6⟩;rw[zBb]at t2;have hcc:=concat_c ((ws.drop (t+1)).flatMap faAc) (b.flatMap faAc) (ws.drop (t+1)).length b.length (zNs _) (zNs _) (by rw[A5];simp only[A8]at hlen;omega) (by simp only[A8]at hlen;omega) (λ_ _=>trivial);rw[<-BK,<-A1]at hcc;have hsl:((p::ws).flatMap faAc).drop ((t+2)*3)=(ws.drop (t+1)).flatMap faAc:=by
    rw[zHi zA7];rfl
   have hsn:ws.length+1-(t+2)=(ws.drop (t+1)).length:=by rw[A5];omega
   have hst:=zBs zA7 (ws.drop (t+1)) _ rfl;generalize ws.getD t Ah=f at*;generalize fmul rcmp Sn ⟨A,l⟩ f (ws.drop (t+1)++b)=q at*;obtain⟨A',l'⟩:=q;have cast2:(t:Int)+2=((t+2:Nat):Int):=by omega
   refine vAu<|zB<|vT ((t:Int)<↑(Aa ws))<|vKB<|vA<|vr 3 (ix ↑t ↑(Aa ws) (Ae faAc ws≠[])/\3<=Aa (Ag (t*3)<|Ae faAc ws))<|vs 45 (Ak<|Al 3<|Ag (t*3)<|Ae faAc ws) (Ak<|faAc f) (hd:=by simp(disch:=omega) only[hg2])<|ve (Ac=Ac/\Ab=Ab/\3=3/\3<=3)<|vd [0,3,4,5,6,7,1,2,8,9,10,11]<|vr 5 (i6 (↑t+2)/\(0:Int)<=(↑(t+2):Int)/\True/\True/\0<3/\As (↑(t+2):Int)<=Aa ws+1/\Aa ws+1<=Aa ws+1/\Aa ws+1=Aa ws+1)<|vs 52 (Ad (Al ((Aa ws+1-As (↑(t+2):Int))*3)<|Ag (As (↑(t+2):Int)*3)<|Ae faAc (p::ws)) (Aa ws+1-As (↑(t+2):Int))) (Ad (Ae faAc<|Ag (t+1) ws)<|Aa<|Ag (t+1) ws) (hd:=by simp(disch:=omega) only[Az,hsn,hsl,hst])<|vr 4 (3<=3/\3<=3/\(1=1/\1<=2/\1=1/\2<=2/\True)/\0<1/\1=1/\2<=16777216/\2<=9223372036854775807)<|vc hcc<|vc hmul<|vr 1 (A7 (fB1 (Ad (nsD A)<|Aa A) (Ad (rwsD l)<|Aa l)<|Ad (vlsD l)<|Aa l)=Ac/\Ab=Ab/\3=3/\3<=3)<|vnil<|zD<|vN<|zA rfl<|vr 2 (i6 (↑t+1))<|vnil<|zC<|⟨t+1,A',l',⟨by omega,t2,r3,r4,r5,r6⟩,by omega,?_⟩;refine vk 3
  rw[BL t7]at t2 t4 t5;simp only[pz,B7,Bm,zBb]at t2 t4 t5;have hsum:=zYc hD ⟨A,l⟩ ⟨t3,t4,t5⟩ v t6;rw[<-t2,zTl,zCv];have cb:=zNs b;generalize fsum rcmp Sn v ⟨A,l⟩=q at*;obtain⟨A',l'⟩:=q;have ht:(b.flatMap faAc++faAc ⟨A',l'⟩).take ((b.length+1)*3)=b.flatMap faAc++faAc ⟨A',l'⟩:=AK (by rw[A1,cb];show _+3<=_;omega);refine vAu<|zB<|vF ((t:Int)<↑(Aa ws))<|vZ2<|vA<|vr 4 (3<=3)<|vc hsum<|ve (((3=3/\3<=3/\True)/\0<3/\3=3/\3<=16777216/\1<=9223372036854775807)/\Ab=Ab/\Aa (Ae faAc b)=Aa b*3/\Aa b*3=Aa b*3/\90=90/\3=3/\3=3/\0<3/\0<72/\90=90/\(Aa b+1)*72<=140737488355328/\3=3/\AU Am=Ac/\(Ac=Ac\/AV Am=Ab))<|zK<|zBr (True) (Ad (Al ((Aa b+1)*3)<|Ag 0 (Ae faAc b++[Ad (nsD A')<|Aa A',Ad (rwsD l')<|Aa l',Ad (vlsD l')<|Aa l'])) (Aa b+1)) (Ad (Ae faAc b++faAc (Fa.mk A' l')) (Aa b+1)) (.inr rfl) (by simp(disch:=omega) only[AM,ht]) rfl
end
theorem zJ4(l:List (Fa (Option Nat))):(l.flatMap zAd).length=l.length*3:=zCc zA0 l
theorem zWz(v:Nat)(fs:List (Fa (Option Nat)))(k:Nat)(h:k<fs.length):zCg v (fs.take (k+1))=zCg v (fs.take k)++(if v∈(fs.getD k Ah).A then[fs.getD k Ah]else[])/\zCq v (fs.take (k+1))=zCq v (fs.take k)++(if v∈(fs.getD k Ah).A then[]else[fs.getD k Ah]):=by
 rw[zBl fs k h];unfold zCg zCq;rw[BA,BA];constructor<;>congr 1<;>by_cases hc:v∈(fs.getD k Ah).A<;>simp[BX,hc]
theorem zP4(l:List (Fa (Option Nat)))(f:Fa (Option Nat)):(l++[f]).flatMap zAd=l.flatMap zAd++zAd f:=by simp
section
variable {Dm : List Va}
set_option maxHeartbeats 8000000 in
theorem zRw(hD:Okv Dm)(fs:List (Fa (Option Nat)))(v:Nat)(hf:∀f∈fs,FOk rcmp Dm f)(hl:fs.length<=500)(hr:pz rz fs<=900000)(hz:pz kz fs<=Bz)(hv:∃f∈fs,v∈f.A)(hv32:v<32):
  Pure Ar 61 [trpD, .row (fs.flatMap zAd) fs.length,iD (v:Nat)] [] (.row ((elim rcmp Sk v fs).flatMap zAd) (elim rcmp Sk v fs).length):=by
 have hg:∀f∈fs,GofK Dm f:=λf h=>⟨hf f h,Au (zFx zCh h) hr,Au (zFx zG6 h) hz⟩;refine zH zCf mixed Tryz.func61 rfl<|zB<|zA rfl<|v0s<|veT<|zB<|zA rfl<|veT<|zB<|zB<|zA rfl<|veT<|zF<|zAo (λ(k:Nat)(a:List (Fa<|Option Nat))(b:List (Fa<|Option Nat))=>fr 65 [(0,trpD),(2,iD (v:Int)),(6,nl),(7,Ai 0 0 (Aa a) (Aa a*3) Ab),(8,Ai 1 0 (Aa b) (Aa b*3) Ab),(14,Ad (Ae zAd fs)<|Aa fs),(15,iD (Aa fs:Int)),(16,iD (k:Int))]) (λ(k:Nat)(a:List (Fa<|Option Nat))(b:List (Fa<|Option Nat))=>[fsBK<|a.flatMap zAd,fsBK<|b.flatMap zAd]) (λk a b=>fs.length-k) (λ(k:Nat)(a:List (Fa<|Option Nat))(b:List (Fa<|Option Nat))=>k<=fs.length/\a=zCg v (fs.take k)/\b=zCq v (fs.take k)) 0 [] [] ?_ ?_ ?_
 ·exact⟨by omega,rfl,rfl⟩
 ·refine vk 0
 rintro k a b ⟨h1,ha,hb⟩;rcases Aw k fs.length with h2|h2
 ·have hmf:=zAx fs Ah k h2;have hg2:=zA9 zA0 fs k h2;have hle:=zB5 zA0 fs k h2;have hne2:=zCb zA0 (by decide) fs;have hAf:=(hf _ hmf).asc;have nAf:=zBc hAf;have sA:=zJz (fs.getD k Ah).A _ rfl (by omega) hAf.2 (zAl (fs.getD k Ah).l) (zAq (fs.getD k Ah).l) (fs.getD k Ah).l.length (fs.getD k Ah).l.length;have hma:=zA3 hAf.2;have w1:=zR4 hma v;have w2:=zXs hma v;rw[zB2]at w1 w2;have w3:=zDt (msk (fs.getD k Ah).A) hv32;obtain⟨u1,u2⟩:=zWz v fs k h2;rw[<-ha]at u1;rw[<-hb]at u2;have la:a.length<=500:=by rw[ha];exact Au (Bj _ _) (by simp;omega)
  have lb:b.length<=500:=by rw[hb];exact Au (Bj _ _) (by simp;omega)
  have ca:=zJ4 a;have cb:=zJ4 b;generalize fs.getD k Ah=f at*;focus
   refine zB<|zA rfl<|v0s<|veT<|zB<|vT ((k:Int)<(Aa fs:Int))<|zJ<|zC<|zE<|zB<|zF<|zB<|zA rfl<|vr 2 (ix (k:Int) (Aa fs:Int) (Ae zAd fs≠[])/\3<=Aa (Ag (k*3)<|Ae zAd fs))<|vs 19 (Ak<|Al 3<|Ag (k*3)<|Ae zAd fs) (Ak<|zAd f) (hd:=by simp(disch:=omega) only[hg2])<|ve (Ac=Ac/\Ab=Ab/\3=3/\3<=3)<|zB<|zA rfl<|vr 1 (3<=3)<|vc (sA)<|vr 2 ((0:Int)<=(v:Int))<|vs 23 (Aq<|Ax Av<|Bu (↑(msk<|AC f):Int) ((2:Int)^min (As (v:Int)) 32)) (dig (msk (AC f)>>>v)) (hd:=by simp(disch:=omega) only[Az,w3])<|vrT 1<|vs 24 (Aq<|Ax Av<|AO Av (↑(AP (Ay 32 (↑(msk (AC f)>>>v):Int)&&&Ay 32 (1:Int))):Int)) (dig<|AP (Ay 32 (↑(msk (AC f)>>>v):Int)&&&Ay 32 (1:Int))) (hd:=by simp(disch:=omega) only[zA1])<|vrT 1<|vs 25 (bD ((↑(AP (Ay 32 (↑(msk (AC f)>>>v):Int)&&&Ay 32 (1:Int))):Int)==(1:Int))) (bD<|decide (v∈AC f)) (hd:=by simp(disch:=omega) only[w1])<|veT<|vcD (v∈AC f) (λhc=>?_)<|λhc=>?_;refine zA rfl<|vr 5 (3<=3/\((3=3/\3<=3/\True)/\0<3/\3=3/\3<=16777216/\1<=9223372036854775807)/\A0 (fsBK<|Ae zAd a)=Ab/\Aa (AI<|fsBK<|Ae zAd a)=Aa a*3/\Aa a*3=Aa a*3/\AS (fsBK<|Ae zAd a)=48/\AT (fsBK<|Ae zAd a)=3/\3=3/\0<3/\0<72/\48=48/\(Aa a+1)*72<=140737488355328/\3=3/\AU (AA<|fsBK<|Ae zAd a)=Ac/\(Ac=Ac\/AV (AA<|fsBK<|Ae zAd a)=Ab))<|vnil<|zD<|zC<|zE<|zA rfl<|vr 2 (i6 ((k:Int)+(1:Int)))<|vnil<|zC ?_;rotate_left;refine zA rfl<|vr 5 (3<=3/\((3=3/\3<=3/\True)/\0<3/\3=3/\3<=16777216/\1<=9223372036854775807)/\A0 (fsBK<|Ae zAd b)=Ab/\Aa (AI<|fsBK<|Ae zAd b)=Aa b*3/\Aa b*3=Aa b*3/\AS (fsBK<|Ae zAd b)=48/\AT (fsBK<|Ae zAd b)=3/\3=3/\0<3/\0<72/\48=48/\(Aa b+1)*72<=140737488355328/\3=3/\AU (AA<|fsBK<|Ae zAd b)=Ac/\(Ac=Ac\/AV (AA<|fsBK<|Ae zAd b)=Ab))<|vnil<|zD<|zC<|zE<|zA rfl<|vr 2 (i6 ((k:Int)+(1:Int)))<|vnil<|zC ?_;rotate_left
  ·rw[if_pos hc]at u1 u2;rw[Bl]at u2;refine⟨k+1,a++[f],b,⟨by omega,u1.symm,u2.symm⟩,by omega,?_⟩;rw[zP4,zCv];refine vk 2
  rw[if_neg hc]at u1 u2;rw[Bl]at u1;refine⟨k+1,a,b++[f],⟨by omega,u1.symm,u2.symm⟩,by omega,?_⟩;rw[zP4,zCv];refine vk 2
 rw[AK (by omega)]at ha hb;have hperm:=zC2 v fs;rw[<-ha,<-hb]at hperm;have hpr:=zHd rz hperm;have hpv:=zHd kz hperm;have hmem:=λf=>hperm.mem_iff (a:=f);have hvin:∀f∈a,v∈f.A:=λf h=>by
  rw[ha,zCg,A2]at h;simpa using h.2
 have hlen:=hperm.length_eq;rw[A1]at hlen;cases a with
 |nil=>
  exfalso;obtain⟨f,h5,h6⟩:=hv;have:f∈zCg v fs:=A2.2 ⟨h5,by simpa using h6⟩;rw[<-ha]at this;simp at this
 | cons p ws=>
  have hel:elim rcmp Sk v fs=b++[fsum rcmp Sk v (zBb rcmp Sk p ws b)]:=by
   unfold elim;rw[<-ha,<-hb]
  rw[hel];clear hel ha hb hv;have h0:((p::ws).flatMap zAd).take 3=zAd p:=rfl;have hfa:=zBs zA0 (p::ws) (ws.length+1) rfl;have hfb:=zBs zA0 b _ rfl;refine zB<|zA rfl<|v0s<|veT<|zB<|vF ((k:Int)<(Aa fs:Int))<|zT<|zM<|zM<|zR rfl<|zC<|zE<|zB<|zA rfl<|vr 5 (((0:Int)<=(0:Int)/\(0:Int)<(↑(Aa ws+1):Int))/\3<=Aa (Ag 0<|AI<|fsBK<|Ae zAd (p::ws))/\Ac=Ac/\Ab=Ab/\3=3/\3<=3)<|vnil<|zC<|vnn (fr 65 [(0,trpD),(2,iD (v:Int)),(6,nl),(7,Ai 0 0 (Aa (p::ws)) (Aa (p::ws)*3) Ab),(8,Ai 1 0 (Aa b) (Aa b*3) Ab),(11,Aj 2 0),(14,Ad (Ae zAd fs)<|Aa fs),(15,iD (Aa fs:Int)),(16,iD (k:Int)),(17,bD<|decide ((k:Int)<(Aa fs:Int))),(35,Ai 0 0 (Aa ws+1) ((Aa ws+1)*3) Ab),(36,Aj 0 0),(37,Ak [Ad (nsD<|AC p)<|Aa<|AC p,Ad (zAl<|AW p)<|Aa<|AW p,Ad (zAq<|AW p)<|Aa<|AW p])]) [fsBK<|Ae zAd (p::ws),fsBK<|Ae zAd b,Ao [Ad (nsD<|AC p)<|Aa<|AC p,Ad (zAl<|AW p)<|Aa<|AW p,Ad (zAq<|AW p)<|Aa<|AW p] 48 0 Ac Ac Am] ?_;clear h1 h2 hperm;refine zAw (((Bv (s:=7) (k:=0) (off:=0) (n:=ws.length+1) (m:=(ws.length+1)*3) (wh:=Ab) (cs:=(p::ws).flatMap zAd) (by kernel_rfl) (by exact(show An (Ad ((((p::ws).flatMap zAd).drop 0).take ((ws.length+1)*3)) (ws.length+1),[0])=_ by rw[AM,hfa]))).trans (Bv (s:=8) (k:=1) (off:=0) (n:=b.length) (m:=b.length*3) (wh:=Ab) (cs:=b.flatMap zAd) (by kernel_rfl) (by exact(show An (Ad (((b.flatMap zAd).drop 0).take (b.length*3)) b.length,[1])=_ by rw[AM,hfb])))).trans<|Weak.leS (s:=7) (d':= .row ((p::ws).flatMap zAd) (ws.length+1)) (by kernel_rfl)<|LeD.osr_row 0 0 (ws.length+1) ((ws.length+1)*3) Ab<|(p::ws).flatMap zAd) ?_;have hs1:((p::ws).flatMap zAd).drop 3=ws.flatMap zAd:=rfl;have hs2:(ws.flatMap zAd).take (ws.length*3)=ws.flatMap zAd:=zBs zA0 ws _ rfl;have hwl:ws.length<=500:=by simp only[A8]at hlen;omega
  refine zB<|zB<|zA rfl<|v0s<|vr 2 ((0:Int)<=(1:Int)/\True/\True/\0<3/\1<=Aa ws+1/\Aa ws+1<=Aa ws+1/\Aa ws+1=Aa ws+1)<|vs 39 (Ad (Al ((Aa ws+1-1)*3)<|Ag 3<|Ae zAd (p::ws)) (Aa ws+1-1)) (Ad (Ae zAd ws)<|Aa ws) (hd:=by simp(disch:=omega) only[BH,hs1,hs2])<|veT<|zF ?_;have hp1:=hf p ((hmem p).1 (by simp));have hws:∀f∈ws,f∈fs:=λf h=>(hmem f).1 (B4 _ (Bq _ h));have hbs:∀f∈b,f∈fs:=λf h=>(hmem f).1 (B5 _ h);have b1:rz p*pz rz ws<=900000:=by
   rw[zHx,zBj]at hpr;exact Au (AN _ (zCo zCh b)) (by omega)
  have b2:kz p*pz kz ws<=Bz:=by
   rw[zHx,zBj]at hpv;exact Au (AN _ (zCo zG6 b)) (by omega)
  refine zAo (λ(t:Nat)(A:List Nat)(l:List (Rw×Option Nat))=>fr 65 [(0,trpD),(2,iD (v:Int)),(6,nl),(7,Ad (Ae zAd (p::ws)) (Aa ws+1)),(8,D.osr 1 0 (Aa b) (Aa b*3) Ab<|Ae zAd b),(11,Aj 2 0),(39,Ad (Ae zAd ws)<|Aa ws),(40,iD (Aa ws:Int)),(41,iD (t:Int))]) (λ(t:Nat)(A:List Nat)(l:List (Rw×(Option Nat)))=>[⟨(p::ws).flatMap zAd,48,3,Ab,Ab,.plain⟩,⟨b.flatMap zAd,48,3,Ab,Ab,.plain⟩,fB1K (.row (nsD A) A.length) (.row (zAl l) l.length)<|.row (zAq l) l.length]) (λt A l=>ws.length-t) (λ(t:Nat)(A:List Nat)(l:List (Rw×(Option Nat)))=>t<=ws.length/\zBb rcmp Sk ⟨A,l⟩ (ws.drop t) b=zBb rcmp Sk p ws b/\FOk rcmp Dm ⟨A,l⟩/\rz (⟨A,l⟩:Fa (Option Nat))*pz rz (ws.drop t)<=900000/\kz (⟨A,l⟩:Fa (Option Nat))*pz kz (ws.drop t)<=Bz/\v∈A) 0 p.A p.l ?_ ?_ ?_
  ·exact⟨by omega,rfl,hp1,b1,b2,hvin p (by simp)⟩
  ·refine vk 3
  rintro t A l ⟨t1,t2,t3,t4,t5,t6⟩;rcases Aw t ws.length with t7|t7
  ·have hmf:=zAx ws Ah t t7;have hg2:=zA9 zA0 ws t t7;have hle:=zB5 zA0 ws t t7;have hne2:=zCb zA0 (by decide) ws;have hdr:ws.drop t=ws.getD t Ah::ws.drop (t+1):=by
    rw[BI t7,AF,AQ t7];rfl
   rw[hdr]at t2 t4 t5;rw[zBj,<-BB]at t4 t5;have q1:rz (⟨A,l⟩:Fa (Option Nat))*rz (ws.getD t Ah)<=900000:=Au (AN _ (zCo zCh _)) t4;have q2:kz (⟨A,l⟩:Fa (Option Nat))*kz (ws.getD t Ah)<=Bz:=Au (AN _ (zCo zG6 _)) t5;have gA:GofK Dm ⟨A,l⟩:=⟨t3,Au (AN _ (zCh _)) q1,Au (AN _ (zG6 _)) q2⟩;have hmul:=zKh hD ⟨A,l⟩ (ws.getD t Ah) (ws.drop (t+1)++b) gA (hg _ (hws _ hmf)) (λo ho=>by
    rcases B6.1 ho with h|h
    ·exact hg _ (hws _ (BJ h))
    exact hg _ (hbs _ h)) (by rw[A1,A5];simp only[A8]at hlen;omega) q1
   have r1:=zEt (c:=rcmp) Sk ⟨A,l⟩ (ws.getD t Ah) (ws.drop (t+1)++b);have r2:=zPy (c:=rcmp) ⟨A,l⟩ (ws.getD t Ah) (ws.drop (t+1)++b);have r3:=zEu (S:=Sk) rcw t3 (hf _ (hws _ hmf)) (ws.drop (t+1)++b);have r4:=Au (A6 (pz rz (ws.drop (t+1))) r1) t4;have r5:=Au (A6 (pz kz (ws.drop (t+1))) r2) t5;have r6:v∈(fmul rcmp Sk ⟨A,l⟩ (ws.getD t Ah) (ws.drop (t+1)++b)).A:=zD0.2 ⟨hv32, .inl t6⟩;rw[zBb]at t2;have hcc:=concat_cK ((ws.drop (t+1)).flatMap zAd) (b.flatMap zAd) (ws.drop (t+1)).length b.length (zJ4 _) (zJ4 _) (by rw[A5];simp only[A8]at hlen;omega) (by simp only[A8]at hlen;omega) (λ_ _=>trivial);rw[<-BK,<-A1]at hcc;have hsl:((p::ws).flatMap zAd).drop ((t+2)*3)=(ws.drop (t+1)).flatMap zAd:=by
    rw[zHi zA0];rfl
   have hsn:ws.length+1-(t+2)=(ws.drop (t+1)).length:=by rw[A5];omega
   have hst:=zBs zA0 (ws.drop (t+1)) _ rfl;generalize ws.getD t Ah=f at*;generalize fmul rcmp Sk ⟨A,l⟩ f (ws.drop (t+1)++b)=q at*;obtain⟨A',l'⟩:=q;have cast2:(t:Int)+2=((t+2:Nat):Int):=by omega
   refine zB<|zA rfl<|v0s<|veT<|zB<|vT ((t:Int)<(Aa ws:Int))<|zJ<|zC<|zE<|zB<|zF<|zB<|zA rfl<|vr 3 (ix (t:Int) (Aa ws:Int) (Ae zAd ws≠[])/\3<=Aa (Ag (t*3)<|Ae zAd ws))<|vs 45 (Ak<|Al 3<|Ag (t*3)<|Ae zAd ws) (Ak<|zAd f) (hd:=by simp(disch:=omega) only[hg2])<|ve (Ac=Ac/\Ab=Ab/\3=3/\3<=3)<|vd [0,3,4,5,6,7,1,2,8,9,10,11]<|vr 5 (i6 ((t:Int)+(2:Int))/\(0:Int)<=(↑(t+2):Int)/\True/\True/\0<3/\As (↑(t+2):Int)<=Aa ws+1/\Aa ws+1<=Aa ws+1/\Aa ws+1=Aa ws+1)<|vs 52 (Ad (Al ((Aa ws+1-As (↑(t+2):Int))*3)<|Ag (As (↑(t+2):Int)*3)<|Ae zAd (p::ws)) (Aa ws+1-As (↑(t+2):Int))) (Ad (Ae zAd<|Ag (t+1) ws)<|Aa<|Ag (t+1) ws) (hd:=by simp(disch:=omega) only[Az,hsl,hsn,hst])<|vr 4 (3<=3/\3<=3/\(1=1/\1<=2/\1=1/\2<=2/\True)/\0<1/\1=1/\2<=16777216/\2<=9223372036854775807)<|vc (hcc)<|vc (hmul)<|vr 1 (A7 (fB1K (Ad (nsD A)<|Aa A) (Ad (zAl l)<|Aa l)<|Ad (zAq l)<|Aa l)=Ac/\Ab=Ab/\3=3/\3<=3)<|vnil<|zD<|zC<|zE<|zA rfl<|vr 2 (i6 ((t:Int)+(1:Int)))<|vnil<|zC<|⟨t+1,A',l',⟨by omega,t2,r3,r4,r5,r6⟩,by omega,?_⟩;refine vk 3
  rw[BL t7]at t2 t4 t5;simp only[pz,B7,Bm,zBb]at t2 t4 t5;have hsum:=zW4 hD ⟨A,l⟩ ⟨t3,t4,t5⟩ v t6;rw[<-t2,zP4,zCv];have cb:=zJ4 b;generalize fsum rcmp Sk v ⟨A,l⟩=q at*;obtain⟨A',l'⟩:=q;have ht:(b.flatMap zAd++zAd ⟨A',l'⟩).take ((b.length+1)*3)=b.flatMap zAd++zAd ⟨A',l'⟩:=AK (by rw[A1,cb];show _+3<=_;omega);refine zB<|zA rfl<|v0s<|veT<|zB<|vF ((t:Int)<(Aa ws:Int))<|zT<|zM<|zM<|zR rfl<|zC<|zE<|zB<|zA rfl<|vr 4 (3<=3)<|vc (hsum)<|ve (((3=3/\3<=3/\True)/\0<3/\3=3/\3<=16777216/\1<=9223372036854775807)/\A0 (Ao (Ae zAd b) 48 3 Ab Ab Am)=Ab/\Aa (Ae zAd b)=Aa b*3/\Aa b*3=Aa b*3/\AS (Ao (Ae zAd b) 48 3 Ab Ab Am)=48/\AT (Ao (Ae zAd b) 48 3 Ab Ab Am)=3/\3=3/\0<3/\0<72/\48=48/\(Aa b+1)*72<=140737488355328/\3=3/\AU (AA<|Ao (Ae zAd b) 48 3 Ab Ab Am)=Ac/\(Ac=Ac\/AV (AA<|Ao (Ae zAd b) 48 3 Ab Ab Am)=Ab))<|zK<|zBr (True) (Ad (Al ((Aa b+1)*3)<|Ag 0 (Ae zAd b++[Ad (nsD A')<|Aa A',Ad (zAl l')<|Aa l',Ad (zAq l')<|Aa l'])) (Aa b+1)) (Ad (Ae zAd b++zAd (Fa.mk A' l')) (Aa b+1)) (.inr rfl) (by simp(disch:=omega) only[AM,ht]) rfl
end
end
theorem an_bit{a b:Nat}(ha:a<4294967296)(hb:b<4294967296)(i:Nat):((Ay 32 (a:Int)&&&~~~Ay 32 (b:Int)).toNat).testBit i=(a.testBit i&&!b.testBit i):=by
 have e:∀{c:Nat},c<4294967296->(Ay 32 (c:Int)).getLsbD i=c.testBit i:=λ{c} hc=>by
  rw[<-BitVec.testBit_toNat,bv_nat hc]
 rw[BitVec.testBit_toNat,BitVec.getLsbD_and,BitVec.getLsbD_not,e ha,e hb];by_cases h:i<32
 ·simp[h]
 have:=Nat.testBit_lt_two_pow (Nat.lt_of_lt_of_le (show a<2^32 from ha) (Ba (by omega) (Nat.le_of_not_lt h)))
 rw[this];simp
theorem an_eq{a b d:Nat}(ha:a<4294967296)(hb:b<4294967296)(h:∀i,d.testBit i=(a.testBit i&&!b.testBit i)):(Ay 32 (a:Int)&&&~~~Ay 32 (b:Int)).toNat=d:=
 Nat.eq_of_testBit_eq λi=>by rw[an_bit ha hb,h]
theorem zT7{n keep:Nat}(hn:n<=32)(hk:keep<4294967296):(Ay 32 ((2^n-1:Nat):Int)&&&~~~Ay 32 (keep:Int)).toNat=msk ((AB n).filter λv=>!keep.testBit v):=by
 have h2:2^n<=4294967296:=Ba (n:=2) (by omega) hn;refine an_eq (by omega) hk λi=>?_;rw[zB2,B8,BC];simp
theorem zT6{E:List Nat}(hE:Asc E){v:Nat}(hv:v<32):(Ay 32 ((msk E:Nat):Int)&&&~~~Ay 32 ((2^v:Nat):Int)).toNat=msk (less E v):=by
 refine an_eq (zA3 hE.2) (zK0 hv) λi=>?_;rw[zB2,zB2,Nat.testBit_two_pow,BC];simp only[Bn,BD,decide_eq_true_eq,decide_eq_false_iff_not,zB4];exact⟨λh=>⟨h.1,λe=>h.2 e.symm⟩,λh=>⟨h.1,λe=>h.2 e.symm⟩⟩
theorem zY8{E:List Nat}(h:E≠[]):msk E≠0:=λe=>by
 cases E with
 |nil=>exact h rfl
 |cons v E=>
  have:=zB2 (v::E) v
  rw[e,Nat.zero_testBit]at this;simp at this
theorem zP6{α:Type}{c:Rw->Rw->Int}{S:Sr α}(v:Nat)(fs:List (Fa α)):(elim c S v fs).length<=fs.length:=by
 have hp:=(zC2 v fs).length_eq;unfold elim;split
 ·exact BE _
 rename_i p ws e;rw[e,A1,A8]at hp;rw[A1,A8,B9];omega
section
attribute [local irreducible] seqW awp zAe zAh zAb Weak updS zAs retL Pure Acts rP setP setQ cP nP fr
set_option maxRecDepth 4096
section
variable {Dm : List Va}
set_option maxHeartbeats 8000000 in
theorem zNi(hD:Okv Dm)(hDn:Dm.Nodup)(n keep:Nat)(fs:List (Fa Nat))(hn:n<=8)(hk:keep<4294967296)(hf:∀f∈fs,FOk rcmp Dm f)(hl:fs.length<=500)(hr:2*pz rz fs<=900000)(hz:2*pz vz fs<=4000000000000000000)
  (hcv:∀v,v<n->∃f∈fs,v∈f.A)(hck:Pure Ar 45 [iD (n:Nat),u32D keep, .row (fs.flatMap faAc) fs.length] [] (iD 0)):
  Pure Ar 26 [cntD,iD (n:Nat),u32D keep, .row (fs.flatMap faAc) fs.length] [] (.tup [faA (zDx popN rcmp Sn fs ((AB n).filter λv=>!keep.testBit v)),iD 0]):=by
 have hcl:=cloneF_c (fs.flatMap faAc) fs.length (zNs fs) (by omega);have w2:=zDu (v:=n) (by omega);have h2n:2^n<=256:=Ba (n:=2) (by omega) hn;have h1n:=BM (n:=n);have w3:((2^n:Nat):Int)-1=((2^n-1:Nat):Int):=by omega
 have w4:=zA4 (n:=2^n-1) (by omega);have w5:=zT7 (n:=n) (by omega) hk;have hEa:Asc ((AB n).filter λv=>!keep.testBit v):=⟨(B_ (n:=n)).filter _,λv hv=>by have:=(A2.1 hv).1;simp at this;omega⟩;have hEc:∀v∈(AB n).filter (λv=>!keep.testBit v),∃f∈fs,v∈f.A:=λv hv=>hcv v (by have:=(A2.1 hv).1;simpa using this);generalize (AB n).filter (λv=>!keep.testBit v)=E at*;have w6:=zA4 (zA3 hEa.2);refine zH (T:=Tc) (zGl _ _ _) mixed Tryz.func26 rfl<|vAu<|zB<|vA<|vrT 3<|vc (hck)<|veT<|vAe<|vf<|vK<|vA<|vrT 1<|vc (hcl)<|veT<|zB<|vA<|vr 2 ((0:Int)<=(n:Int))<|vs 28 (Aq<|Ax Av<|AO Av ((1:Int)*(2:Int)^min (As (n:Int)) 32)) (dig ((2:Nat)^n)) (hd:=by simp(disch:=omega) only[Az,w2])<|vr 1 (u3 ((↑((2:Nat)^n):Int)-(1:Int)))<|vs 29 (Aq<|Ax Av ((↑((2:Nat)^n):Int)-(1:Int))) (dig ((2:Nat)^n-1)) (hd:=by simp(disch:=omega) only[w3])<|vrT 2<|vs 31 (Aq<|Ax Av<|AO Av (↑(AP (Ay 32 (↑((2:Nat)^n-1):Int)&&&~~~Ay 32 (keep:Int))):Int)) (dig<|msk E) (hd:=by simp(disch:=omega) only[w6,w5])<|veT<|zF<|zAo (λ(i:Nat)(L:List (Fa Nat))(F:List Nat)=>fr 68 [(0,cntD),(8,Aj 0 0),(9,iD 0),(11,Ad (Ae faAc L)<|Aa L),(12,u32D<|msk F)]) (λ(i:Nat)(L:List (Fa Nat))(F:List Nat)=>[fB1 nl nl nl]) (λi L F=>i) (λ(i:Nat)(L:List (Fa Nat))(F:List Nat)=>i=F.length/\Asc F/\(∀v∈F,∃f∈L,v∈f.A)/\(∀f∈L,FOk rcmp Dm f)/\L.length<=500/\2*pz rz L<=900000/\2*pz vz L<=4000000000000000000/\zCr popN rcmp Sn F.length L F=zCr popN rcmp Sn E.length fs E) E.length fs E ?_ ?_ ?_
 ·exact⟨rfl,hEa,hEc,hf,hl,hr,hz,rfl⟩
 ·refine vk 1
 rintro i L F ⟨rfl,f1,f2,f3,f4,f5,f6,f7⟩;by_cases hF:F=[]
 ·subst hF;have hL:zCr popN rcmp Sn E.length fs E=L:=f7.symm;have hres:zDx popN rcmp Sn fs E=zBb rcmp Sn (zB6 Sn) L []:=by unfold zDx;rw[hL]
  rw[hres];have m0:msk []=0:=rfl;rw[m0];obtain⟨o,ho⟩:∃o:Nat,o=1:=⟨1,rfl⟩;refine zB<|vAu<|vf<|vZ2<|vA<|vr 3 ((True/\0<3/\3=3/\0<=16777216/\0<=9223372036854775807)/\(1=1/\1<=1/\True)/\0<1/\1=1/\1<=16777216/\1<=9223372036854775807)<|vc (cone_c o ho)<|vr 4 (((1=1/\1<=1/\True)/\0<1/\1=1/\1<=16777216/\1<=9223372036854775807)/\((1=1/\2<=3/\1=1/\3<=3/\True)/\Ab=Ab)/\Ac=Ac/\Ab=Ab/\3=3/\3<=3)<|vnil<|zC<|vnn (fr 68 [(0,cntD),(8,Aj 0 0),(9,iD 0),(11,Ad (Ae faAc L)<|Aa L),(12,u32D 0),(14,Aj 4 0),(33,bD Ac),(45,Ai 1 0 0 0 Ab),(46,Ai 2 0 1 1 Ab),(47,AG 29<|Ak []),(48,natD o),(49,Ai 3 0 1 1 Ab),(50,Ak [nl,Ai 2 0 1 1 Ab,Ai 3 0 1 1 Ab])]) [fB1 nl nl nl,Ao [] 107 3 Ab Ab Am,Ao [Ad [] 0] 110 1 Ab Ac Am,Ao [natD o] 50 1 Ab Ac Am,Ao [nl,Ai 2 0 1 1 Ab,Ai 3 0 1 1 Ab] 90 0 Ac Ac Am] ?_;clear hck hcl hcv hEa hEc w5 w6 f1 f2 f7 hL hres;refine zAw ((Bw (j:=4) (i:=1) (d:= .osl 2 0 1 1 Ab) (x:= .row [.row [] 0] 1) (ks:=[2]) rfl rfl rfl rfl (by exact rfl) (by decide)).trans<|(Bw (j:=4) (i:=2) (d:= .osl 3 0 1 1 Ab) (x:= .row [natD o] 1) (ks:=[3]) rfl rfl rfl rfl (by exact rfl) (by decide)).trans<|Weak.leC (j:=4) (i:=0) (d':= .row [] 0) rfl rfl rfl LeD.nil_row) ?_;refine zB<|vAu<|zF ?_;have hu:(zB6 Sn:Fa Nat)=⟨[],[([],o)]⟩:=by rw[ho];rfl
  have hU:FOk rcmp Dm (⟨[],[([],o)]⟩:Fa Nat):=hu▸zF2;have u1:rz (⟨[],[([],o)]⟩:Fa Nat)=2:=rfl;have u2:vz (⟨[],[([],o)]⟩:Fa Nat)=2:=by rw[ho];rfl
  rw[hu];refine zAo (λ(t:Nat)(A:List Nat)(l:List (Rw×Nat))=>fr 68 [(0,cntD),(8,Aj 0 0),(9,iD 0),(11,Ad (Ae faAc L)<|Aa L),(14,Aj 4 0),(51,Ad (Ae faAc L)<|Aa L),(52,iD<|Aa L),(53,iD t)]) (λ(t:Nat)(A:List Nat)(l:List (Rw×Nat))=>[fB1 nl nl nl,⟨[],107,3,Ab,Ab,.plain⟩,⟨[.row [] 0],110,1,Ab,Ab,.plain⟩,⟨[natD o],50,1,Ab,Ab,.plain⟩,fB1 (.row (nsD A) A.length) (.row (rwsD l) l.length)<|.row (vlsD l) l.length]) (λt A l=>L.length-t) (λ(t:Nat)(A:List Nat)(l:List (Rw×Nat))=>t<=L.length/\zBb rcmp Sn ⟨A,l⟩ (L.drop t) []=zBb rcmp Sn ⟨[],[([],o)]⟩ L []/\FOk rcmp Dm ⟨A,l⟩/\rz (⟨A,l⟩:Fa Nat)*pz rz (L.drop t)<=900000/\vz (⟨A,l⟩:Fa Nat)*pz vz (L.drop t)<=4000000000000000000) 0 [] [([],o)] ?_ ?_ ?_
  ·exact⟨by omega,rfl,hU,by rw[u1];exact f5,by rw[u2];exact f6⟩
  ·refine vk 5
  rintro t A l ⟨t1,t2,t3,t4,t5⟩;rcases Aw t L.length with t7|t7
  ·have hmf:=zAx L Ah t t7;have hg2:=zA9 zA7 L t t7;have hle:=zB5 zA7 L t t7;have hne2:=zCb zA7 (by decide) L;have hdr:L.drop t=L.getD t Ah::L.drop (t+1):=by
    rw[BI t7,AF,AQ t7];rfl
   rw[hdr]at t2 t4 t5;rw[zBj,<-BB]at t4 t5;have q1:rz (⟨A,l⟩:Fa Nat)*rz (L.getD t Ah)<=900000:=Au (AN _ (zCo zCh _)) t4;have q2:vz (⟨A,l⟩:Fa Nat)*vz (L.getD t Ah)<=4000000000000000000:=Au (AN _ (zCo zG3 _)) t5;have gA:Gof Dm ⟨A,l⟩:=⟨t3,Au (AN _ (zCh _)) q1,Au (AN _ (zG3 _)) q2⟩;have hg:∀f∈L,Gof Dm f:=λf h=>⟨f3 f h,Au (zFx zCh h) (by omega),Au (zFx zG3 h) (by omega)⟩;have hmul:=zL2 hD ⟨A,l⟩ (L.getD t Ah) (L.drop (t+1)) gA (hg _ hmf) (λo ho=>hg _ (BJ ho)) (by rw[A5];omega) q1;have r1:=zEt (c:=rcmp) Sn ⟨A,l⟩ (L.getD t Ah) (L.drop (t+1));have r2:=zMb (c:=rcmp) ⟨A,l⟩ (L.getD t Ah) (L.drop (t+1));have r3:=zEu (S:=Sn) rcw t3 (f3 _ hmf) (L.drop (t+1));have r4:=Au (A6 (pz rz (L.drop (t+1))) r1) t4;have r5:=Au (A6 (pz vz (L.drop (t+1))) r2) t5;rw[zBb,Bl]at t2;have hsl:(L.flatMap faAc).drop ((t+1)*3)=(L.drop (t+1)).flatMap faAc:=zHi zA7 L (t+1);have hsn:L.length-(t+1)=(L.drop (t+1)).length:=by rw[A5]
   have hst:=zBs zA7 (L.drop (t+1)) _ rfl;generalize L.getD t Ah=f at*;generalize fmul rcmp Sn ⟨A,l⟩ f (L.drop (t+1))=q at*;obtain⟨A',l'⟩:=q;refine vAu<|zB<|vT ((t:Int)<↑(Aa L))<|vKB<|vA<|vr 3 (ix ↑t ↑(Aa L) (Ae faAc L≠[])/\3<=Aa (Ag (t*3)<|Ae faAc L))<|vs 57 (Ak<|Al 3<|Ag (t*3)<|Ae faAc L) (Ak<|faAc f) (hd:=by simp(disch:=omega) only[hg2])<|ve (Ac=Ac/\Ab=Ab/\3=3/\3<=3)<|vd [0,3,4,5,6,1,2,7,8]<|vr 5 (i6 (↑t+1)/\(0:Int)<=(↑(t+1):Int)/\True/\True/\0<3/\As (↑(t+1):Int)<=Aa L/\Aa L<=Aa L/\Aa L=Aa L)<|vs 64 (Ad (Al ((Aa L-As (↑(t+1):Int))*3)<|Ag (As (↑(t+1):Int)*3)<|Ae faAc L) (Aa L-As (↑(t+1):Int))) (Ad (Ae faAc<|Ag (t+1) L)<|Aa<|Ag (t+1) L) (hd:=by simp(disch:=omega) only[Az,hsn,hsl,hst])<|vr 2 (3<=3/\3<=3)<|vc hmul<|vr 1 (A7 (fB1 (Ad (nsD A)<|Aa A) (Ad (rwsD l)<|Aa l)<|Ad (vlsD l)<|Aa l)=Ac/\Ab=Ab/\3=3/\3<=3)<|vnil<|zD<|vN<|zA rfl<|vr 2 (i6 (↑t+1))<|vnil<|zC<|⟨t+1,A',l',⟨by omega,t2,r3,r4,r5⟩,by omega,?_⟩;refine vk 5
  rw[BL t7]at t2;simp only[zBb]at t2;rw[<-t2];refine vAu<|zB<|vF ((t:Int)<↑(Aa L))<|vZ2<|vA<|ve (3<=3/\Ac=Ac/\Ab=Ab/\3=3/\3<=3)<|zK<|vret (3<=3)<|.inr rfl
 have hm:=zEk popN L hF;have hch:=zXp L F f1 hF (λf h=>(f3 f h).asc) (by omega);have hv32:=f1.2 _ hm.1;have hel:=zTo hD L (zAj popN L F) f3 f4 (by omega) (by omega) (f2 _ hm.1) hv32;have hmn:=zY8 hF;have x1:=zDu hv32;have x2:=zT6 f1 hv32;have x3:=zA4 (zA3 (zFo f1 (zAj popN L F)).2);have hz1:=zNu (c:=rcmp) (S:=Sn) (z:=rz) (zEt Sn) (zPw Sn) (zAj popN L F) L;have hz2:=zNu (c:=rcmp) (S:=Sn) (z:=vz) zMb (λv f=>Nat.le_of_eq (zTa v f)) (zAj popN L F) L;have hlen:=zP6 (c:=rcmp) (S:=Sn) (zAj popN L F) L;have hA:=zWi (c:=rcmp) (S:=Sn) (fs:=L) (λf h=>(f3 f h).asc.2) (zAj popN L F);have hok:=zP5 (S:=Sn) rcw f3 (zAj popN L F);have hll:=zK2 f1.nd hm.1;have hla:=zFo f1 (zAj popN L F);have hmg:zCr popN rcmp Sn F.length L F=zCr popN rcmp Sn (less F (zAj popN L F)).length (elim rcmp Sn (zAj popN L F) L) (less F (zAj popN L F)):=by
  rw[<-hll];rfl
 have hcm:=hm.1;generalize zAj popN L F=v at*;generalize elim rcmp Sn v L=L' at*;refine zB<|vAu<|zD2 (t:=(↑(msk F):Int)!=(0:Int)) (by kernel_rfl) (by simpa using by omega)<|vK<|zF<|vA<|vrT 2<|vc hch<|veT<|vA<|vrT 3<|vc hel<|veT<|zA rfl<|vr 3 ((0:Int)<=(v:Int))<|vs 43 (Aq<|Ax Av<|AO Av ((1:Int)*(2:Int)^min (As (v:Int)) 32)) (dig ((2:Nat)^v)) (hd:=by simp(disch:=omega) only[Az,x1])<|vrT 1<|vs 44 (Aq<|Ax Av<|AO Av (↑(AP (Ay 32 (↑(msk F):Int)&&&~~~Ay 32 (↑((2:Nat)^v):Int))):Int)) (dig<|msk<|less F v) (hd:=by simp(disch:=omega) only[x3,x2])<|vrT 1<|vnil<|zD<|zC<|⟨(less F v).length,L',less F v,⟨rfl,hla,λw hw=>(hA w).2 ⟨f2 w (zB4.1 hw).1,(zB4.1 hw).2⟩,hok,by omega,by omega,by omega,by rw[<-hmg];exact f7⟩,by omega,?_⟩;refine vk 1
end
section
variable {Dm : List Va}
set_option maxHeartbeats 8000000 in
theorem zS4(hD:Okv Dm)(hDn:Dm.Nodup)(n keep:Nat)(fs:List (Fa (Option Nat)))(hn:n<=8)(hk:keep<4294967296)(hf:∀f∈fs,FOk rcmp Dm f)(hl:fs.length<=500)(hr:2*pz rz fs<=900000)(hz:2*pz kz fs<=Bz)
  (hcv:∀v,v<n->∃f∈fs,v∈f.A)(hck:Pure Ar 58 [iD (n:Nat),u32D keep, .row (fs.flatMap zAd) fs.length] [] (iD 0)):
  Pure Ar 33 [trpD,iD (n:Nat),u32D keep, .row (fs.flatMap zAd) fs.length] [] (.tup [faAK (zDx popN rcmp Sk fs ((AB n).filter λv=>!keep.testBit v)),iD 0]):=by
 have hcl:=cloneF_cK (fs.flatMap zAd) fs.length (zJ4 fs) (by omega);have w2:=zDu (v:=n) (by omega);have h2n:2^n<=256:=Ba (n:=2) (by omega) hn;have h1n:=BM (n:=n);have w3:((2^n:Nat):Int)-1=((2^n-1:Nat):Int):=by omega
 have w4:=zA4 (n:=2^n-1) (by omega);have w5:=zT7 (n:=n) (by omega) hk;have hEa:Asc ((AB n).filter λv=>!keep.testBit v):=⟨(B_ (n:=n)).filter _,λv hv=>by have:=(A2.1 hv).1;simp at this;omega⟩;have hEc:∀v∈(AB n).filter (λv=>!keep.testBit v),∃f∈fs,v∈f.A:=λv hv=>hcv v (by have:=(A2.1 hv).1;simpa using this);generalize (AB n).filter (λv=>!keep.testBit v)=E at*;have w6:=zA4 (zA3 hEa.2);refine zH (T:=Tc) (zGl _ _ _) mixed Tryz.func33 rfl<|zB<|zA rfl<|v0s<|veT<|zB<|zB<|zA rfl<|vrT 3<|vc (hck)<|veT<|zB<|zA rfl<|veT<|vf<|zJ<|zC<|zE<|zB<|zA rfl<|vrT 1<|vc (hcl)<|veT<|zB<|zB<|zA rfl<|vr 2 ((0:Int)<=(n:Int))<|vs 28 (Aq<|Ax Av<|AO Av ((1:Int)*(2:Int)^min (As (n:Int)) 32)) (dig ((2:Nat)^n)) (hd:=by simp(disch:=omega) only[Az,w2])<|vr 1 (u3 ((↑((2:Nat)^n):Int)-(1:Int)))<|vs 29 (Aq<|Ax Av ((↑((2:Nat)^n):Int)-(1:Int))) (dig ((2:Nat)^n-1)) (hd:=by simp(disch:=omega) only[w3])<|vrT 2<|vs 31 (Aq<|Ax Av<|AO Av (↑(AP (Ay 32 (↑((2:Nat)^n-1):Int)&&&~~~Ay 32 (keep:Int))):Int)) (dig<|msk E) (hd:=by simp(disch:=omega) only[w5,w6])<|veT<|zF<|zAo (λ(i:Nat)(L:List (Fa<|Option Nat))(F:List Nat)=>fr 68 [(0,trpD),(8,Aj 0 0),(9,iD 0),(11,Ad (Ae zAd L)<|Aa L),(12,u32D<|msk F)]) (λ(i:Nat)(L:List (Fa<|Option Nat))(F:List Nat)=>[fB1K nl nl nl]) (λi L F=>i) (λ(i:Nat)(L:List (Fa<|Option Nat))(F:List Nat)=>i=F.length/\Asc F/\(∀v∈F,∃f∈L,v∈f.A)/\(∀f∈L,FOk rcmp Dm f)/\L.length<=500/\2*pz rz L<=900000/\2*pz kz L<=Bz/\zCr popN rcmp Sk F.length L F=zCr popN rcmp Sk E.length fs E) E.length fs E ?_ ?_ ?_
 ·exact⟨rfl,hEa,hEc,hf,hl,hr,hz,rfl⟩
 ·refine vk 1
 rintro i L F ⟨rfl,f1,f2,f3,f4,f5,f6,f7⟩;by_cases hF:F=[]
 ·subst hF;have hL:zCr popN rcmp Sk E.length fs E=L:=f7.symm;have hres:zDx popN rcmp Sk fs E=zBb rcmp Sk (zB6 Sk) L []:=by unfold zDx;rw[hL]
  rw[hres];have m0:msk []=0:=rfl;rw[m0];obtain⟨o,ho⟩:∃o:(Option Nat),o=(An 0):=⟨_,rfl⟩;have hone:=tone_c;rw[<-ho]at hone;have hol:=zAv o;refine zB<|zB<|zA rfl<|v0s<|veT<|vf<|zT<|zM<|zM<|zR rfl<|zC<|zE<|zB<|zA rfl<|vr 3 ((True/\0<3/\3=3/\0<=16777216/\0<=9223372036854775807)/\(1=1/\1<=1/\True)/\0<1/\1=1/\1<=16777216/\1<=9223372036854775807)<|vc (hone)<|vr 4 (((2=2/\2<=2/\True)/\0<2/\2=2/\2<=16777216/\1<=9223372036854775807)/\((1=1/\2<=3/\1=1/\3<=3/\True)/\Ab=Ab)/\Ac=Ac/\Ab=Ab/\3=3/\3<=3)<|vnil<|zC<|vnn (fr 68 [(0,trpD),(8,Aj 0 0),(9,iD 0),(11,Ad (Ae zAd L)<|Aa L),(12,u32D 0),(14,Aj 4 0),(33,bD Ac),(45,Ai 1 0 0 0 Ab),(46,Ai 2 0 1 1 Ab),(47,AG 30<|Ak []),(48,Ak [bD<|A9 o,natD<|A_ o 0]),(49,Ai 3 0 1 2 Ab),(50,Ak [nl,Ai 2 0 1 1 Ab,Ai 3 0 1 2 Ab])]) [fB1K nl nl nl,Ao [] 107 3 Ab Ab Am,Ao [Ad [] 0] 110 1 Ab Ac Am,Ao [bD<|A9 o,natD<|A_ o 0] 54 2 Ab Ac Am,Ao [nl,Ai 2 0 1 1 Ab,Ai 3 0 1 2 Ab] 48 0 Ac Ac Am] ?_;clear hck hcl hcv hEa hEc w5 w6 f1 f2 f7 hL hres;refine zAw ((Bw (j:=4) (i:=1) (d:= .osl 2 0 1 1 Ab) (x:= .row [.row [] 0] 1) (ks:=[2]) rfl rfl rfl rfl (by exact rfl) (by decide)).trans<|(Bw (j:=4) (i:=2) (d:= .osl 3 0 1 2 Ab) (x:= .row (ckD o) 1) (ks:=[3]) rfl rfl rfl rfl (by exact rfl) (by decide)).trans<|Weak.leC (j:=4) (i:=0) (d':= .row [] 0) rfl rfl rfl LeD.nil_row) ?_;refine zB<|zB<|zA rfl<|v0s<|veT<|zF ?_;have hu:(zB6 Sk:Fa (Option Nat))=⟨[],[([],o)]⟩:=by rw[ho];rfl
  have hU:FOk rcmp Dm (⟨[],[([],o)]⟩:Fa (Option Nat)):=hu▸zF2;have u1:rz (⟨[],[([],o)]⟩:Fa (Option Nat))=2:=rfl;have u2:kz (⟨[],[([],o)]⟩:Fa (Option Nat))<=2:=by rw[ho];decide
  rw[hu];refine zAo (λ(t:Nat)(A:List Nat)(l:List (Rw×Option Nat))=>fr 68 [(0,trpD),(8,Aj 0 0),(9,iD 0),(11,Ad (Ae zAd L)<|Aa L),(14,Aj 4 0),(51,Ad (Ae zAd L)<|Aa L),(52,iD (Aa L:Int)),(53,iD (t:Int))]) (λ(t:Nat)(A:List Nat)(l:List (Rw×(Option Nat)))=>[fB1K nl nl nl,⟨[],107,3,Ab,Ab,.plain⟩,⟨[.row [] 0],110,1,Ab,Ab,.plain⟩,⟨(ckD o),54,2,Ab,Ab,.plain⟩,fB1K (.row (nsD A) A.length) (.row (zAl l) l.length)<|.row (zAq l) l.length]) (λt A l=>L.length-t) (λ(t:Nat)(A:List Nat)(l:List (Rw×(Option Nat)))=>t<=L.length/\zBb rcmp Sk ⟨A,l⟩ (L.drop t) []=zBb rcmp Sk ⟨[],[([],o)]⟩ L []/\FOk rcmp Dm ⟨A,l⟩/\rz (⟨A,l⟩:Fa (Option Nat))*pz rz (L.drop t)<=900000/\kz (⟨A,l⟩:Fa (Option Nat))*pz kz (L.drop t)<=Bz) 0 [] [([],o)] ?_ ?_ ?_
  ·exact⟨by omega,rfl,hU,by rw[u1];exact f5,Au (A6 _ u2) f6⟩
  ·refine vk 5
  rintro t A l ⟨t1,t2,t3,t4,t5⟩;rcases Aw t L.length with t7|t7
  ·have hmf:=zAx L Ah t t7;have hg2:=zA9 zA0 L t t7;have hle:=zB5 zA0 L t t7;have hne2:=zCb zA0 (by decide) L;have hdr:L.drop t=L.getD t Ah::L.drop (t+1):=by
    rw[BI t7,AF,AQ t7];rfl
   rw[hdr]at t2 t4 t5;rw[zBj,<-BB]at t4 t5;have q1:rz (⟨A,l⟩:Fa (Option Nat))*rz (L.getD t Ah)<=900000:=Au (AN _ (zCo zCh _)) t4;have q2:kz (⟨A,l⟩:Fa (Option Nat))*kz (L.getD t Ah)<=Bz:=Au (AN _ (zCo zG6 _)) t5;have gA:GofK Dm ⟨A,l⟩:=⟨t3,Au (AN _ (zCh _)) q1,Au (AN _ (zG6 _)) q2⟩;have hg:∀f∈L,GofK Dm f:=λf h=>⟨f3 f h,Au (zFx zCh h) (by omega),Au (zFx zG6 h) (by omega)⟩;have hmul:=zKh hD ⟨A,l⟩ (L.getD t Ah) (L.drop (t+1)) gA (hg _ hmf) (λo ho=>hg _ (BJ ho)) (by rw[A5];omega) q1;have r1:=zEt (c:=rcmp) Sk ⟨A,l⟩ (L.getD t Ah) (L.drop (t+1));have r2:=zPy (c:=rcmp) ⟨A,l⟩ (L.getD t Ah) (L.drop (t+1));have r3:=zEu (S:=Sk) rcw t3 (f3 _ hmf) (L.drop (t+1));have r4:=Au (A6 (pz rz (L.drop (t+1))) r1) t4;have r5:=Au (A6 (pz kz (L.drop (t+1))) r2) t5;rw[zBb,Bl]at t2;have hsl:(L.flatMap zAd).drop ((t+1)*3)=(L.drop (t+1)).flatMap zAd:=zHi zA0 L (t+1);have hsn:L.length-(t+1)=(L.drop (t+1)).length:=by rw[A5]
   have hst:=zBs zA0 (L.drop (t+1)) _ rfl;generalize L.getD t Ah=f at*;generalize fmul rcmp Sk ⟨A,l⟩ f (L.drop (t+1))=q at*;obtain⟨A',l'⟩:=q;refine zB<|zA rfl<|v0s<|veT<|zB<|vT ((t:Int)<(Aa L:Int))<|zJ<|zC<|zE<|zB<|zF<|zB<|zA rfl<|vr 3 (ix (t:Int) (Aa L:Int) (Ae zAd L≠[])/\3<=Aa (Ag (t*3)<|Ae zAd L))<|vs 57 (Ak<|Al 3<|Ag (t*3)<|Ae zAd L) (Ak<|zAd f) (hd:=by simp(disch:=omega) only[hg2])<|ve (Ac=Ac/\Ab=Ab/\3=3/\3<=3)<|vd [0,3,4,5,6,1,2,7,8]<|vr 5 (i6 ((t:Int)+(1:Int))/\(0:Int)<=(↑(t+1):Int)/\True/\True/\0<3/\As (↑(t+1):Int)<=Aa L/\Aa L<=Aa L/\Aa L=Aa L)<|vs 64 (Ad (Al ((Aa L-As (↑(t+1):Int))*3)<|Ag (As (↑(t+1):Int)*3)<|Ae zAd L) (Aa L-As (↑(t+1):Int))) (Ad (Ae zAd<|Ag (t+1) L)<|Aa<|Ag (t+1) L) (hd:=by simp(disch:=omega) only[Az,hst,hsl,hsn])<|vr 2 (3<=3/\3<=3)<|vc (hmul)<|vr 1 (A7 (fB1K (Ad (nsD A)<|Aa A) (Ad (zAl l)<|Aa l)<|Ad (zAq l)<|Aa l)=Ac/\Ab=Ab/\3=3/\3<=3)<|vnil<|zD<|zC<|zE<|zA rfl<|vr 2 (i6 ((t:Int)+(1:Int)))<|vnil<|zC<|⟨t+1,A',l',⟨by omega,t2,r3,r4,r5⟩,by omega,?_⟩;refine vk 5
  rw[BL t7]at t2;simp only[zBb]at t2;rw[<-t2];refine zB<|zA rfl<|v0s<|veT<|zB<|vF ((t:Int)<(Aa L:Int))<|zT<|zM<|zM<|zR rfl<|zC<|zE<|zB<|zA rfl<|ve (3<=3/\Ac=Ac/\Ab=Ab/\3=3/\3<=3)<|zK<|vret (3<=3)<|.inr rfl
 have hm:=zEk popN L hF;have hch:=zT1 L F f1 hF (λf h=>(f3 f h).asc) (by omega);have hv32:=f1.2 _ hm.1;have hel:=zRw hD L (zAj popN L F) f3 f4 (by omega) (by omega) (f2 _ hm.1) hv32;have hmn:=zY8 hF;have x1:=zDu hv32;have x2:=zT6 f1 hv32;have x3:=zA4 (zA3 (zFo f1 (zAj popN L F)).2);have hz1:=zNu (c:=rcmp) (S:=Sk) (z:=rz) (zEt Sk) (zPw Sk) (zAj popN L F) L;have hz2:=zNu (c:=rcmp) (S:=Sk) (z:=kz) zPy zZ3 (zAj popN L F) L;have hlen:=zP6 (c:=rcmp) (S:=Sk) (zAj popN L F) L;have hA:=zWi (c:=rcmp) (S:=Sk) (fs:=L) (λf h=>(f3 f h).asc.2) (zAj popN L F);have hok:=zP5 (S:=Sk) rcw f3 (zAj popN L F);have hll:=zK2 f1.nd hm.1;have hla:=zFo f1 (zAj popN L F);have hmg:zCr popN rcmp Sk F.length L F=zCr popN rcmp Sk (less F (zAj popN L F)).length (elim rcmp Sk (zAj popN L F) L) (less F (zAj popN L F)):=by
  rw[<-hll];rfl
 have hcm:=hm.1;generalize zAj popN L F=v at*;generalize elim rcmp Sk v L=L' at*;refine zB<|zB<|zA rfl<|v0s<|veT<|zD2 (t:=(↑(msk F):Int)!=(0:Int)) (by kernel_rfl) (by simpa using by omega)<|zJ<|zC<|zE<|zF<|zB<|zA rfl<|vrT 2<|vc (hch)<|veT<|zB<|zA rfl<|vrT 3<|vc (hel)<|veT<|zA rfl<|vr 3 ((0:Int)<=(v:Int))<|vs 43 (Aq<|Ax Av<|AO Av ((1:Int)*(2:Int)^min (As (v:Int)) 32)) (dig ((2:Nat)^v)) (hd:=by simp(disch:=omega) only[Az,x1])<|vrT 1<|vs 44 (Aq<|Ax Av<|AO Av (↑(AP (Ay 32 (↑(msk F):Int)&&&~~~Ay 32 (↑((2:Nat)^v):Int))):Int)) (dig<|msk<|less F v) (hd:=by simp(disch:=omega) only[x2,x3])<|vrT 1<|vnil<|zD<|zC<|⟨(less F v).length,L',less F v,⟨rfl,hla,λw hw=>(hA w).2 ⟨f2 w (zB4.1 hw).1,(zB4.1 hw).2⟩,hok,by omega,by omega,by omega,by rw[<-hmg];exact f7⟩,by omega,?_⟩;refine vk 1
end
end
section
attribute [local irreducible] seqW awp zAe zAh zAb Weak updS zAs retL Pure Acts rP setP setQ cP nP fr
set_option maxRecDepth 4096
set_option maxRecDepth 4096
abbrev fcRK(V:List Int)(R:List Rw)(W:List D)(m:Nat):D:= .agg [.row (V.map λz=>iD z) V.length, .row (R.map rowV) R.length, .row W m]
set_option maxHeartbeats 4000000 in
theorem check_cK (n : Int) (V : List Int)(R:List Rw)(W:List D)(m:Nat)(hV:V.length<=1000000)(hR:R.length<=1000000):
    Pure Ar 105 [iD n,fcRK V R W m] [] (iD (chk n V R m)):=by
  refine zH zQg mixed Tryz.func105 rfl<|zB<|zA rfl<|v0s<|veT<|zB<|zB<|zA rfl<|ve (True/\0<3)<|zF<|zQ (λ(i:Nat)=>fr 94 [(0,iD n),(3,Aj 0 0),(13,Ad (Af (λ(z:Int)=>iD z) V)<|Aa V),(14,iD (Aa V:Int)),(15,iD (i:Int))]) (λ(i:Nat)=>[fB1K (.row (V.map λz=>iD z) V.length) (.row (R.map rowV) R.length)<|.row W m]) (λi=>V.length-i) (λ(i:Nat)=>i<=V.length/\∀j,j<i->zDj n V j=Ab) 0 ?_ ?_ ?_
  ·exact⟨by omega,λj h=>by omega⟩
  ·refine vk 1
  rintro i ⟨h1,h2⟩;rcases Aw i V.length with h3|h3
  · have hne:(V.map λz=>iD z)≠[]:=zX
    have hx:=zBn V i (h:=h3);by_cases hs:zDj n V i=Ab
    · have hs2:=hs
      simp only[zDj,Bn,Ca,decide_eq_true_eq]at hs2;obtain⟨s1,s2,s3⟩:=hs2;rcases i with _|k
      · rw[AM]at hx
        refine zB<|zA rfl<|v0s<|veT<|zB<|vT ((↑(0:Nat):Int)<(Aa V:Int))<|zJ<|zC<|zE<|zB<|zF<|zB<|zA rfl<|vr 3 (ix (↑(0:Nat):Int) (Aa V:Int) (Af (λ(z:Int)=>iD z) V≠[])/\0<Aa (Af (λ(z:Int)=>iD z) V))<|vsh 19 hx<|veT<|zB<|zA rfl<|vew [] [(2,Ac),(7,Ac)] (decide (Ap V 0 (0:Int)<0)=Ac/\decide (Ap V 0 (0:Int)>=n)=Ac) (vf<|zJ<|zD<|zC<|zE<|zA rfl<|vr 2 (i6 ((↑(0:Nat):Int)+(1:Int)))<|vnil<|zC ?_) ⟨(by exact decide_eq_false (by omega)),(by exact decide_eq_false (by omega))⟩;refine⟨1,⟨by omega,λj hj=>?_⟩,by omega,?_⟩
        · obtain rfl:j=0:=by omega
          exact hs
        refine vk 1
      · have hx2:=zBn V k
        have s4:V.getD k 0<V.getD (k+1) 0:=by
          rcases s3 with h|h
          ·omega
          exact h
        refine zB<|zA rfl<|v0s<|veT<|zB<|vT ((↑(k+1):Int)<(Aa V:Int))<|zJ<|zC<|zE<|zB<|zF<|zB<|zA rfl<|vr 2 (ix (↑(k+1):Int) (Aa V:Int) (Af (λ(z:Int)=>iD z) V≠[]))<|vp 18 (k+1) (Af (λ(z:Int)=>iD z) V)<|vr 1 (0<Aa (Ag (k+1)<|Af (λ(z:Int)=>iD z) V))<|vsh 19 hx<|veT<|zB<|zA rfl<|vw 15 [] [(2,Ac),(7,Ac),(10,Ab)] (decide (Ap V (k+1) (0:Int)<0)=Ac/\decide (Ap V (k+1) (0:Int)>=n)=Ac/\decide ((↑(k+1):Int)>(0:Int))=Ab/\True/\0<3/\i6 ((↑(k+1):Int)-(1:Int))) (vs 34 (iD ((↑(k+1):Int)-(1:Int))) (iD (k:Int)) (hd:=by simp(disch:=omega) only[zKo])<|vr 1 (ix (k:Int) (Aa V:Int) (Af (λ(z:Int)=>iD z) V≠[]))<|vp 35 (k) (Af (λ(z:Int)=>iD z) V)<|vr 1 (0<Aa (Ag k<|Af (λ(z:Int)=>iD z) V))<|vsh 36 hx2<|veT<|vF (Ap V k (0:Int)>=Ap V (k+1) (0:Int)) ?_) ⟨(by exact decide_eq_false (by omega)),(by exact decide_eq_false (by omega)),(by exact decide_eq_true (by omega)),trivial,(by omega),(by omega)⟩;refine zJ<|zD<|zC<|zE<|zA rfl<|vr 2 (i6 ((↑(k+1):Int)+(1:Int)))<|vnil<|zC<|⟨k+2,⟨by omega,λj hj=>?_⟩,by omega,?_⟩
        · rcases Aw j (k+1)with h|h
          ·exact h2 j h
          · obtain rfl:j=k+1:=by omega
            exact hs
        refine vk 1
    · have hc3:chk n V R m=3:=chk_v h3 (by simpa using hs)
      rw[hc3];rcases i with _|k
      · rw[AM]at hx
        focus
          refine zB<|zA rfl<|v0s<|veT<|zB<|vT ((↑(0:Nat):Int)<(Aa V:Int))<|zJ<|zC<|zE<|zB<|zF<|zB<|zA rfl<|vr 3 (ix (↑(0:Nat):Int) (Aa V:Int) (Af (λ(z:Int)=>iD z) V≠[])/\0<Aa (Af (λ(z:Int)=>iD z) V))<|vsh 19 hx<|veT<|zB<|zA rfl<|vrT 3<|vspD 22 (Ap V 0 (0:Int)<0) (λhc=>?_)<|λhc=>?_;refine veT<|vt<|zB<|zA rfl<|veT<|zK<|zL<|zG<|zG<|zL<|zG<|vret (True)<|.inr rfl;refine vrT 5<|vspD 27 (Ap V 0 (0:Int)>=n) (λhc=>?_)<|λhc=>?_;refine veT<|vt<|zB<|zA rfl<|veT<|zK<|zL<|zG<|zG<|zL<|zG<|vret (True)<|.inr rfl;refine veT<|vf<|zJ<|zD<|zC<|zE<|zA rfl<|vr 2 (i6 ((↑(0:Nat):Int)+(1:Int)))<|vnil<|zC ?_;rotate_left
        all_goals exact absurd (zF1 (.inl rfl)) hs
      · have hx2:=zBn V k
        focus
          refine zB<|zA rfl<|v0s<|veT<|zB<|vT ((↑(k+1):Int)<(Aa V:Int))<|zJ<|zC<|zE<|zB<|zF<|zB<|zA rfl<|vr 2 (ix (↑(k+1):Int) (Aa V:Int) (Af (λ(z:Int)=>iD z) V≠[]))<|vp 18 (k+1) (Af (λ(z:Int)=>iD z) V)<|vr 1 (0<Aa (Ag (k+1)<|Af (λ(z:Int)=>iD z) V))<|vsh 19 hx<|veT<|zB<|zA rfl<|vrT 3<|vspD 22 (Ap V (k+1) (0:Int)<0) (λhc=>?_)<|λhc=>?_;refine veT<|vt<|zB<|zA rfl<|veT<|zK<|zL<|zG<|zG<|zL<|zG<|vret (True)<|.inr rfl;refine vrT 5<|vspD 27 (Ap V (k+1) (0:Int)>=n) (λhc=>?_)<|λhc=>?_;refine veT<|vt<|zB<|zA rfl<|veT<|zK<|zL<|zG<|zG<|zL<|zG<|vret (True)<|.inr rfl;refine vw 7 [] [(10,Ab)] (decide ((↑(k+1):Int)>(0:Int))=Ab/\True/\0<3/\i6 ((↑(k+1):Int)-(1:Int)))<|vs 34 (iD ((↑(k+1):Int)-(1:Int))) (iD (k:Int)) (hd:=by simp(disch:=omega) only[zKo])<|vr 1 (ix (k:Int) (Aa V:Int) (Af (λ(z:Int)=>iD z) V≠[]))<|vp 35 (k) (Af (λ(z:Int)=>iD z) V)<|vr 1 (0<Aa (Ag k<|Af (λ(z:Int)=>iD z) V))<|vsh 36 hx2<|veT<|vcD (Ap V k (0:Int)>=Ap V (k+1) (0:Int)) (λhc=>?_)<|λhc=>?_;refine zB<|zA rfl<|veT<|zK<|zL<|zG<|zG<|zL<|zG<|vret (True)<|.inr rfl;refine zJ<|zD<|zC<|zE<|zA rfl<|vr 2 (i6 ((↑(k+1):Int)+(1:Int)))<|vnil<|zC ?_;rotate_left
        all_goals exact absurd (zF1 (.inr (by simp only[BH];omega))) hs
  have hv:=zFf (p:=zDj n V) (n:=V.length) λj hj=>h2 j (by omega);by_cases hlm:R.length=m;case neg=>
    rw[chk_l hv hlm];refine zB<|zA rfl<|v0s<|veT<|zB<|vF ((i:Int)<(Aa V:Int))<|zT<|zM<|zM<|zR rfl<|zC<|zE<|zB<|zB<|zA rfl<|ve (True/\0<2/\True/\0<1/\True)<|zD2 (t:=(Aa R:Int)!=(m:Int)) (by kernel_rfl) (by simpa using by omega)<|zB<|zA rfl<|veT<|zK<|zG<|vret (True)<|.inr rfl
  refine zB<|zA rfl<|v0s<|veT<|zB<|vF ((i:Int)<(Aa V:Int))<|zT<|zM<|zM<|zR rfl<|zC<|zE<|zB<|zB<|zA rfl<|ve (True/\0<2/\True/\0<1/\True)<|zG9 (t:=(Aa R:Int)!=(m:Int)) (by kernel_rfl) (by simpa using by omega)<|zJ<|zC<|zE<|zB<|zB<|zA rfl<|ve (True/\0<2)<|zF<|zQ (λ(i:Nat)=>fr 94 [(3,Aj 0 0),(50,Ad (Af rowV R)<|Aa R),(51,iD (Aa R:Int)),(52,iD (i:Int))]) (λ(i:Nat)=>[fB1K (.row (V.map λz=>iD z) V.length) (.row (R.map rowV) R.length)<|.row W m]) (λi=>R.length-i) (λ(i:Nat)=>i<=R.length/\∀j,j<i->j<R.length->decide ((R.getD j []).length=V.length)=Ab) 0 ?_ ?_ ?_
  ·exact⟨by omega,λj h=>by omega⟩
  ·refine vk 1
  clear h1 h2 h3 i;rintro i ⟨h1,h2⟩;rcases Aw i R.length with h3|h3
  · have hne:R.map rowV≠[]:=zX
    have hx:=zY R i h3;have hca:=chk_a hv hlm h3;generalize hg:R.getD i []=r at*;focus
      refine zB<|zA rfl<|v0s<|veT<|zB<|vT ((i:Int)<(Aa R:Int))<|zJ<|zC<|zE<|zB<|zF<|zB<|zA rfl<|vr 1 (ix (i:Int) (Aa R:Int) (Af rowV R≠[]))<|vp 54 (i) (Af rowV R)<|vr 1 (0<Aa (Ag i<|Af rowV R))<|vsh 55 hx<|veT<|zB<|zA rfl<|ve (True/\0<3/\True)<|zAa (t:=(Aa r:Int)!=(Aa V:Int)) (by kernel_rfl) (λhc=>?_)<|λhc=>?_;simp only[bne_iff_ne]at hc;refine zB<|zA rfl<|veT<|zK<|zL<|zG<|zG<|zL<|zG<|vre (True) (Aq<|Ax AY (6:Int)) (.inr rfl) ?_;rotate_left;simp only[bne_eq_false_iff_eq]at hc;refine zJ<|zD<|zC<|zE<|zA rfl<|vr 2 (i6 ((i:Int)+(1:Int)))<|vnil<|zC ?_;rotate_left
    ·rw[hca (by omega)]
    · refine⟨i+1,⟨by omega,λj hj hjl=>?_⟩,by omega,?_⟩
      · rcases Aw j i with h|h
        ·exact h2 j h hjl
        · obtain rfl:j=i:=by omega
          rw[hg];exact decide_eq_true (by omega)
      refine vk 1
  have ha:=zDg (p:=λx:Rw=>decide (x.length=V.length)) (d:=[]) h3 h2;have hl:∀x∈R,x.length<=1000000000:=λx hx=>by
    have:=of_decide_eq_true (Bb.1 ha x hx)
    omega
  refine zB<|zA rfl<|v0s<|veT<|zB<|vF ((i:Int)<(Aa R:Int))<|zT<|zM<|zM<|zR rfl<|zC<|zE<|zB<|zB<|zA rfl<|ve (True/\0<2)<|zF<|zQ (λ(i:Nat)=>fr 94 [(3,Aj 0 0),(64,Ad (Af rowV R)<|Aa R),(65,iD (Aa R:Int)),(66,iD (i:Int))]) (λ(i:Nat)=>[fB1K (.row (V.map λz=>iD z) V.length) (.row (R.map rowV) R.length)<|.row W m]) (λi=>R.length-i) (λ(i:Nat)=>i<=R.length/\∀j,j<i->j<R.length->(R.getD j []).all vok=Ab) 0 ?_ ?_ ?_
  ·exact⟨by omega,λj h=>by omega⟩
  ·refine vk 1
  clear h1 h2 h3 i;rintro i ⟨h1,h2⟩;rcases Aw i R.length with h3|h3
  · have hne:R.map rowV≠[]:=zX
    have hx:=zY R i h3;have hco:=chk_o hv hlm ha h3;have hlr:=hl _ (zAx R [] i h3);generalize hg:R.getD i []=r at*;focus
      refine zB<|zA rfl<|v0s<|veT<|zB<|vT ((i:Int)<(Aa R:Int))<|zJ<|zC<|zE<|zB<|zF<|zB<|zA rfl<|vr 1 (ix (i:Int) (Aa R:Int) (Af rowV R≠[]))<|vp 68 (i) (Af rowV R)<|vr 1 (0<Aa (Ag i<|Af rowV R))<|vsh 69 hx<|veT<|zB<|zA rfl<|vrT 1<|vc (zPd r _ rfl (by omega))<|veT<|zAa (t:=!List.all r vok) (by kernel_rfl) (λhc=>?_)<|λhc=>?_;simp only[BD]at hc;refine zB<|zA rfl<|veT<|zK<|zL<|zG<|zG<|zL<|zG<|vre (True) (Aq<|Ax AY (4:Int)) (.inr rfl) ?_;rotate_left;simp only[BN]at hc;refine zJ<|zD<|zC<|zE<|zA rfl<|vr 2 (i6 ((i:Int)+(1:Int)))<|vnil<|zC ?_;rotate_left
    ·rw[hco (by simpa using hc)]
    · refine⟨i+1,⟨by omega,λj hj hjl=>?_⟩,by omega,?_⟩
      · rcases Aw j i with h|h
        ·exact h2 j h hjl
        · obtain rfl:j=i:=by omega
          rw[hg];simpa using hc
      refine vk 1
  have ho:=zDg (p:=λx:Rw=>x.all vok) (d:=[]) h3 h2;refine zB<|zA rfl<|v0s<|veT<|zB<|vF ((i:Int)<(Aa R:Int))<|zT<|zM<|zM<|zR rfl<|zC<|zE<|zB<|zB<|zA rfl<|veT<|zF<|zQ (λ(k:Nat)=>fr 94 [(3,Aj 0 0),(11,iD ((k:Int)+(1:Int)))]) (λ(k:Nat)=>[fB1K (.row (V.map λz=>iD z) V.length) (.row (R.map rowV) R.length)<|.row W m]) (λk=>R.length-k) (λ(k:Nat)=>k<=R.length/\∀j,j<=k->j<R.length->zG0 R j=Ab) 0 ?_ ?_ ?_
  · exact ⟨by omega, fun j h _ => by obtain rfl:j=0:=by omega
                                     rfl⟩
  ·refine vk 1
  clear h1 h2 h3 i;rintro k ⟨h1,h2⟩;rcases Aw (k+1) R.length with h3|h3
  · have hne:R.map rowV≠[]:=zX
    have hx:=zY R (k+1) h3;have hx0:=zY R k (by omega);have hcs:=chk_s hv hlm ha ho h3;have hst:zG0 R (k+1)=decide (rcmp (R.getD k []) (R.getD (k+1) [])<0):=by simp[zG0]
    have hcm:=zD8 (R.getD k []) (R.getD (k+1) []) _ _ rfl rfl (hl _ (zAx R [] k (by omega))) (hl _ (zAx R [] (k+1) h3));generalize R.getD (k+1) []=r at*;generalize R.getD k []=r0 at*;focus
      refine zB<|zB<|zA rfl<|v0s<|ve (True/\0<2)<|vT ((↑(k+1):Int)<(Aa R:Int))<|zJ<|zC<|zE<|zB<|zF<|zB<|vd [0,2,3,6,8,1,4,5,7,9,10,11,12]<|vr 3 (True/\i6 ((↑(k+1):Int)-(1:Int)))<|vs 84 (iD ((↑(k+1):Int)-(1:Int))) (iD (k:Int)) (hd:=by simp(disch:=omega) only[zKo])<|vr 4 (True/\0<2/\ix (k:Int) (Aa R:Int) (Af rowV R≠[]))<|vp 85 (k) (Af rowV R)<|vr 1 (0<Aa (Ag k<|Af rowV R))<|vsh 86 hx0<|vr 2 (0<2/\ix (↑(k+1):Int) (Aa R:Int) (Af rowV R≠[]))<|vp 90 (k+1) (Af rowV R)<|vr 1 (0<Aa (Ag (k+1)<|Af rowV R))<|vsh 91 hx<|vc (hcm)<|veT<|vcD (rcmp r0 r>=(0:Int)) (λhc=>?_)<|λhc=>?_;refine zB<|zA rfl<|veT<|zK<|zL<|zG<|zG<|zL<|zG<|vre (True) (Aq<|Ax AY (16:Int)) (.inr rfl) ?_;rotate_left;refine zJ<|zD<|zC<|zE<|zA rfl<|vr 3 (i6 ((↑(k+1):Int)+(1:Int)))<|vnil<|zC ?_;rotate_left
    ·rw[hcs (by rw[hst];exact decide_eq_false (by omega))]
    · refine⟨k+1,⟨by omega,λj hj hjl=>?_⟩,by omega,?_⟩
      · rcases Aw j (k+1)with h|h
        ·exact h2 j (by omega) hjl
        · obtain rfl:j=k+1:=by omega
          rw[hst];exact decide_eq_true (by omega)
      refine vk 1
  rw[chk_0 hv hlm ha ho (zFf λj hj=>h2 j (by omega) hj)];refine zB<|zB<|zA rfl<|v0s<|ve (True/\0<2)<|vF ((k:Int)+(1:Int)<(Aa R:Int))<|zT<|zM<|zM<|zR rfl<|zC<|zE<|zB<|zA rfl<|veT<|zK<|vret (True)<|.inr rfl
end
structure Rn where
 V:List Int
 R:List Rw
 W:List Nat
 deriving Inhabited
def chkR(n:Int)(f:Rn):Int:=chk n f.V f.R f.W.length
def errL(n:Int):List Rn->Int
 |[]=>0
 |f::fs=>if chkR n f≠0 then chkR n f else errL n fs
def covP(n:Nat)(fs:List Rn):Bool:=(AB n).all λv=>fs.any λf=>decide ((v:Int)∈f.V)
def zDi(n:Int)(keep:Nat)(fs:List Rn):Int:=if n<0\/32<n\/keep>>>n.toNat≠0 then 3 else if errL n fs≠0 then errL n fs else if covP n.toNat fs then 0 else 22
theorem zMe{n:Int}:∀{fs:List Rn}{i:Nat},(∀j,j<i->chkR n (fs.getD j Ah)=0)->i<fs.length->chkR n (fs.getD i Ah)≠0->errL n fs=chkR n (fs.getD i Ah)
 |[],i,_,h,_=>by simp at h
 |f::fs,0,_,_,h=>by
  have h:chkR n f≠0:=h;rw[errL,if_pos h];rfl
 |f::fs,i+1,hb,hi,h=>by
  have h0:chkR n f=0:=hb 0 (by omega);rw[errL,if_neg (by omega)];exact zMe (fs:=fs) (i:=i) (λj hj=>hb (j+1) (by omega)) (by simpa using hi) h
theorem zRt{n:Int}:∀{fs:List Rn},(∀j,j<fs.length->chkR n (fs.getD j Ah)=0)->errL n fs=0
 |[],_=>rfl
 |f::fs,h=>by
  have h0:chkR n f=0:=h 0 (by simp);rw[errL,if_neg (by omega)];exact zRt (fs:=fs) λj hj=>h (j+1) (by simpa using hj)
theorem zD6{n:Int}:∀{fs:List Rn},errL n fs=0->∀f∈fs,chkR n f=0
 |[],_,f,h=>by simp at h
 | g::fs,h,f,hf=>by
  rw[errL]at h;split at h
  ·rename_i k;exact absurd h k
  rename_i k;rcases Bo.1 hf with rfl|hf
  ·omega
  exact zD6 h f hf
def covM(fs:List Rn):Nat:=fs.foldl (λm f=>m|||msk (f.V.map As)) 0
theorem zWl:∀(fs:List Rn)(m v:Nat),(fs.foldl (λm f=>m|||msk (f.V.map As)) m).testBit v=(m.testBit v||fs.any λf=>decide (v∈f.V.map As))
 |[],m,v=>by simp
 |f::fs,m,v=>by rw[List.foldl_cons,zWl fs,Nat.testBit_or,zB2,List.any_cons,Bool.or_assoc]
theorem zP9:∀(fs:List Rn)(m:Nat),m<4294967296->(∀f∈fs,∀v∈f.V.map As,v<32)->fs.foldl (λm f=>m|||msk (f.V.map As)) m<4294967296
 |[],m,h,_=>h
 |f::fs,m,h,hf=>zP9 fs _ (zH1 h (zA3 (hf f (BF ..)))) λg hg=>hf g (Bq _ hg)
theorem zGs{A:List Nat}{v:Nat}:((v:Int)∈intL A)↔v∈A:=by
 rw[AE];exact⟨λ⟨a,h1,h2⟩=>by
  have e:a=v:=by omega
  rw[<-e];exact h1,λh=>⟨v,h,rfl⟩⟩
theorem zCa(A:List Nat):(intL A).map As=A:=by
 simp[intL,Function.comp_def]
theorem zTs(n:Nat)(fs:List Rn)(hf:∀f∈fs,∃A:List Nat,f.V=intL A/\∀v∈A,v<n):covM fs=2^n-1↔covP n fs=true:=by
 have hb:∀v,(covM fs).testBit v=fs.any λf=>decide ((v:Int)∈f.V):=λv=>by
  unfold covM;rw[zWl,Nat.zero_testBit,Bool.false_or,BC,BR,BR];constructor
  ·rintro⟨f,h1,h2⟩;obtain⟨A,hA,_⟩:=hf f h1;refine⟨f,h1,?_⟩;rw[hA,zCa]at h2;rw[hA];simpa[zGs]using h2
  rintro⟨f,h1,h2⟩;obtain⟨A,hA,_⟩:=hf f h1;refine⟨f,h1,?_⟩;rw[hA]at h2;rw[hA,zCa];simpa[zGs]using h2
 unfold covP;rw[Bb];constructor
 ·intro h v hv;rw[<-hb,h,B8];simpa using hv
 intro h;refine Nat.eq_of_testBit_eq λv=>?_;rw[hb,B8];by_cases hv:v<n
 ·rw[h v (by simpa using hv)];simp[hv]
 rw[decide_eq_false hv,Cb];intro k;rw[BR]at k;obtain⟨f,h1,h2⟩:=k;obtain⟨A,hA,hlt⟩:=hf f h1;rw[hA]at h2;have:v∈A:=by simpa[zGs]using h2
 exact hv (hlt v this)
section
attribute [local irreducible] seqW awp zAe zAh zAb Weak updS zAs retL Pure Acts rP setP setQ cP nP fr
set_option maxRecDepth 4096
abbrev rnC(f:Rn):List D:=[.row (f.V.map λz=>iD z) f.V.length, .row (f.R.map rowV) f.R.length, .row (f.W.map natD) f.W.length]
theorem zLm(f:Rn):(rnC f).length=3:=rfl
structure Rsz(f:Rn):Prop where
 v:f.V.length<=1000
 r:f.R.length<=1000
set_option maxHeartbeats 4000000 in
theorem zNw(n keep:Nat)(fs:List Rn)(hn:n<=8)(hk:keep<4294967296)(hl:fs.length<=1000)(hs:∀f∈fs,Rsz f):Pure Ar 45 [iD (n:Nat),u32D keep, .row (fs.flatMap rnC) fs.length] [] (iD (zDi n keep fs)):=by
 have w1:=zDt keep (v:=n) (by omega);have w2:=zDu (v:=n) (by omega);have h2n:2^n<=256:=Ba (n:=2) (by omega) hn;have h1n:=BM (n:=n);have w3:((2^n:Nat):Int)-1=((2^n-1:Nat):Int):=by omega
 have w4:=zA4 (n:=2^n-1) (by omega);have ewr:zDi n keep fs=if keep>>>n≠0 then 3 else if errL n fs≠0 then errL n fs else if covP n fs then 0 else 22:=by
  unfold zDi;rw[Az];by_cases h:keep>>>n≠0
  ·rw[if_pos (.inr (.inr h)),if_pos h]
  rw[if_neg (by intro k;rcases k with k|k|k<;>first|omega|exact h k),if_neg h]
 generalize keep>>>n=kk at*;refine zH zQg mixed Tryz.func45 rfl ?_;focus
  refine vAu<|zB<|vA<|vw 10 [] [(2,Ac),(6,Ac)] (decide ((n:Int)<0)=Ac/\decide ((n:Int)>(32:Int))=Ac/\(0:Int)<=(n:Int))<|vs 20 (Aq<|Ax Av<|Bu (keep:Int) ((2:Int)^min (As (n:Int)) 32)) (dig kk) (hd:=by simp(disch:=omega) only[Az,w1])<|veT<|zAa (t:=(kk:Int)!=(0:Int)) (by kernel_rfl) (λhc=>?_)<|λhc=>?_;simp only[bne_iff_ne]at hc;refine vAe<|zK<|zG<|vre (True) (Aq<|Ax AY 3) (.inr rfl) ?_;rotate_left;simp only[bne_eq_false_iff_eq]at hc;refine vK<|vAe<|zB<|vAe<|zF ?_;rotate_left
 ·rw[ewr,if_pos (by omega)]
 have hcu:∀i,covM (fs.take i)<4294967296\/¬∀j,j<i->chkR n (fs.getD j Ah)=0:=λi=>by
  by_cases h:∀j,j<i->chkR n (fs.getD j Ah)=0
  ·refine .inl (zP9 (fs.take i) 0 (by omega) λf hf v hv=>?_);obtain⟨j,hj,rfl⟩:=BS.1 hf;have hj2:j<i/\j<fs.length:=by rw[Br]at hj;omega
   have:=h j hj2.1
   rw[AF,AQ hj2.2,BT]at this;obtain⟨A,hA,hfit⟩:=zC9 this;rw[BU,hA,show A.map (λv:Nat=>(v:Int))=intL A from rfl,zCa]at hv
   have:=hfit.lt v hv
   omega
  exact .inr h
 refine zQ (λ(i:Nat)=>fr 45 [(0,iD n),(7,u32D<|covM<|Al i fs),(23,Ad (Ae rnC fs)<|Aa fs),(24,iD<|Aa fs),(25,iD i)]) (λ(i:Nat)=>[]) (λi=>fs.length-i) (λ(i:Nat)=>i<=fs.length/\∀j,j<i->chkR n (fs.getD j Ah)=0) 0 ?_ ?_ ?_
 ·exact⟨by omega,λj h=>by omega⟩
 ·refine vk 0
 rintro i ⟨h1,h2⟩;have hcl:=(hcu i).resolve_right (λh=>h h2);rcases Aw i fs.length with h3|h3
 ·have hm:=zAx fs Ah i h3;have hg2:=zA9 zLm fs i h3;have hle:=zB5 zLm fs i h3;have hne:=zCb zLm (by decide) fs;have hsz:=hs _ hm;have hat:=zMe h2 h3;have htk:covM (fs.take (i+1))=covM (fs.take i)|||msk ((fs.getD i Ah).V.map As):=by
   rw[zBl fs i h3];unfold covM;rw[Cc];rfl
  generalize hff:fs.getD i Ah=f at*;obtain⟨V,R,W⟩:=f;have hch:=check_c n V R W (by have:=hsz.v;simp only at this;omega) (by have:=hsz.r;simp only at this;omega);by_cases e0:chk n V R W.length=0
  ·obtain⟨A,hA,hfit⟩:=zC9 e0;have hA:V=intL A:=hA;subst hA;rw[e0]at hch;have eA:(intL A).map (λz=>iD z)=nsD A:=by simp[intL]
   have eL:(intL A).length=A.length:=by simp
   have hv32:∀v∈A,v<32:=λv hv=>by have:=hfit.lt v hv;omega
   have nA:A.length<=1000:=by have:=hsz.v;simp only[eL]at this;exact this
   have sA:=zNm A _ rfl nA hv32 (R.map rowV) (W.map natD) R.length W.length;rw[zCa]at htk;have w5:=zKu hcl (zA3 hv32);have w6:=zA4 (zH1 hcl (zA3 hv32));simp only[rnC,eA,eL]at hg2;simp only[fcR,eA,eL]at hch;refine vAu<|zB<|vT ((i:Int)<↑(Aa fs))<|vKB<|vA<|vr 2 (ix ↑i ↑(Aa fs) (Ae rnC fs≠[])/\3<=Aa (Ag (i*3)<|Ae rnC fs))<|vs 28 (Ak<|Al 3<|Ag (i*3)<|Ae rnC fs) (Ak [Ad (nsD A)<|Aa A,Ad (Af rowV R)<|Aa R,Ad (Af natD W)<|Aa W]) (hd:=by simp(disch:=omega) only[hg2])<|ve (Ac=Ac/\Ab=Ab/\3=3/\3<=3)<|zB<|vA<|vr 2 (3<=3)<|vc hch<|veT<|vAe<|vf<|vK<|zA rfl<|vr 2 (3<=3)<|vc sA<|vrT 1<|vs 38 (Aq<|Ax Av<|AO Av (↑(AP (Ay 32 (↑(covM<|Al i fs):Int)|||Ay 32 (↑(msk A):Int))):Int)) (dig (covM (Al i fs)|||msk A)) (hd:=by simp(disch:=omega) only[w6,w5])<|vrT 1<|vnil<|zD<|vN<|zA rfl<|vr 2 (i6 (↑i+1))<|vnil<|zC<|⟨i+1,⟨by omega,λj hj=>?_⟩,by omega,?_⟩
   ·rcases Aw j i with h|h
    ·exact h2 j h
    obtain rfl:j=i:=by omega
    rw[hff];exact e0
   rw[htk];refine vk 0
  have hat':=hat e0;have hat2:errL n fs=chk n V R W.length:=hat';generalize chk n V R W.length=e at*;refine vAu<|zB<|vT ((i:Int)<↑(Aa fs))<|vKB<|vA<|vr 2 (ix ↑i ↑(Aa fs) (Ae rnC fs≠[])/\3<=Aa (Ag (i*3)<|Ae rnC fs))<|vs 28 (Ak<|Al 3<|Ag (i*3)<|Ae rnC fs) (Ak<|rnC<|Rn.mk V R W) (hd:=by simp(disch:=omega) only[hg2])<|ve (Ac=Ac/\Ab=Ab/\3=3/\3<=3)<|zB<|vA<|vr 2 (3<=3)<|vc hch<|veT<|vAe<|zD2 (t:=e !=(0:Int)) (by kernel_rfl) (by simpa using by omega)<|vAe<|zK<|zG<|zL<|zG<|zG<|zL<|zG<|vre (True) (Aq<|Ax AY e) (.inr rfl) ?_;rw[ewr,if_neg (by omega),if_pos (by omega),hat2]
 rw[AK h3]at hcl⊢;have h0:=zRt λj hj=>h2 j (by omega);have hce:=zTs n fs λf hf=>by
  obtain⟨A,hA,hfit⟩:=zC9 (zD6 h0 f hf);exact⟨A,hA,λv hv=>by have:=hfit.lt v hv;omega⟩
 focus
  refine vAu<|zB<|vF ((i:Int)<↑(Aa fs))<|vZ2<|zB<|vA<|vr 3 ((0:Int)<=(n:Int))<|vs 42 (Aq<|Ax Av<|AO Av ((1:Int)*(2:Int)^min (As (n:Int)) 32)) (dig ((2:Nat)^n)) (hd:=by simp(disch:=omega) only[Az,w2])<|vr 1 (u3 ((↑((2:Nat)^n):Int)-(1:Int)))<|vs 43 (Aq<|Ax Av ((↑((2:Nat)^n):Int)-(1:Int))) (dig ((2:Nat)^n-1)) (hd:=by simp(disch:=omega) only[w3])<|veT<|zAa (t:=(↑(covM fs):Int)!=(↑((2:Nat)^n-1):Int)) (by kernel_rfl) (λhc=>?_)<|λhc=>?_;simp only[bne_iff_ne]at hc;refine vAe<|zK<|zG<|vre (True) (Aq<|Ax AY 22) (.inr rfl) ?_;rotate_left;simp only[bne_eq_false_iff_eq]at hc;refine vK<|vAe<|zK<|vre (True) (q2_) (.inr rfl) ?_;rotate_left
 ·rw[ewr,if_neg (by omega),if_neg (by omega),if_neg (λh=>by have:=hce.2 h;omega)]
 rw[ewr,if_neg (by omega),if_neg (by omega),if_pos (hce.1 (by omega))]
abbrev rnCK(f:Rn):List D:=[.row (f.V.map λz=>iD z) f.V.length, .row (f.R.map rowV) f.R.length, .row (f.W.flatMap λx=>ckD (An x)) f.W.length]
theorem zHv(f:Rn):(rnCK f).length=3:=rfl
set_option maxHeartbeats 4000000 in
theorem zTz(n keep:Nat)(fs:List Rn)(hn:n<=8)(hk:keep<4294967296)(hl:fs.length<=1000)(hs:∀f∈fs,Rsz f):Pure Ar 58 [iD (n:Nat),u32D keep, .row (fs.flatMap rnCK) fs.length] [] (iD (zDi n keep fs)):=by
 have w1:=zDt keep (v:=n) (by omega);have w2:=zDu (v:=n) (by omega);have h2n:2^n<=256:=Ba (n:=2) (by omega) hn;have h1n:=BM (n:=n);have w3:((2^n:Nat):Int)-1=((2^n-1:Nat):Int):=by omega
 have w4:=zA4 (n:=2^n-1) (by omega);have ewr:zDi n keep fs=if keep>>>n≠0 then 3 else if errL n fs≠0 then errL n fs else if covP n fs then 0 else 22:=by
  unfold zDi;rw[Az];by_cases h:keep>>>n≠0
  ·rw[if_pos (.inr (.inr h)),if_pos h]
  rw[if_neg (by intro k;rcases k with k|k|k<;>first|omega|exact h k),if_neg h]
 generalize keep>>>n=kk at*;refine zH zQg mixed Tryz.func58 rfl ?_;focus
  refine zB<|zA rfl<|v0s<|veT<|zB<|zB<|zA rfl<|vw 10 [] [(2,Ac),(6,Ac)] (decide ((n:Int)<0)=Ac/\decide ((n:Int)>(32:Int))=Ac/\(0:Int)<=(n:Int))<|vs 20 (Aq<|Ax Av<|Bu (keep:Int) ((2:Int)^min (As (n:Int)) 32)) (dig kk) (hd:=by simp(disch:=omega) only[Az,w1])<|veT<|zAa (t:=(kk:Int)!=(0:Int)) (by kernel_rfl) (λhc=>?_)<|λhc=>?_;simp only[bne_iff_ne]at hc;refine zB<|zA rfl<|veT<|zK<|zG<|vre (True) (Aq<|Ax AY (3:Int)) (.inr rfl) ?_;rotate_left;simp only[bne_eq_false_iff_eq]at hc;refine zJ<|zC<|zE<|zB<|zA rfl<|veT<|zB<|zB<|zA rfl<|veT<|zF ?_;rotate_left
 ·rw[ewr,if_pos (by omega)]
 have hcu:∀i,covM (fs.take i)<4294967296\/¬∀j,j<i->chkR n (fs.getD j Ah)=0:=λi=>by
  by_cases h:∀j,j<i->chkR n (fs.getD j Ah)=0
  ·refine .inl (zP9 (fs.take i) 0 (by omega) λf hf v hv=>?_);obtain⟨j,hj,rfl⟩:=BS.1 hf;have hj2:j<i/\j<fs.length:=by rw[Br]at hj;omega
   have:=h j hj2.1
   rw[AF,AQ hj2.2,BT]at this;obtain⟨A,hA,hfit⟩:=zC9 this;rw[BU,hA,show A.map (λv:Nat=>(v:Int))=intL A from rfl,zCa]at hv
   have:=hfit.lt v hv
   omega
  exact .inr h
 refine zQ (λ(i:Nat)=>fr 45 [(0,iD (n:Int)),(7,u32D<|covM<|Al i fs),(23,Ad (Ae rnCK fs)<|Aa fs),(24,iD (Aa fs:Int)),(25,iD (i:Int))]) (λ(i:Nat)=>[]) (λi=>fs.length-i) (λ(i:Nat)=>i<=fs.length/\∀j,j<i->chkR n (fs.getD j Ah)=0) 0 ?_ ?_ ?_
 ·exact⟨by omega,λj h=>by omega⟩
 ·refine vk 0
 rintro i ⟨h1,h2⟩;have hcl:=(hcu i).resolve_right (λh=>h h2);rcases Aw i fs.length with h3|h3
 ·have hm:=zAx fs Ah i h3;have hg2:=zA9 zHv fs i h3;have hle:=zB5 zHv fs i h3;have hne:=zCb zHv (by decide) fs;have hsz:=hs _ hm;have hat:=zMe h2 h3;have htk:covM (fs.take (i+1))=covM (fs.take i)|||msk ((fs.getD i Ah).V.map As):=by
   rw[zBl fs i h3];unfold covM;rw[Cc];rfl
  generalize hff:fs.getD i Ah=f at*;obtain⟨V,R,W⟩:=f;have hch:=check_cK n V R (W.flatMap λx=>ckD (An x)) W.length (by have:=hsz.v;simp only at this;omega) (by have:=hsz.r;simp only at this;omega);by_cases e0:chk n V R W.length=0
  ·obtain⟨A,hA,hfit⟩:=zC9 e0;have hA:V=intL A:=hA;subst hA;rw[e0]at hch;have eA:(intL A).map (λz=>iD z)=nsD A:=by simp[intL]
   have eL:(intL A).length=A.length:=by simp
   have hv32:∀v∈A,v<32:=λv hv=>by have:=hfit.lt v hv;omega
   have nA:A.length<=1000:=by have:=hsz.v;simp only[eL]at this;exact this
   have sA:=zJz A _ rfl nA hv32 (R.map rowV) (W.flatMap λx=>ckD (An x)) R.length W.length;rw[zCa]at htk;have w5:=zKu hcl (zA3 hv32);have w6:=zA4 (zH1 hcl (zA3 hv32));simp only[rnCK,eA,eL]at hg2;simp only[fcRK,eA,eL]at hch;refine zB<|zA rfl<|v0s<|veT<|zB<|vT ((i:Int)<(Aa fs:Int))<|zJ<|zC<|zE<|zB<|zF<|zB<|zA rfl<|vr 2 (ix (i:Int) (Aa fs:Int) (Ae rnCK fs≠[])/\3<=Aa (Ag (i*3)<|Ae rnCK fs))<|vs 28 (Ak<|Al 3<|Ag (i*3)<|Ae rnCK fs) (Ak [Ad (nsD A)<|Aa A,Ad (Af rowV R)<|Aa R,Ad (Ae (λ(x:Nat)=>ckD (An x)) W)<|Aa W]) (hd:=by simp(disch:=omega) only[hg2])<|ve (Ac=Ac/\Ab=Ab/\3=3/\3<=3)<|zB<|zB<|zA rfl<|vr 2 (3<=3)<|vc (hch)<|veT<|zB<|zA rfl<|veT<|vf<|zJ<|zC<|zE<|zA rfl<|vr 2 (3<=3)<|vc (sA)<|vrT 1<|vs 38 (Aq<|Ax Av<|AO Av (↑(AP (Ay 32 (↑(covM<|Al i fs):Int)|||Ay 32 (↑(msk A):Int))):Int)) (dig (covM (Al i fs)|||msk A)) (hd:=by simp(disch:=omega) only[w6,w5])<|vrT 1<|vnil<|zD<|zC<|zE<|zA rfl<|vr 2 (i6 ((i:Int)+(1:Int)))<|vnil<|zC<|⟨i+1,⟨by omega,λj hj=>?_⟩,by omega,?_⟩
   ·rcases Aw j i with h|h
    ·exact h2 j h
    obtain rfl:j=i:=by omega
    rw[hff];exact e0
   rw[htk];refine vk 0
  have hat':=hat e0;have hat2:errL n fs=chk n V R W.length:=hat';generalize chk n V R W.length=e at*;refine zB<|zA rfl<|v0s<|veT<|zB<|vT ((i:Int)<(Aa fs:Int))<|zJ<|zC<|zE<|zB<|zF<|zB<|zA rfl<|vr 2 (ix (i:Int) (Aa fs:Int) (Ae rnCK fs≠[])/\3<=Aa (Ag (i*3)<|Ae rnCK fs))<|vs 28 (Ak<|Al 3<|Ag (i*3)<|Ae rnCK fs) (Ak<|rnCK<|Rn.mk V R W) (hd:=by simp(disch:=omega) only[hg2])<|ve (Ac=Ac/\Ab=Ab/\3=3/\3<=3)<|zB<|zB<|zA rfl<|vr 2 (3<=3)<|vc (hch)<|veT<|zB<|zA rfl<|veT<|zD2 (t:=e !=(0:Int)) (by kernel_rfl) (by simpa using by omega)<|zB<|zA rfl<|veT<|zK<|zG<|zL<|zG<|zG<|zL<|zG<|vre (True) (Aq<|Ax AY e) (.inr rfl) ?_;rw[ewr,if_neg (by omega),if_pos (by omega),hat2]
 rw[AK h3]at hcl⊢;have h0:=zRt λj hj=>h2 j (by omega);have hce:=zTs n fs λf hf=>by
  obtain⟨A,hA,hfit⟩:=zC9 (zD6 h0 f hf);exact⟨A,hA,λv hv=>by have:=hfit.lt v hv;omega⟩
 focus
  refine zB<|zA rfl<|v0s<|veT<|zB<|vF ((i:Int)<(Aa fs:Int))<|zT<|zM<|zM<|zR rfl<|zC<|zE<|zB<|zB<|zA rfl<|vr 3 ((0:Int)<=(n:Int))<|vs 42 (Aq<|Ax Av<|AO Av ((1:Int)*(2:Int)^min (As (n:Int)) 32)) (dig ((2:Nat)^n)) (hd:=by simp(disch:=omega) only[Az,w2])<|vr 1 (u3 ((↑((2:Nat)^n):Int)-(1:Int)))<|vs 43 (Aq<|Ax Av ((↑((2:Nat)^n):Int)-(1:Int))) (dig ((2:Nat)^n-1)) (hd:=by simp(disch:=omega) only[w3])<|veT<|zAa (t:=(↑(covM fs):Int)!=(↑((2:Nat)^n-1):Int)) (by kernel_rfl) (λhc=>?_)<|λhc=>?_;simp only[bne_iff_ne]at hc;refine zB<|zA rfl<|veT<|zK<|zG<|vre (True) (Aq<|Ax AY (22:Int)) (.inr rfl) ?_;rotate_left;simp only[bne_eq_false_iff_eq]at hc;refine zJ<|zC<|zE<|zB<|zA rfl<|veT<|zK<|vre (True) (Aq<|Ax AY (0:Int)) (.inr rfl) ?_;rotate_left
 ·rw[ewr,if_neg (by omega),if_neg (by omega),if_neg (λh=>by have:=hce.2 h;omega)]
 rw[ewr,if_neg (by omega),if_neg (by omega),if_pos (hce.1 (by omega))]
section
variable (n e : Int) (keep : Nat) (cs : List D) (m : Nat)
theorem zX5(f:Fa Nat)(hm:Pure Ar 26 [cntD,iD n,u32D 0, .row cs m] [] (.tup [faA f,iD 0])):Pure Ar 11 [cntD,iD n, .row cs m] [] (.tup [natD ((f.l.map (·.2)).headD 0),iD 0]):=by
 obtain⟨A,l⟩:=f;rcases l with _|⟨p,l⟩
 ·skip;obtain⟨z,hz⟩:∃z:Nat,z=0:=⟨0,rfl⟩;have hr:natD (([]:List (Rw×Nat)).map (·.2)|>.headD 0)=natD z:=by rw[hz];rfl
  simp only[hr];refine zH (T:=Tc) (zGl _ _ _) mixed Tryz.func11 rfl<|vAu<|vA<|vrT 3<|vc (hm)<|ve (0<2/\1<2/\Ac=Ac/\Ab=Ab/\3=3/\3<=3)<|zB<|vAe<|vf<|vK<|zB<|vA<|ve (True/\0<1/\True)<|vt<|vA<|vrT 1<|vc (zTr z hz)<|veT<|zK<|zG<|vret (True)<|.inr rfl
 skip;show Pure _ _ _ _ (.tup [natD p.2,iD 0]);have hx:(vlsD (p::l)).headD .unk=natD p.2:=rfl;have hne:vlsD (p::l)≠[]:=by simp
 refine zH (T:=Tc) (zGl _ _ _) mixed Tryz.func11 rfl<|vAu<|vA<|vrT 3<|vc (hm)<|ve (0<2/\1<2/\Ac=Ac/\Ab=Ab/\3=3/\3<=3)<|zB<|vAe<|vf<|vK<|zB<|vA<|ve (True/\0<1/\True)<|vEf ((↑(Aa l+1):Int)) ((0:Int))<|vK<|vA<|ve (True/\0<1/\ix (0:Int) (↑(Aa l+1):Int) (vlsD (p::l)≠[])/\0<Aa (vlsD (p::l)))<|zK<|vret (True)<|.inr rfl
end
section
variable (n e : Int) (keep : Nat) (cs : List D) (m : Nat)
theorem total_cK(f:Fa (Option Nat))(hm:Pure Ar 33 [trpD,iD n,u32D 0, .row cs m] [] (.tup [faAK f,iD 0])):Pure Ar 13 [trpD,iD n, .row cs m] [] (.tup [.agg (ckD ((f.l.map (·.2)).headD AH)),iD 0]):=by
 obtain⟨A,l⟩:=f;rcases l with _|⟨p,l⟩
 ·refine zH (T:=Tc) (zGl _ _ _) mixed Tryz.func13 rfl<|zB<|zA rfl<|v0s<|veT<|zB<|zA rfl<|vrT 3<|vc (hm)<|ve (0<2/\1<2/\Ac=Ac/\Ab=Ab/\3=3/\3<=3)<|zB<|zB<|zA rfl<|veT<|vf<|zJ<|zC<|zE<|zB<|zB<|zA rfl<|ve (True/\0<1/\True)<|vt<|zB<|zA rfl<|vrT 1<|vc (zSf)<|ve (Ac=Ac/\Ab=Ab/\2=2/\2<=2)<|zK<|zG<|vret (2<=2)<|.inr rfl
 show Pure _ _ _ _ (.tup [.agg (ckD p.2),iD 0]);have hx:=zA9 zAv ((p::l).map (·.2)) 0 (by simp);have hle:=zB5 zAv ((p::l).map (·.2)) 0 (by simp);rw[Nat.zero_mul,AM]at hx hle;have hx:(zAq (p::l)).take 2=ckD p.2:=hx;have hne:zAq (p::l)≠[]:=zCb zAv (by decide) _ (h:=by simp);refine zH (T:=Tc) (zGl _ _ _) mixed Tryz.func13 rfl<|zB<|zA rfl<|v0s<|veT<|zB<|zA rfl<|vrT 3<|vc (hm)<|ve (0<2/\1<2/\Ac=Ac/\Ab=Ab/\3=3/\3<=3)<|zB<|zB<|zA rfl<|veT<|vf<|zJ<|zC<|zE<|zB<|zB<|zA rfl<|ve (True/\0<1/\True)<|vEf ((↑(Aa l+1):Int)) ((0:Int))<|zJ<|zC<|zE<|zB<|zA rfl<|ve (True/\0<1/\ix (0:Int) (↑(Aa l+1):Int) (zAq (p::l)≠[])/\2<=Aa (zAq (p::l))/\Ac=Ac/\Ab=Ab/\2=2/\2<=2)<|zK<|vret (2<=2)<|.inr rfl
end
end
section
set_option maxRecDepth 4096
abbrev FnP:Type:=List Nat×List (Rw×(Nat×Option Nat))
def zDn(U:List Nat)(o:FnP):List Nat×List (List Va):=(zAu (λv=>(msk o.1&&&msk U).testBit v) U,allK ((o.2.map (·.1)).map λr=>zP r (zAu (λv=>(msk o.1&&&msk U).testBit v) o.1)))
def faNP(o:FnP):Fa (Nat×Option Nat):=⟨o.1,o.2⟩
theorem zZ7{U:List Nat}(hU:Asc U){o:FnP}(ho:Asc o.1)(s:List Va):decide (zP s (zDn U o).1∈(zDn U o).2)=okO U s (faNP o):=by
 rw[BC];simp only[zDn,decide_eq_true_eq,zFu,AE,Bf,okO,BR,Bb,faNP,Function.comp];have e:U.filter (λv=>(msk o.1&&&msk U).testBit v)=o.1.filter (λv=>(msk o.1&&&msk U).testBit v):=zPz hU ho λv=>by
  rw[zGi];simp only[Bn,decide_eq_true_eq];constructor
  ·rintro⟨h1,h2,h3⟩;exact⟨h2,h2,h3⟩
  rintro⟨h1,h2,h3⟩;exact⟨h3,h2,h3⟩
 have key:∀q:Rw×(Nat×Option Nat),zP q.1 (zAu (λv=>(msk o.1&&&msk U).testBit v) o.1)=zP s (zAu (λv=>(msk o.1&&&msk U).testBit v) U)↔∀v∈o.1,v∈U->asg o.1 q.1 v=asg U s v:=by
  intro q;rw[zCu ho.nd,zCu hU.nd,e,zDy];simp only[A2,zGi,Bn,decide_eq_true_eq];constructor
  ·intro h v hv hu;exact h v ⟨hv,hv,hu⟩
  rintro h v ⟨hv,_,hu⟩;exact h v hv hu
 constructor
 ·rintro⟨q,hq,h⟩;exact⟨q,hq,λv hv=>decide_eq_true ((key q).1 h v hv)⟩
 rintro⟨q,hq,h⟩;exact⟨q,hq,(key q).2 λv hv=>of_decide_eq_true (h v hv)⟩
section
variable (A B : List Nat) (lb : List (Rw × (Nat × Option Nat))) (ok : Rw → Bool)
def zFc(p:Rw×(Nat×Option Nat)):List (Rw×(Nat×Option Nat)):=lb.filter λq=>mt A p.1 B q.1
def prQP(p q:Rw×(Nat×Option Nat)):Rw×(Nat×Option Nat):=(mg A p.1 B q.1,Sp.mul p.2 q.2)
def zDl(p:Rw×(Nat×Option Nat))(l:List (Rw×(Nat×Option Nat))):List (Rw×(Nat×Option Nat)):=(l.map (prQP A B p)).filter λs=>ok s.1
theorem zLs(la:List (Rw×(Nat×Option Nat))):(zBd Sp.mul A la B lb).filter (λp=>ok p.1)=la.flatMap λp=>zDl A B ok p (zFc A B lb p):=by
 unfold zBd zDl zFc prQP;rw[List.filter_flatMap]
variable {A B lb ok}
theorem zSv(p:Rw×(Nat×Option Nat))(l:List (Rw×(Nat×Option Nat)))(t:Nat)(h:t<l.length):zDl A B ok p (l.take (t+1))=zDl A B ok p (l.take t)++if ok (mg A p.1 B (l.getD t Ah).1)then[prQP A B p (l.getD t Ah)]else[]:=by
 unfold zDl;rw[BO h,List.map_append,BA,AF,AQ h];congr 1;simp only[List.map_cons,List.map_nil,BX,List.filter_nil,BT];rfl
theorem zNb(p:Rw×(Nat×Option Nat))(l:List (Rw×(Nat×Option Nat))):(zDl A B ok p l).length<=l.length:=by
 unfold zDl;exact Au (Bj _ _) (by simp)
theorem zNn(la:List (Rw×(Nat×Option Nat))):∀i,((la.take i).flatMap λp=>zDl A B ok p (zFc A B lb p)).length<=i*lb.length:=by
 induction la with
 |nil=>intro i;simp
 | cons p la ih=>
  intro i;cases i with
  |zero=>simp
  |succ i=>
   rw[List.take_succ_cons,BV,A1,Nat.succ_mul];have h1:=zNb (A:=A) (B:=B) (ok:=ok) p (zFc A B lb p);have h2:(zFc A B lb p).length<=lb.length:=Bj _ _
   have:=ih i
   omega
theorem zTf(la:List (Rw×(Nat×Option Nat)))(i:Nat)(h:i<la.length):(la.take (i+1)).flatMap (λp=>zDl A B ok p (zFc A B lb p))=(la.take i).flatMap (λp=>zDl A B ok p (zFc A B lb p))++zDl A B ok (la.getD i Ah) (zFc A B lb (la.getD i Ah)):=by
 rw[BO h,BK,AF,AQ h];simp
theorem pos_selP(hA:Asc A)(hB:Asc B)(p:Rw×(Nat×Option Nat)):(posL ((lb.map (·.1)).map λr=>zP r (zAu (λv=>(msk A&&&msk B).testBit v) B)) (zP p.1 (zAu (λv=>(msk A&&&msk B).testBit v) A))).map (λk=>lb.getD k Ah)=zFc A B lb p:=by
 have h:=zPm lb (λq=>zP q.1 (zAu (λv=>(msk A&&&msk B).testBit v) B)) (zP p.1 (zAu (λv=>(msk A&&&msk B).testBit v) A)) (λk hk=>by simp[AF,hk]);rw[Bf];refine Eq.trans h ?_;unfold zFc;refine Cd λq _=>?_;rw[BC,decide_eq_true_eq];exact zZm hA hB p.1 q.1
end
end
section
attribute [local irreducible] seqW awp zAe zAh zAb Weak updS zAs retL Pure Acts rP setP setQ cP nP fr
set_option maxRecDepth 4096
set_option maxRecDepth 4096
abbrev fB1P(a b c:D):Bk:=⟨[a,b,c],45,0,Ac,Ac, .plain⟩
set_option maxHeartbeats 1000000 in
theorem zJy(A:List Nat)(n:Nat)(hn:A.length=n)(hl:n<=1000)(hA:∀v∈A,v<32)(x y:List D)(k j:Nat):Pure Ar 100 [.agg [.row (nsD A) n, .row x k, .row y j]] [] (u32D (msk A)):=by
 subst hn;have hlt:∀i,msk (A.take i)<4294967296:=λi=>zA3 λv hv=>hA v (List.mem_of_mem_take hv);refine zH zBf mixed Tryz.func100 rfl<|zB<|zA rfl<|v0s<|veT<|zB<|zA rfl<|veT<|zB<|zB<|zA rfl<|ve (True/\0<3)<|zF<|zQ (λ(i:Nat)=>fr 19 [(2,Aq<|Ax Av (0:Int)),(3,u32D<|msk<|Al i A),(7,Ad (nsD A)<|Aa A),(8,iD (Aa A:Int)),(9,iD (i:Int))]) (λi=>[fB1P (.row (nsD A) A.length) (.row x k)<|.row y j]) (λi=>A.length-i) (λi=>i<=A.length) 0 ?_ ?_ ?_
 ·omega
 ·refine vk 1
 rintro i h1;have hi:=hlt i;rcases Aw i A.length with h2|h2
 ·have h3:=hA _ (zBv A i h2);have h4:=zK0 h3;have h5:=zH1 hi h4;refine zB<|zA rfl<|v0s<|veT<|zB<|vT ((i:Int)<(Aa A:Int))<|zJ<|zC<|zE<|zB<|zF<|zB<|zA rfl<|vr 1 (ix (i:Int) (Aa A:Int) (nsD A≠[])) ?_ ⟨(by omega),⟨(by omega),(by exact zX)⟩⟩;refine vp 11 (i) (nsD A)<|vr 1 (0<Aa (Ag i<|nsD A))<|vs 12 (Bx (Ag i<|nsD A) Uk) (iD (↑(Ap A i 0):Int)) (hd:=by simp(disch:=omega) only[zAi])<|veT<|zA rfl<|vr 3 ((0:Int)<=(↑(Ap A i 0):Int))<|vs 15 (Aq<|Ax Av<|AO Av ((1:Int)*(2:Int)^min (As (↑(Ap A i 0):Int)) 32)) (dig ((2:Nat)^Ap A i 0)) (hd:=by simp(disch:=omega) only[Az,zDu])<|vrT 1<|vs 16 (Aq<|Ax Av<|AO Av (↑(AP (Ay 32 (↑(msk<|Al i A):Int)|||Ay 32 (↑((2:Nat)^Ap A i 0):Int))):Int)) (dig (msk (Al i A)|||(2:Nat)^Ap A i 0)) (hd:=by simp(disch:=omega) only[zKu,zA1])<|vrT 1<|vnil<|zD<|zC<|zE<|zA rfl<|vr 2 (i6 ((i:Int)+(1:Int)))<|vnil<|zC<|⟨i+1,by omega,by omega,?_⟩;rw[zPs A i h2];refine vk 1
 refine zB<|zA rfl<|v0s<|veT<|zB<|vF ((i:Int)<(Aa A:Int))<|zT<|zM<|zM<|zR rfl<|zC<|zE<|zB<|zA rfl<|veT<|zK<|vre (True) (dig<|msk<|Al i A) (.inr rfl) ?_;rw[AK h2]
end
section
attribute [local irreducible] seqW awp zAe zAh zAb Weak updS zAs retL Pure Acts rP setP setQ cP nP fr
set_option maxRecDepth 4096
theorem less_cP(rows:List (List Va))(n:Nat)(x y:D)(hn:rows.length=n)(i j:Nat)(hi:i<n)(hj:j<n)(hl:∀r∈rows,r.length<=1000000):Pure Ar 146 [iD i,iD j, .ptr [x, .row (rows.map rowV) n,y]] [] (iD (zAf rows i j)):=by
 subst hn;have g:∀i,i<rows.length->(rows.getD i []).length<=1000000:=λi hi=>by
  rw[AF,AQ hi];exact hl _ (Bs hi)
 have g1:=g i hi;have g2:=g j hj;refine zH zHn mixed Tryz.func146 rfl<|zB<|zA rfl<|v0s<|veT<|zB<|vd [0,2,5,7,1,3,4,6,8,9,10,11]<|vr 6 (True/\True/\0<2/\ix (i:Int) (Aa rows:Int) (Af rowV rows≠[])) (vp 9 (i) (Af rowV rows)<|vr 1 (0<Aa (Ag i<|Af rowV rows))<|vs 10 (Bx (Ag i<|Af rowV rows) Uk) (rowV<|Ap rows i []) (hd:=by simp(disch:=omega) only[zY])<|vr 2 (0<2/\ix (j:Int) (Aa rows:Int) (Af rowV rows≠[])) (vp 14 (j) (Af rowV rows)<|vr 1 (0<Aa (Ag j<|Af rowV rows))<|vs 15 (Bx (Ag j<|Af rowV rows) Uk) (rowV<|Ap rows j []) (hd:=by simp(disch:=omega) only[zY]) ?_) ⟨(by omega),⟨(by omega),⟨(by omega),(by exact zX)⟩⟩⟩) ⟨trivial,trivial,(by omega),⟨(by omega),⟨(by omega),(by exact zX)⟩⟩⟩;refine vca [Ad (zN<|Ap rows i [])<|Aa<|Ap rows i [],Ad (zN<|Ap rows j [])<|Aa<|Ap rows j []] (by exact zD8 _ _ _ _ rfl rfl (by omega) (by omega))<|veT<|zK<|vret (True)<|.inr rfl
theorem zS7(b0 b1 b2:Bk)(c:List D):Acts Ar 178 [.osl 2 0 0 0 Ab, .val (.int .i64 0), .val (.int .i64 0), .clo (.func 146) [] [.own 0 0]] [b0,b1,b2] [] (.tup []) [b0,b1,b2]:=by
 refine zA8 zHn mixed Tryz.func178 rfl (zKs rfl)<|zB<|zA rfl<|v0s<|ve (i6 ((0:Int)+(1:Int)))<|zF<|zQ (λ(i:Nat)=>fr 53 [(0,Ai 2 0 0 0 Ab),(1,iD 0),(2,iD 0),(3,Bc (Fn.func (146:FuncId)) [] [Aj 0 0]),(8,iD 1)]) (λ(i:Nat)=>[b0,b1,b2]) (λ(i:Nat)=>0) (λ(i:Nat)=>True) 0 ?_ ?_ ?_
 ·trivial
 ·refine vk 3 ?_;exact zNk
 rintro i-
 refine zB<|zB<|zA rfl<|v0s<|veT<|vf<|zT<|zM<|zM<|zR rfl<|zBh (True) [] (.inl rfl) ?_;exact⟨by kernel_rfl,by kernel_rfl⟩
theorem pdq0P(b0 b1 b2:Bk)(c:List D)(lim:Int):Acts Ar 164 [.osl 2 0 0 0 Ab, .val (.int .i64 0), .val (.int .i64 0), .val (.int .i64 lim), .clo (.func 146) [] [.own 0 0]] [b0,b1,b2] [] (.tup []) [b0,b1,b2]:=by
 refine zA8 zHn mixed Tryz.func164 rfl (zKs rfl)<|zB<|zA rfl<|v0s<|veT<|zB<|zA rfl<|veT<|zF<|zQ (λ(i:Nat)=>fr 148 [(0,Ai 2 0 0 0 Ab),(1,iD 0),(2,iD 0),(3,iD lim),(4,Bc (Fn.func (146:FuncId)) [] [Aj 0 0]),(10,bD Ab),(11,bD Ab)]) (λ(i:Nat)=>[b0,b1,b2]) (λ(i:Nat)=>0) (λ(i:Nat)=>True) 0 ?_ ?_ ?_
 ·trivial
 ·refine vk 3 ?_;exact zNk
 rintro i-
 refine zF<|zB<|zA rfl<|v0s<|ve (i6 ((0:Int)-(0:Int)))<|zB<|zB<|zA rfl<|veT<|vt<|zB<|zA rfl<|vrT 4<|vnt [b0,b1,b2]<|zEw [] [] [Ai 2 0 0 0 Ab,iD 0,iD 0,Bc (Fn.func 146) [] [Aj 0 0]] [Ai 2 0 0 0 Ab,iD 0,iD 0,Bc (Fn.func 146) [] [Aj 0 0]] (LeL.refl _) (by exact zS7 _ _ _ []) ?_;refine v0s<|veT<|zK<|zG<|zL<|zG<|zL ?_;refine zBh (True) [] (.inr rfl) ?_;exact⟨by kernel_rfl,by kernel_rfl⟩
set_option maxHeartbeats 1000000 in
theorem zSj(A:List D)(a:Nat)(ys:List D)(m:Nat)(rows:List (List Va))(n:Nat)(b1:Bk)(hn:rows.length=n)(hb:n<=1000000)(hl:∀r∈rows,r.length<=1000000)(hd:rows.Nodup):Acts Ar 143 [.osl 2 0 n n Ab, .clo (.func 146) [] [.own 0 0]] [fB1P (.row A a) (.row (rows.map rowV) n) (.row ys m),b1,intB (nsD (AB n))] [] (.tup []) [⟨[.row A a, .row (rows.map rowV) n, .row ys m],45,0,Ac,if n=0 then Ac else Ab, .plain⟩,b1,intB (nsD (zBp (zAf rows) (AB n)))]:=by
 have hlim:BY n<4611686018427387904:=Nat.lt_of_le_of_lt (Lib.bitLen_le n 62 (by omega) (by omega)) (by omega);rcases Nat.eq_zero_or_pos n with h0|hpos
 ·subst h0;refine zA8 zHn mixed Tryz.func143 rfl (zKs rfl)<|zB<|zA rfl<|v0s<|veT<|zA rfl<|vr 4 (u6 (↑(0:Nat):Int))<|vc (zN0 0 (by omega))<|vrT 1<|vnt [fB1P (Ad A a) (Ad (Af rowV rows) 0)<|Ad ys m,b1,intB<|nsD<|AB 0]<|zEw [] [] [Ai 2 0 0 0 Ab,iD 0,iD (↑(0:Nat):Int),iD (↑(0:Nat):Int),Bc (Fn.func 146) [] [Aj 0 0]] [Ai 2 0 0 0 Ab,iD 0,iD (↑(0:Nat):Int),iD (↑(0:Nat):Int),Bc (Fn.func 146) [] [Aj 0 0]] (LeL.refl _) (by exact pdq0P _ _ _ [] _) ?_;refine vnil<|zBh (True) [] (.inl rfl) ?_;exact⟨rfl,by simp[zBp]⟩
 have ho:=zPf hd;rw[hn]at ho;have hp:=zPo (st:=[fB1P (.row A a) (.row (rows.map rowV) n) (.row ys m),b1,intB (nsD (AB n))]) (k:=2) (lim:=BY n) (wh:=Ab) (cf:=zAf rows) (g:=146) (caps:=[.own 0 0]) (caps':=[.ptr [.row A a, .row (rows.map rowV) n, .row ys m]]) (ks:=[0]) rfl rfl rfl rfl rfl (by simp) hb hpos hlim rfl (by decide) (enters_of Tryz.func146 (by kernel_rfl) rfl) ho
  (λx hx y hy=>less_cP rows n _ _ hn x y (by simpa using hx) (by simpa using hy) hl)
 refine zA8 zHn mixed Tryz.func143 rfl (zKs rfl)<|zB<|zA rfl<|v0s<|veT<|zA rfl<|vr 4 (u6 (n:Int))<|vc (zN0 n (by omega))<|vrT 1<|vnt [fB1P (Ad A a) (Ad (Af rowV rows) n)<|Ad ys m,b1,intB<|nsD<|AB n]<|zEw [] [] [Ai 2 0 n n Ab,iD 0,iD (n:Int),iD (↑(BY n):Int),Bc (Fn.func 146) [] [Aj 0 0]] [Ai 2 0 n n Ab,iD 0,iD (n:Int),iD (↑(BY n):Int),Bc (Fn.func 146) [] [Aj 0 0]] (LeL.refl _) (by exact hp) ?_;refine vnil<|zBh (True) [] (.inl rfl) ?_;refine⟨rfl,?_⟩;first|(rw[if_neg (by omega)];done)|(rw[if_neg (by omega)];rfl)
abbrev zEe(l:List D):Bk:=⟨l,56,3,Ab,Ac, .plain⟩
set_option maxHeartbeats 2000000 in
theorem sortedWP(A:List Nat)(a:Nat)(rows:List (List Va))(vals:List (Nat×Option Nat))(n:Nat)(hn:rows.length=n)(hm:vals.length=n)(hb:n<=1000000)(hl:∀r∈rows,r.length<=1000000)(hd:rows.Nodup):
  Pure Ar 104 [.agg [.row (nsD A) a, .row (rows.map rowV) n, .row (vals.flatMap cpD) n]] [] (.agg [.row (nsD A) a, .row (((zBp (zAf rows) (AB n)).map λi=>rows.getD i []).map rowV) n, .row (((zBp (zAf rows) (AB n)).map λi=>vals.getD i Ah).flatMap cpD) n]):=by
 have hs:=zSj (nsD A) a (vals.flatMap cpD) n rows n (fB1P nl nl nl) hn hb hl hd;refine zH zQg mixed Tryz.func104 rfl<|zB<|zA rfl<|v0s<|veT<|zB<|zA rfl<|vr 5 (True/\0<2/\(0:Int)<=(n:Int)/\(n:Int)<=(n:Int)/\(↑(8:Nat):Int)*(n:Int)<=(281474976710656:Int)/\(n:Int)<=(281474976710656:Int)/\0<1/\1=1)<|vs 3 (Ai 2 0 (As (n:Int)) (As (n:Int)*1) Ab) (Ai 2 0 n n Ab) (hd:=by simp(disch:=omega) only[Az,Bm])<|veT<|zB<|zB<|zA rfl<|veT<|zF<|zA2 (λ(i:Nat)(c:List Nat)=>fr 56 [(1,Aj 0 0),(2,Aj 1 0),(3,Ai 2 0 n n Ab),(13,iD (n:Int)),(14,iD (i:Int))]) (λ(i:Nat)(c:List Nat)=>[fB1P (.row (nsD A) a) (.row (rows.map rowV) n)<|.row (vals.flatMap cpD) n,fB1P nl nl nl,intB<|nsD c]) (λi c=>n-i) (λ(i:Nat)(c:List Nat)=>i<=n/\c.length=n/\c.take i=(AB n).take i) 0 (List.replicate n 0) ?_ ?_ ?_
 ·exact⟨by omega,by simp,by simp⟩
 ·refine wkn (fr 56 [(1,Aj 0 0),(2,Aj 1 0),(3,Ai 2 0 n n Ab),(13,iD (↑n:Int)),(14,iD 0)]) [Ao [Ad (nsD A) a,Ad (Af rowV rows) n,Ad (Ae cpD vals) n] 45 0 Ac Ac Am,Ao [nl,nl,nl] 45 0 Ac Ac Am,Ao (repL n [iD 0]) 3 1 Ab Ac (kdOf Ac)] (zKw [(1,1),(2,1),(3,1),(13,1),(14,1)] (Aj 0 0=Aj 0 0/\Aj 1 0=Aj 1 0/\Ai 2 0 n n Ab=Ai 2 0 n n Ab/\iD (↑n:Int)=iD (↑n:Int)/\iD 0=iD (↑(0:Nat):Int)) 3 [] (by kernel_rfl) ⟨rfl,rfl,rfl,rfl,(by kernel_rfl)⟩ (by kernel_rfl) (λ_ _=>rfl) (by simp[updB,zSp,zGu]))
 rintro i c ⟨h1,h2,h3⟩;rcases Aw i n with h4|h4
 ·refine zB<|zA rfl<|v0s<|veT<|zB<|vT ((i:Int)<(n:Int))<|zJ<|zC<|zE<|zB<|zF<|zB<|zA rfl<|veT<|zA rfl<|vr 4 ((0:Int)<=(i:Int)/\(i:Int)<(n:Int))<|vo 20 2 (i)<|vr 1 (A7 (intB<|nsD c)=Ac/\Ab=Ab/\1=1/\i+1<=Aa (AI<|intB<|nsD c)/\¬2∈[])<|vnil<|zD<|zC<|zE<|zA rfl<|vr 2 (i6 ((i:Int)+(1:Int)))<|vnil<|zC<|⟨i+1,c.set i i,⟨by omega,by simpa using h2,?_⟩,by omega,?_⟩
  ·have:=zKz 0 (a:=c) (b:=AB n) (i:=i) (by omega) (by simpa using h4) h3
   rwa[show(AB n).getD i 0=i by simp[AF,h4]]at this
  rw[<-zYh];refine vk 3
 have e:c=AB n:=by
  have e1:i=n:=by omega
  rw[e1,AK (by omega),AK (by simp)]at h3;exact h3
 subst e;refine zB<|zA rfl<|v0s<|veT<|zB<|vF ((i:Int)<(n:Int))<|zT<|zM<|zM<|zR rfl<|zC<|zE<|zB<|zA rfl<|vrT 2<|vnt [fB1P (Ad (nsD A) a) (Ad (Af rowV rows) n)<|Ad (Ae cpD vals) n,fB1P nl nl nl,intB<|nsD<|AB n]<|zEw [] [] [Ai 2 0 n n Ab,Bc (Fn.func 146) [] [Aj 0 0]] [Ai 2 0 n n Ab,Bc (Fn.func 146) [] [Aj 0 0]] (LeL.refl _) (by exact hs) ?_;refine v0s<|veT<|zB<|zA rfl<|vr 5 (True/\0<3/\((1=1/\1<=3/\True)/\Ab=Ab)/\Ac=Ac/\Ab=Ab/\3=3/\3<=3)<|vnil<|zC<|vnn (fr 56 [(1,Aj 0 0),(2,Aj 1 0),(3,Ai 2 0 n n Ab),(5,Aj 3 0),(25,Aj 0 0),(26,Ad (nsD A) a),(27,Ak [Ad (nsD A) a,nl,nl])]) [Ao [Ad (nsD A) a,Ad (Af rowV rows) n,Ad (Ae cpD vals) n] 45 0 Ac (if n=0 then Ac else Ab) Am,Ao [nl,nl,nl] 45 0 Ac Ac Am,Ao (nsD<|zBp (zAf rows)<|AB n) 3 1 Ab Ac Am,Ao [Ad (nsD A) a,nl,nl] 45 0 Ac Ac Am]<|zAw ((Bp (j:=3) (i:=1) (rowB []) rfl rfl rfl rfl).trans<|Bp (j:=3) (i:=2) (zEe []) rfl rfl rfl rfl) ?_;refine zB<|zB<|zA rfl<|v0s<|veT<|zF ?_;have hol:(zBp (zAf rows) (AB n)).length=n:=by rw[(zA5 _ _).length_eq];simp
 have hom:∀i∈zBp (zAf rows) (AB n),i<n:=λi h=>by
  have:=(zA5 _ _).mem_iff.1 h
  simpa using this
 generalize zBp (zAf rows) (AB n)=od at*;refine zQ (λ(t:Nat)=>fr 56 [(1,Aj 0 0),(2,Aj 1 0),(5,Aj 3 0),(28,Ai 2 0 n n Ab),(29,iD (n:Int)),(30,iD (t:Int))]) (λ(t:Nat)=>[⟨[.row (nsD A) a,.row (rows.map rowV) n,.row (vals.flatMap cpD) n],45,0,Ac,if n=0 then Ac else Ab,.plain⟩,fB1P nl nl nl,intB<|nsD od,fB1P (.row (nsD A) a) (.osl 4 0 t t Ab)<|.osl 5 0 t (t*3) Ab,rowB<|((od.take t).map λi=>rows.getD i []).map rowV,zEe<|((od.take t).map λi=>vals.getD i Ah).flatMap cpD]) (λt=>n-t) (λ(t:Nat)=>t<=n) 0 ?_ ?_ ?_
 ·omega
 ·refine vk 6
 rintro t h5;rcases Aw t n with h6|h6
 ·have hi:=hom _ (zBv od t (by omega));have e0:od.take (t+1)=od.take t++[od.getD t 0]:=by
   rw[BO (by omega),AF,AQ (by omega)];rfl
  have e1:((od.take (t+1)).map λi=>rows.getD i []).map rowV=((od.take t).map λi=>rows.getD i []).map rowV++[rowV (rows.getD (od.getD t 0) [])]:=by rw[e0];simp
  have e2:((od.take (t+1)).map λi=>vals.getD i Ah).flatMap cpD=((od.take t).map λi=>vals.getD i Ah).flatMap cpD++cpD (vals.getD (od.getD t 0) Ah):=by rw[e0];simp
  have hvg:=zA9 zAt vals _ (show od.getD t 0<vals.length by omega);have hvl:=zB5 zAt vals _ (show od.getD t 0<vals.length by omega);have hvn:=zCb zAt (by decide) vals;have hln:(((od.take t).map λi=>vals.getD i Ah).flatMap cpD).length=t*3:=by rw[zCc zAt];simp;omega
  have hv1:=zAt (vals.getD (od.getD t 0) Ah);focus
   refine zB<|zA rfl<|v0s<|veT<|zB<|vT ((t:Int)<(n:Int))<|zJ<|zC<|zE<|zB<|zF<|zB<|zA rfl<|vr 1 ((0:Int)<=(t:Int)/\(t:Int)<(n:Int))<|vo 32 2 (t)<|vr 1 (0<Aa (Ag t<|AI<|intB<|nsD od))<|vs 33 (Bx (Ag t<|AI<|intB<|nsD od) Uk) (iD (↑(Ap od t 0):Int)) (hd:=by simp(disch:=omega) only[zAi])<|veT<|zB<|vd [0,2,4,1,3,5,6,7,8,9,10]<|vr 6 (True/\True/\0<2/\0<2/\ix (↑(Ap od t 0):Int) (n:Int) (Af rowV rows≠[])) (vp 39 (Ap od t 0) (Af rowV rows) ?_) ⟨trivial,trivial,(by omega),(by omega),⟨(by omega),⟨(by omega),(by exact zX)⟩⟩⟩;refine vwh 1 [] [] (0<Aa (Ag (Ap od t 0)<|Af rowV rows)) ?_ ?_;rotate_left;refine vs 40 (Bx (Ag (Ap od t 0)<|Af rowV rows) Uk) (rowV<|Ap rows (Ap od t 0) []) (hd:=by simp(disch:=omega) only[zY])<|vr 4 (((1=1/\1<=1/\True)/\0<1/\1=1/\1<=16777216/\1<=9223372036854775807)/\(A0 (rowB<|Af rowV<|Af (λ(i:Nat)=>Ap rows i [])<|Al t od)=Ab/\Aa (AI<|rowB<|Af rowV<|Af (λ(i:Nat)=>Ap rows i [])<|Al t od)=t*1/\t=t*1/\AS (rowB<|Af rowV<|Af (λ(i:Nat)=>Ap rows i [])<|Al t od)=110/\AT (rowB<|Af rowV<|Af (λ(i:Nat)=>Ap rows i [])<|Al t od)=1/\1=1/\0<1/\0<24/\110=110/\(t+1)*24<=140737488355328/\1=1/\AU (AA<|rowB<|Af rowV<|Af (λ(i:Nat)=>Ap rows i [])<|Al t od)=Ac/\(Ac=Ac\/AV (AA<|rowB<|Af rowV<|Af (λ(i:Nat)=>Ap rows i [])<|Al t od)=Ab))/\True/\A7 (Ao [Ad (nsD A) a,Uk,Ai 5 0 t (t*3) Ab] 45 0 Ac Ac Am)=Ac/\Ab=Ab/\1=1/\2<=3)<|vb 3 (Ao [Ad (nsD A) a,Ai 4 0 (t+1) ((t+1)*1) Ab,Ai 5 0 t (t*3) Ab] (AS<|Ao [Ad (nsD A) a,Uk,Ai 5 0 t (t*3) Ab] 45 0 Ac Ac Am) (AT<|Ao [Ad (nsD A) a,Uk,Ai 5 0 t (t*3) Ab] 45 0 Ac Ac Am) Ac Ac<|AA<|Ao [Ad (nsD A) a,Uk,Ai 5 0 t (t*3) Ab] 45 0 Ac Ac Am) (Ao [Ad (nsD A) a,Ai 4 0 (t+1) (t+1) Ab,Ai 5 0 t (t*3) Ab] 45 0 Ac Ac Am) (hd:=by simp(disch:=omega) only[Bm])<|veT<|vd [0,2,4,1,3,5,6,7,8,9,10]<|vr 7 (True/\True/\0<1/\0<1/\ix (↑(Ap od t 0):Int) (n:Int) (Ae cpD vals≠[])/\3<=Aa (Ag (Ap od t 0*3)<|Ae cpD vals))<|vs 50 (Ak<|Al 3<|Ag (Ap od t 0*3)<|Ae cpD vals) (Ak<|cpD<|Ap vals (Ap od t 0) Ah) (hd:=by simp(disch:=omega) only[hvg])<|vr 4 (((3=3/\3<=3/\True)/\0<3/\3=3/\3<=16777216/\1<=9223372036854775807)/\(A0 (Ao (Ae cpD<|Af (λ(i:Nat)=>Ap vals i Ah)<|Al t od) 56 3 Ab Ac Am)=Ab/\Aa (Ae cpD<|Af (λ(i:Nat)=>Ap vals i Ah)<|Al t od)=t*3/\t*3=t*3/\AS (Ao (Ae cpD<|Af (λ(i:Nat)=>Ap vals i Ah)<|Al t od) 56 3 Ab Ac Am)=56/\AT (Ao (Ae cpD<|Af (λ(i:Nat)=>Ap vals i Ah)<|Al t od) 56 3 Ab Ac Am)=3/\3=3/\0<3/\0<56/\56=56/\(t+1)*56<=140737488355328/\3=3/\AU (AA<|Ao (Ae cpD<|Af (λ(i:Nat)=>Ap vals i Ah)<|Al t od) 56 3 Ab Ac Am)=Ac/\(Ac=Ac\/AV (AA<|Ao (Ae cpD<|Af (λ(i:Nat)=>Ap vals i Ah)<|Al t od) 56 3 Ab Ac Am)=Ab))/\True/\A7 (Ao [Ad (nsD A) a,Ai 4 0 (t+1) (t+1) Ab,Uk] 45 0 Ac Ac Am)=Ac/\Ab=Ab/\1=1/\3<=3)<|vnil<|zD<|zC<|zE<|zA rfl<|vr 2 (i6 ((t:Int)+(1:Int)))<|vnil<|zC ?_;rotate_left
  ·rw[A5,AR];omega
  refine⟨t+1,by omega,by omega,?_⟩;rw[e1,e2];refine vk 6
 refine zB<|zA rfl<|v0s<|veT<|zB<|vF ((t:Int)<(n:Int))<|zT<|zM<|zM<|zR rfl<|zC<|zE<|zB<|zA rfl<|ve (3<=3/\Ac=Ac/\Ab=Ab/\3=3/\3<=3)<|zK<|zBr (3<=3) (Ak [Ad (nsD A) a,Ad (Al t<|Ag 0<|AI<|rowB<|Af rowV<|Af (λ(i:Nat)=>Ap rows i [])<|Al t od) t,Ad (Al (t*3)<|Ag 0<|AI<|zEe<|Ae cpD<|Af (λ(i:Nat)=>Ap vals i Ah)<|Al t od) t]) (Ak [Ad (nsD A) a,Ad (Al t<|Af rowV<|Af (λ(i:Nat)=>Ap rows i [])<|Al t od) t,Ad (Al (t*3)<|Ae cpD<|Af (λ(i:Nat)=>Ap vals i Ah)<|Al t od) t]) (.inr rfl) (by simp(disch:=omega) only[AM]) ?_ (hc:=by omega);have e:t=n:=by omega
 subst e;rw[AK (by omega:od.length<=t),AK (by simp[hol]),zBs zAt _ t (by simp[hol])]
abbrev zAk(l:List (Rw×(Nat×Option Nat))):List D:=(l.map (·.1)).map rowV
abbrev zAp(l:List (Rw×(Nat×Option Nat))):List D:=(l.map (·.2)).flatMap cpD
abbrev fcDP(A:List Nat)(l:List (Rw×(Nat×Option Nat))):D:= .agg [.row (nsD A) A.length, .row (zAk l) l.length, .row (zAp l) l.length]
theorem zQs(A:List Nat)(l:List (Rw×(Nat×Option Nat)))(hb:l.length<=1000000)(hl:∀p∈l,p.1.length<=1000000)(hd:Ndk l):Pure Ar 104 [fcDP A l] [] (fcDP A (srtL l)):=by
 have h:=sortedWP A A.length (l.map (·.1)) (l.map (·.2)) l.length (by simp) (by simp) hb (λr hr=>by
  obtain⟨p,hp,rfl⟩:=AE.1 hr;exact hl p hp) (show(l.map (·.1)).Nodup from hd)
 have hi:∀i∈zBp (zAf (l.map (·.1))) (AB l.length),i<l.length:=λi h=>by
  have:=(zA5 _ _).mem_iff.1 h
  simpa using this
 have e1:(zBp (zAf (l.map (·.1))) (AB l.length)).map (λi=>(l.map (·.1)).getD i [])=(srtL l).map (·.1):=by
  rw[<-zCn hd,Bf];refine BG λi hh=>?_;simp[AF,hi i hh]
 have e2:(zBp (zAf (l.map (·.1))) (AB l.length)).map (λi=>(l.map (·.2)).getD i Ah)=(srtL l).map (·.2):=by
  rw[<-zCn hd,Bf];refine BG λi hh=>?_;simp[AF,hi i hh]
 rw[e1,e2]at h;have e3:=zPa hd;show Pure Ar _ _ [] (.agg [.row (nsD A) A.length, .row (zAk (srtL l)) (srtL l).length, .row (zAp (srtL l)) (srtL l).length]);rw[e3];exact h
set_option maxHeartbeats 1000000 in
theorem zTh(A U:List Nat)(a u nv:Nat)(ha:A.length=a)(hu:U.length=u)(la:a<=32)(lu:u<=32)(hA:∀v∈A,v<32)(hU:∀v∈U,v<32)(rows:List (List Va))(n:Nat)(hn:rows.length=n)(ln:n<=1000000)(hr:∀r∈rows,r.length=a)(hv:∀r∈rows,∀v∈r,Vs v)(y:List D)(m:Nat)(hm:m<4294967296):
  Pure Ar 103 [.agg [.row (nsD A) a, .row (rows.map rowV) n, .row y nv], .row (nsD U) u,u32D m] [] (.agg (flC (zAu (λv=>(msk A&&&m).testBit v) U,allK (rows.map λr=>zP r (zAu (λv=>(msk A&&&m).testBit v) A))))):=by
 subst hn ha hu;have hma:=zA3 hA;have h1:=zJy A _ rfl (by omega) hA (rows.map rowV) y rows.length nv;have h5:=zMt (b:=m) hma;have h2:=zB0 U U _ rfl hU _ h5;have h3:=zB0 A A _ rfl hA _ h5;refine zH zBf mixed Tryz.func103 rfl<|zB<|zA rfl<|v0s<|veT<|zB<|zA rfl<|vr 1 (3<=3)<|vc (h1)<|vrT 2<|vs 15 (Aq<|Ax Av<|AO Av (↑(AP (Ay 32 (↑(msk A):Int)&&&Ay 32 (m:Int))):Int)) (dig (msk A&&&m)) (hd:=by simp(disch:=omega) only[zNy,zA1])<|veT<|zB<|zA rfl<|vrT 2<|vc (h2)<|ve (True/\((1=1/\1<=2/\1=1/\2<=2/\True)/\Ab=Ab)/\Ac=Ac/\Ab=Ab/\2=2/\2<=2)<|zB<|zA rfl<|vr 3 (True/\0<3)<|vc (h3)<|veT<|zB<|zB<|zA rfl<|ve (True/\0<2)<|zF ?_;obtain⟨cA,hcA⟩:∃cA,cA=zAu (λv=>(msk A&&&m).testBit v) A:=⟨_,rfl⟩;obtain⟨cU,hcU⟩:∃cU,cU=zAu (λv=>(msk A&&&m).testBit v) U:=⟨_,rfl⟩;have hcl:∀c∈cA,c<A.length:=λc h=>by
  rw[hcA]at h;simpa using(A2.1 h).1
 have hcn:cA.length<=1000:=by rw[hcA];exact Au (Bj _ _) (by simp;omega)
 rw[<-hcA,<-hcU];refine zQ (λ(i:Nat)=>fr 39 [(6,Aj 1 0),(8,Aj 3 0),(9,Ad (nsD cA)<|Aa cA),(26,Ad (Af rowV rows)<|Aa rows),(27,iD (Aa rows:Int)),(28,iD (i:Int))]) (λi=>[fB1P (.row (nsD A) A.length) (.row (rows.map rowV) rows.length)<|.row y nv,flB1 nl<|.val<|.map AH,mapB<|allK<|(rows.map λr=>zP r cA).take i,flB1 (.row (nsD cU) cU.length)<|.mref 2]) (λi=>rows.length-i) (λi=>i<=rows.length) 0 ?_ ?_ ?_
 ·omega
 ·refine vk 4
 rintro i h6;rcases Aw i rows.length with h7|h7
 ·have hd:((rows.map rowV).drop i).headD .unk=rowV (rows.getD i []):=zEi rowV rows [] i h7;have hm:rows.getD i []∈rows:=by rw[AF,AQ h7];exact Bs h7
  have hk:=zJw (rows.getD i []) cA _ _ rfl rfl (by rw[hr _ hm];exact hcl) (hv _ hm) (ln:=by rw[hr _ hm];omega);have hs:=zMw (rows.map λr=>zP r cA) i (by simpa using h7);rw[show(rows.map λr=>zP r cA).getD i []=zP (rows.getD i []) cA by simp[AF,h7]]at hs;generalize allK ((rows.map λr=>zP r cA).take i)=K at*;focus
   refine zB (zA rfl (v0s (veT (zB (vT ((i:Int)<(Aa rows:Int)) (zJ (zC (zE (zB (zF (zB (zA rfl (vr 1 (ix (i:Int) (Aa rows:Int) (Af rowV rows≠[])) ?_ ⟨(by omega),⟨(by omega),(by exact zX)⟩⟩)))))))))))));refine vp 30 (i) (Af rowV rows) (vr 1 (0<Aa (Ag i (Af rowV rows))) (vsh 31 hd (veT (vd [0,2,3,1,4,5] (vr 4 (True/\0<1) (vc (hk) (vwh 1 [] [] (A7 (mapB K)=Ac/\zS (Bg (Bh Bi "string" 1 16 Ab 8 8 (An (AJ (Bd #[]))) Ab #[])) (AJ (bs (idR (zP (Ap rows i []) cA))))=Ab/\BP (Af kyv K) (zS (Bg (Bh Bi "string" 1 16 Ab 8 8 (An (AJ (Bd #[]))) Ab #[])))=Ab/\¬2∈[]) ?_ ?_)))))));rotate_left;refine vnil (zD (zC (zE (zA rfl (vr 2 (i6 ((i:Int)+(1:Int))) (vnil (zC ?_)))))));rotate_left
  ·exact⟨rfl,rfl,zBt _,by simp⟩
  refine⟨i+1,by omega,by omega,?_⟩;rw[hs];have hmp:=zZa K (zP (rows.getD i []) cA);refine wkn (fr 39 [(6,Aj 1 0),(8,Aj 3 0),(9,Ad (nsD cA) (Aa cA)),(11,Ad (zN (Ap rows i [])) (Aa (Ap rows i []))),(26,Ad (Af rowV rows) (Aa rows)),(27,iD (Aa rows:Int)),(28,iD (↑(i+1):Int)),(32,Aj 3 1),(33,By 2),(34,Ad (zN (Ap rows i [])) (Aa (Ap rows i []))),(35,Ad (nsD cA) (Aa cA)),(36,Aq (AJ (bs (idR (zP (Ap rows i []) cA))))),(37,iD (↑(i+1):Int))]) [fB1P (Ad (nsD A) (Aa A)) (Ad (Af rowV rows) (Aa rows)) (Ad y nv),flB1 nl (Aq (Value.map AH)),mput (mapB K) (Af kyv K) (AJ (bs (idR (zP (Ap rows i []) cA)))) (bD Ab),flB1 (Ad (nsD cU) (Aa cU)) (By 2)] ?_;rw[hmp];refine vk 4
 refine zB<|zA rfl<|v0s<|veT<|zB<|vF ((i:Int)<(Aa rows:Int))<|zT<|zM<|zM<|zR rfl<|zC<|zE<|zB<|zA rfl<|ve (2<=2/\Ac=Ac/\Ab=Ab/\2=2/\2<=2)<|zK<|vre (2<=2) (Ak [Ad (nsD cU)<|Aa cU,D.mfz (Af kyv<|allK<|Al i<|Af (λ(r:List Va)=>zP r cA) rows)<|Af (λ(x:List Va)=>bD Ab)<|allK<|Al i<|Af (λ(r:List Va)=>zP r cA) rows]) (.inr rfl) ?_;rw[AK (by simp;omega)]
abbrev fcCP(f:FnP):List D:=[.row (nsD f.1) f.1.length, .row (zAk f.2) f.2.length, .row (zAp f.2) f.2.length]
theorem zP1(f:FnP):(fcCP f).length=3:=rfl
structure FVP(f:FnP):Prop where
 asc:Asc f.1
 len:∀p∈f.2,p.1.length=f.1.length
 vs:∀p∈f.2,∀x∈p.1,Vs x
 sz:f.2.length<=1000000
 sm:∀p∈f.2,okP p.2
 nd:Ndk f.2
theorem zZx(l:List (Rw×(Nat×Option Nat))){k:Nat}(h:k<l.length):(l.map (·.1)).getD k []=(l.getD k Ah).1:=by simp[AF,h]
theorem zZv(l:List (Rw×(Nat×Option Nat))){k:Nat}(h:k<l.length):(l.map (·.2)).getD k Ah=(l.getD k Ah).2:=by simp[AF,h]
set_option maxHeartbeats 8000000 in
theorem zSz(f g:FnP)(os:List FnP)(hf:FVP f)(hg:FVP g)(ho:∀o∈os,FVP o)(hl:os.length<=1000)(hsz:f.2.length*g.2.length<=1000000):
  Pure Ar 57 [prdD,fcDP f.1 f.2,fcDP g.1 g.2, .row (os.flatMap fcCP) os.length] [] (fcDP (un f.1 g.1) (srtL ((zBd Sp.mul f.1 f.2 g.1 g.2).filter λp=>os.all λo=>okO (un f.1 g.1) p.1 (faNP o)))):=by
 obtain⟨A,la⟩:=f;obtain⟨B,lb⟩:=g;obtain⟨hA,al,av,as',am,nda⟩:=hf;obtain⟨hB,bl,bv,bs',bm,ndb⟩:=hg;simp only at hA al av as' am nda hB bl bv bs' bm ndb hsz⊢;have nA:=zBc hA;have nB:=zBc hB;have hmA:=zA3 hA.2;have hmB:=zA3 hB.2;have hmo:=zH1 hmA hmB;have hma:=zMt (b:=msk B) hmA;have sA:=zJy A _ rfl (by omega) hA.2 (zAk la) (zAp la) la.length la.length;have sB:=zJy B _ rfl (by omega) hB.2 (zAk lb) (zAp lb) lb.length lb.length;have hU:=zQm A B;have hmu:=zY7 hA.2 hB.2;have hmem:=zE0 (msk A|||msk B) hmo;rw[hmu,zEf hU]at hmem;have nU:=zBc hU;rw[hmu]at hmo;have cA:=zB0 A A _ rfl hA.2 (msk A&&&msk B) hma;have cB:=zB0 B B _ rfl hB.2 (msk A&&&msk B) hma;obtain⟨U,eU⟩:∃U,U=un A B:=⟨_,rfl⟩;rw[<-eU]at hU hmu hmem nU hmo⊢;refine zH (T:=Tm) Tm_ok mixed Tryz.func57 rfl<|zB<|zA rfl<|v0s<|veT<|zB<|vd [0,1,2,3,4,5]<|vr 1 (3<=3)<|vc (sA)<|vr 1 (3<=3)<|vc (sB)<|vrT 1<|vs 30 (Aq<|Ax Av<|AO Av (↑(AP (Ay 32 (↑(msk A):Int)|||Ay 32 (↑(msk B):Int))):Int)) (dig<|msk U) (hd:=by simp(disch:=omega) only[zKu,zA1,hmu])<|veT<|zB<|zA rfl<|vrT 1<|vc (hmem)<|ve (((1=1/\1<=3/\True)/\Ab=Ab)/\Ac=Ac/\Ab=Ab/\3=3/\3<=3)<|zB<|zA rfl<|veT<|zB<|zB<|zA rfl<|veT<|zF<|zQ (λ(i:Nat)=>fr 147 [(0,prdD),(5,Aj 0 0),(6,Aj 1 0),(8,Aj 2 0),(9,dig<|msk U),(10,Aj 3 0),(11,Ai 4 0 i (i*2) Ab),(34,Ad (Ae fcCP os)<|Aa os),(35,iD (Aa os:Int)),(36,iD (i:Int))]) (λ(i:Nat)=>[fB1P (.row (nsD A) A.length) (.row (zAk la) la.length)<|.row (zAp la) la.length,fB1P (.row (nsD B) B.length) (.row (zAk lb) lb.length)<|.row (zAp lb) lb.length,fB1P nl nl nl,fB1P (.row (nsD U) U.length) nl nl,fltB<|((os.take i).map (zDn U)).flatMap flC]) (λi=>os.length-i) (λ(i:Nat)=>i<=os.length) 0 ?_ ?_ ?_
 ·omega
 ·refine vk 4
 rintro i h1;rcases Aw i os.length with h2|h2
 ·have hom:os.getD i Ah∈os:=by rw[AF,AQ h2];exact Bs h2
  obtain⟨hO,ol,ov,os2,_,_⟩:=ho _ hom;have hg2:=zA9 zP1 os i h2;have hle:=zB5 zP1 os i h2;have hne:=zCb zP1 (by decide) os;have he:((os.take (i+1)).map (zDn U)).flatMap flC=((os.take i).map (zDn U)).flatMap flC++flC (zDn U (os.getD i Ah)):=by
   rw[zBl os i h2];simp
  have hlb:(((os.take i).map (zDn U)).flatMap flC).length=i*2:=by rw[zCc zFq];simp;omega
  have nO:=zBc hO;generalize os.getD i Ah=o at*;have hfo:=zTh o.1 U _ _ o.2.length rfl rfl nO nU hO.2 hU.2 (o.2.map (·.1)) _ (by simp) os2 (λr hr=>by
   obtain⟨p,hp,rfl⟩:=AE.1 hr;exact ol p hp) (λr hr=>by
   obtain⟨p,hp,rfl⟩:=AE.1 hr;exact ov p hp) (zAp o.2) (msk U) hmo
  refine zB<|zA rfl<|v0s<|veT<|zB<|vT ((i:Int)<(Aa os:Int))<|zJ<|zC<|zE<|zB<|zF<|zB<|zA rfl<|vr 2 (ix (i:Int) (Aa os:Int) (Ae fcCP os≠[])/\3<=Aa (Ag (i*3)<|Ae fcCP os))<|vs 39 (Ak<|Al 3<|Ag (i*3)<|Ae fcCP os) (Ak<|fcCP o) (hd:=by simp(disch:=omega) only[hg2])<|ve (Ac=Ac/\Ab=Ab/\3=3/\3<=3)<|zA rfl<|vr 5 (3<=3/\True/\0<3)<|vc (hfo)<|vr 3 (((2=2/\2<=2/\True)/\0<2/\2=2/\2<=16777216/\1<=9223372036854775807)/\A0 (fltB<|Ae flC<|Af (zDn U)<|Al i os)=Ab/\Aa (AI<|fltB<|Ae flC<|Af (zDn U)<|Al i os)=i*2/\i*2=i*2/\AS (fltB<|Ae flC<|Af (zDn U)<|Al i os)=203/\AT (fltB<|Ae flC<|Af (zDn U)<|Al i os)=2/\2=2/\0<2/\0<32/\203=203/\(i+1)*32<=140737488355328/\2=2/\AU (AA<|fltB<|Ae flC<|Af (zDn U)<|Al i os)=Ac/\(Ac=Ac\/AV (AA<|fltB<|Ae flC<|Af (zDn U)<|Al i os)=Ab))<|vnil<|zD<|zC<|zE<|zA rfl<|vr 2 (i6 ((i:Int)+(1:Int)))<|vnil<|zC<|⟨i+1,by omega,by omega,?_⟩;rw[he];refine vk 5
 rw[AK h2];obtain rfl:i=os.length:=by omega
 obtain⟨c1,ec1⟩:∃c,c=zAu (λv=>(msk A&&&msk B).testBit v) A:=⟨_,rfl⟩;obtain⟨c2,ec2⟩:∃c,c=zAu (λv=>(msk A&&&msk B).testBit v) B:=⟨_,rfl⟩;rw[<-ec1]at cA;rw[<-ec2]at cB;have hl1:∀c∈c1,c<A.length:=λc h=>by rw[ec1]at h;exact(zDf.1 h).1
 have hl2:∀c∈c2,c<B.length:=λc h=>by rw[ec2]at h;exact(zDf.1 h).1
 have hn1:c1.length<=32:=by rw[ec1];exact Au (zD7 _ _) nA
 have hn2:c2.length<=32:=by rw[ec2];exact Au (zD7 _ _) nB
 refine zB<|zA rfl<|v0s<|veT<|zB<|vF ((Aa os:Int)<(Aa os:Int))<|zT<|zM<|zM<|zR rfl<|zC<|zE<|zB<|vd [0,1,2,3,4,5]<|vr 1 (3<=3)<|vc (sA)<|vr 1 (3<=3)<|vc (sB)<|vrT 1<|vs 53 (Aq<|Ax Av<|AO Av (↑(AP (Ay 32 (↑(msk A):Int)&&&Ay 32 (↑(msk B):Int))):Int)) (dig (msk A&&&msk B)) (hd:=by simp(disch:=omega) only[zNy,zA1])<|veT<|zB<|vd [0,2,4,6,1,3,5,7,8,9]<|vr 5 (True/\True/\0<3)<|vc (cA)<|vr 1 (0<3)<|vc (cB)<|veT<|zB<|zA rfl<|veT<|zB<|zB<|zA rfl<|ve (True/\0<2)<|zF ?_;obtain⟨inf,ty⟩:=gty;obtain⟨Lb,eLb⟩:∃L:List Rw,L=(lb.map (·.1)).map λr=>zP r c2:=⟨_,rfl⟩;have hLb:Lb.length=lb.length:=by rw[eLb];simp
 obtain⟨base,ebase⟩:∃base:List Bk,base=[fB1P (.row (nsD A) A.length) (.row (zAk la) la.length) (.row (zAp la) la.length),fB1P (.row (nsD B) B.length) (.row (zAk lb) lb.length) (.row (zAp lb) lb.length),fB1P nl nl nl,fB1P (.row (nsD U) U.length) nl nl,fltB ((os.map (zDn U)).flatMap flC)]:=⟨_,rfl⟩;have hbb:bBL 5 base=true:=by rw[ebase];rfl
 refine zAo (λ(k:Nat)(st:List Bk)(ns:List Nat)=>fr 147 [(0,prdD),(5,Aj 0 0),(6,Aj 1 0),(8,Aj 2 0),(10,Aj 3 0),(11,Ai 4 0 (Aa os) (Aa os*2) Ab),(15,Ad (nsD c1)<|Aa c1),(16,Ad (nsD c2)<|Aa c2),(17,By 5),(64,Ad (zAk lb)<|Aa lb),(65,iD (Aa lb:Int)),(66,iD (k:Int))]) (λ(k:Nat)(st:List Bk)(ns:List Nat)=>st) (λk st ns=>lb.length-k) (λ(k:Nat)(st:List Bk)(ns:List Nat)=>k<=lb.length/\Grp 5 206 3 (Lb.take k) base st ns) 0 [fB1P (.row (nsD A) A.length) (.row (zAk la) la.length)<|.row (zAp la) la.length,fB1P (.row (nsD B) B.length) (.row (zAk lb) lb.length)<|.row (zAp lb) lb.length,fB1P nl nl nl,fB1P (.row (nsD U) U.length) nl nl,fltB<|(os.map (zDn U)).flatMap flC,⟨[],206,0,Ac,Ac,.map []⟩] [] ?_ ?_ ?_
 ·exact⟨by omega,⟨by rw[ebase];rfl,rfl,rfl,List.nodup_nil,λj k r h=>by simp at h⟩⟩
 ·refine vk 6
 rintro k st ns ⟨h3,hG⟩;rcases Aw k lb.length with h4|h4
 ·have hne:zAk lb≠[]:=zX (h:=by simp;omega);have hrow:(lb.map (·.1)).getD k []∈lb.map (·.1):=by
   rw[AF,AQ (by simpa using h4)];exact Bs _
  obtain⟨p,hp,he⟩:=AE.1 hrow;have hlen2:=bl p hp;have hvs:=bv p hp;rw[he]at hlen2 hvs;have hx1:=zY (lb.map (·.1)) k (by simpa using h4);have hts:Lb.take (k+1)=Lb.take k++[zP ((lb.map (·.1)).getD k []) c2]:=by
   rw[BO (by omega)];congr 1;simp only[eLb,List.getElem_map,AF,List.getElem?_map,AQ h4,Option.map_some,BT]
  generalize (lb.map (·.1)).getD k []=row at*;have hk:=zJw row c2 _ _ rfl rfl (by rw[hlen2];exact hl2) hvs;refine zB<|zA rfl<|zJk [] [] [] (True) [(67,bD<|decide ((k:Int)<(Aa lb:Int)))] (by kernel_rfl) trivial ?_;refine zB<|vT ((k:Int)<(Aa lb:Int))<|zJ<|zC<|zE<|zB<|zF<|zB<|zA rfl<|zC1 2 [] [] (ix (k:Int) (Aa lb:Int) (zAk lb≠[])) [(68,iD (k:Int)),(69,AD<|Ag (As (k:Int)*1)<|zAk lb)] ⟨(by omega),⟨(by omega),(by assumption)⟩⟩ ?_;refine zJj 69 (AD<|Ag (As (k:Int)*1)<|zAk lb) (AD<|Ag k<|zAk lb) (by kernel_rfl) (by simp(disch:=omega) only[Az,Bm]) (by kernel_rfl) ?_;refine zC1 1 [] [] (0<Aa (Ag k<|zAk lb)) [(70,Bx (Ag k<|zAk lb) Uk)] (by(simp;omega)) ?_;refine zJj 70 (Bx (Ag k<|zAk lb) Uk) (rowV row) (by kernel_rfl) (by simp(disch:=omega) only[hx1]) (by kernel_rfl) ?_;refine zJk [] [] [67,68,69,70] (True) [(18,iD (k:Int)),(19,Ad (zN row)<|Aa row)] (by kernel_rfl) trivial ?_;refine zB<|zA rfl<|zC1 2 [] [] (True) [(71,Ad (zN row)<|Aa row),(72,Ad (nsD c2)<|Aa c2)] trivial ?_;refine zVj [Ad (zN row)<|Aa row,Ad (nsD c2)<|Aa c2] (by kernel_rfl) (by exact hk) ?_;refine zC1 1 [] [] (True) [(20,Aq<|AJ<|bs<|idR<|zP row c2)] trivial ?_;refine zG4 ?_ (by kernel_rfl);refine zC (zLz λs0 hs0=>?_);refine zE<|zA rfl<|zKm (.mref 5) rfl rfl rfl (by rw[hs0];kernel_rfl)<|zKm (.val<|kyv<|zP row c2) rfl rfl rfl (by rw[hs0];kernel_rfl)<|zKm (.mref 5) rfl rfl rfl (by rw[hs0];kernel_rfl)<|zKm (.val<|kyv<|zP row c2) rfl rfl rfl (by rw[hs0];kernel_rfl) ?_;refine zN9 (m:=5) (L:=Lb.take k) (r:=zP row c2) (i:=k) (base:=base) (ns:=ns) (a1:=76) (a2:=77) (a3:=18) (b1:=74) (b2:=75) (s1:=78) (s2:=79) (s3:=80) (s4:=81) ty (λ_ _=>rfl) (by simp;omega) (by omega) rfl rfl rfl rfl rfl rfl rfl rfl rfl rfl rfl rfl rfl rfl rfl (by rw[hs0];kernel_rfl) (by decide) (by rw[hs0];kernel_rfl) (by rw[hs0];kernel_rfl) (by rw[hs0];kernel_rfl) (by rw[hs0];kernel_rfl) (by rw[hs0];kernel_rfl) (by rw[hs0];kernel_rfl) hbb hG ?_;intro st' ns' e1 e3 e4 hG';refine zG4 ?_ (by kernel_rfl);refine zD<|zC<|zL0 [74,75,76,77,78,79,80,81] (sl':=s0) (by rw[hs0];kernel_rfl) ?_;subst hs0;refine zA rfl<|zC1 2 [] [] (i6 ((k:Int)+(1:Int))) [(66,iD (↑(k+1):Int)),(82,iD (↑(k+1):Int))] (by omega) ?_;refine zG4 ?_ (by kernel_rfl);refine zC<|⟨k+1,st',ns',⟨by omega,by rw[hts];exact hG'⟩,by omega,?_⟩;refine vkp [0,5,6,8,10,11,15,16,17,64,65,66]
 rw[AK (by omega)]at hG;subst ebase;refine zB<|zA rfl<|zJk [] [] [] (True) [(67,bD<|decide ((k:Int)<(Aa lb:Int)))] (by kernel_rfl) trivial ?_;refine zB<|vF ((k:Int)<(Aa lb:Int))<|zT<|zM<|zM<|zR rfl<|zC ?_;have hfl:=zBs zFq (os.map (zDn U)) os.length (by simp);refine zAw ((zN4 (m:=5) (s:=17) (λ_ _=>rfl) (by kernel_rfl) (by kernel_rfl) hbb hG).trans<|((Bp (j:=3) (i:=1) (rowB []) rfl rfl rfl rfl).trans (Bp (j:=3) (i:=2) (zEe []) rfl rfl rfl rfl)).trans<|Bv (s:=11) (k:=4) (off:=0) (n:=os.length) (m:=os.length*2) (wh:=Ab) (cs:=(os.map (zDn U)).flatMap flC) (by kernel_rfl) (show An (Ad ((((os.map (zDn U)).flatMap flC).drop 0).take (os.length*2)) os.length,[4])=_ by rw[AM,hfl])) ?_;refine zB<|zB<|zA rfl<|v0s<|ve (True/\0<2)<|zF ?_;clear hG h3 h4;obtain⟨ok,eok⟩:∃ok:Rw->Bool,ok=λs=>os.all λo=>okO U s (faNP o):=⟨_,rfl⟩;have hpf:((zBd Sp.mul A la B lb).filter λp=>os.all λo=>okO U p.1 (faNP o))=la.flatMap λp=>zDl A B ok p (zFc A B lb p):=by
  rw[eok];exact zLs A B lb (λs=>os.all λo=>okO U s (faNP o)) la
 rw[hpf];refine zA2 (λ(i:Nat)(O:List (Rw×Nat×Option Nat))=>fr 147 [(0,prdD),(5,Aj 0 0),(6,Aj 1 0),(8,Aj 2 0),(10,Aj 3 0),(11,D.osr 4 0 (Aa os) (Aa os*2) Ab<|Ae flC<|Af (zDn U) os),(15,Ad (nsD c1)<|Aa c1),(17,D.mfz (Af kyv<|allK Lb)<|zM1 Lb),(84,Ad (zAk la)<|Aa la),(85,iD (Aa la:Int)),(86,iD (i:Int))]) (λ(i:Nat)(O:List (Rw×(Nat×Option Nat)))=>[fB1P (.row (nsD A) A.length) (.row (zAk la) la.length)<|.row (zAp la) la.length,fB1P (.row (nsD B) B.length) (.row (zAk lb) lb.length)<|.row (zAp lb) lb.length,fB1P nl nl nl,fB1P (.row (nsD U) U.length) (.osl 5 0 O.length O.length Ab)<|.osl 6 0 O.length (O.length*3) Ab,⟨(os.map (zDn U)).flatMap flC,203,2,Ab,Ab,.plain⟩,rowB<|zAk O,zEe<|zAp O]) (λi O=>la.length-i) (λ(i:Nat)(O:List (Rw×(Nat×Option Nat)))=>i<=la.length/\O=(la.take i).flatMap λp=>zDl A B ok p (zFc A B lb p)) 0 [] ?_ ?_ ?_
 ·exact⟨by omega,by simp⟩
 ·refine vk 7
 rintro i O ⟨h3,hO⟩;rcases Aw i la.length with h4|h4
 ·have hne:zAk la≠[]:=zX (h:=by simp;omega);have hne2:zAp la≠[]:=zCb zAt (by decide) (la.map (·.2)) (h:=by simp;omega);have hx3:=zB5 zAt (la.map (·.2)) i (by simpa using h4);have hx1:=zY (la.map (·.1)) i (by simpa using h4);have hx2:=zA9 zAt (la.map (·.2)) i (by simpa using h4);have hpm:la.getD i Ah∈la:=by rw[AF,AQ h4];exact Bs h4
  have hr1:(la.map (·.1)).getD i []=(la.getD i Ah).1:=by simp[AF,h4]
  have hr2:(la.map (·.2)).getD i Ah=(la.getD i Ah).2:=by simp[AF,h4]
  have hfs:=zTf (A:=A) (B:=B) (lb:=lb) (ok:=ok) la i h4;have hOl:O.length<=i*lb.length:=by rw[hO];exact zNn la i
  have hmul:(i+1)*lb.length<=la.length*lb.length:=A6 _ h4;rw[Nat.succ_mul]at hmul;rw[<-hO]at hfs;have hlen2:=al _ hpm;have hvs:=av _ hpm;have hsm:=am _ hpm;rw[hr1]at hx1;rw[hr2]at hx2;generalize la.getD i Ah=p at*;have hk:=zJw p.1 c1 _ _ rfl rfl (by rw[hlen2];exact hl1) hvs;have hlk:=zZg Lb (zP p.1 c1);have hps:=pos_selP (lb:=lb) hA hB p;rw[<-ec1,<-ec2,<-eLb]at hps;by_cases hin:zP p.1 c1∈Lb
  ·rw [if_pos hin]at hlk;have hposk:∀k∈posL Lb (zP p.1 c1),k<lb.length:=λk hk=>by rw[<-hLb];exact zYt hk
   generalize posL Lb (zP p.1 c1)=pos at*;focus
    refine zB (zA rfl (v0s (veT (zB (vT ((i:Int)<(Aa la:Int)) (zJ (zC (zE (zB (zF (zB (zA rfl (vr 2 (ix (i:Int) (Aa la:Int) (zAk la≠[])) (vp 89 (i) (zAk la) (vr 1 (0<Aa (Ag i (zAk la))) (vsh 90 hx1 (veT (zB (zA rfl (vrT 3 (vc (hk) (vwh 1 [] [] (zS (Bg (Bh Bi "string" 1 16 Ab 8 8 (An (AJ (Bd #[]))) Ab #[])) (AJ (bs (idR (zP (AZ p) c1))))=Ab/\BP (Af kyv (allK Lb)) (zS (Bg (Bh Bi "string" 1 16 Ab 8 8 (An (AJ (Bd #[]))) Ab #[])))=Ab) ?_ ?_))))))))))))))))))))));rotate_left;refine vsh 95 hlk (veT (zF ?_));rotate_left
   ·exact⟨rfl,zBt _⟩
   have hsl:(zFc A B lb p).length=pos.length:=by rw[<-hps,AR]
   have hsb:(zFc A B lb p).length<=lb.length:=Bj _ _;have hts:=λt h=>zSv (A:=A) (B:=B) (ok:=ok) p (zFc A B lb p) t h;refine zA2 (λ(t:Nat)(R:List (Rw×Nat×Option Nat))=>fr 147 [(0,prdD),(5,Aj 0 0),(6,Aj 1 0),(8,Aj 2 0),(10,Aj 3 0),(11,D.osr 4 0 (Aa os) (Aa os*2) Ab<|Ae flC<|Af (zDn U) os),(15,Ad (nsD c1)<|Aa c1),(17,D.mfz (Af kyv<|allK Lb)<|zM1 Lb),(21,iD (i:Int)),(22,Ad (zN<|AZ p)<|Aa<|AZ p),(84,Ad (zAk la)<|Aa la),(85,iD (Aa la:Int)),(86,iD (i:Int)),(95,Ad (nsD pos)<|Aa pos),(96,iD (Aa pos:Int)),(97,iD (t:Int))]) (λ(t:Nat)(R:List (Rw×(Nat×Option Nat)))=>[fB1P (.row (nsD A) A.length) (.row (zAk la) la.length)<|.row (zAp la) la.length,fB1P (.row (nsD B) B.length) (.row (zAk lb) lb.length)<|.row (zAp lb) lb.length,fB1P nl nl nl,fB1P (.row (nsD U) U.length) (.osl 5 0 R.length R.length Ab)<|.osl 6 0 R.length (R.length*3) Ab,⟨(os.map (zDn U)).flatMap flC,203,2,Ab,Ab,.plain⟩,rowB<|zAk R,zEe<|zAp R]) (λt R=>pos.length-t) (λ(t:Nat)(R:List (Rw×(Nat×Option Nat)))=>t<=pos.length/\R=O++zDl A B ok p ((zFc A B lb p).take t)) 0 O ?_ ?_ ?_
   ·exact⟨by omega,by simp[zDl]⟩
   ·refine vk 7
   rintro t R ⟨h5,hR⟩;have hRl:R.length<=O.length+t:=by
    have h6:=zNb (A:=A) (B:=B) (ok:=ok) p ((zFc A B lb p).take t);rw[hR,A1];simp only[Br]at h6;omega
   rcases Aw t pos.length with h6|h6
   ·have hne3:zAk lb≠[]:=zX (h:=by simp;omega);have hne4:zAp lb≠[]:=zCb zAt (by decide) (lb.map (·.2)) (h:=by simp;omega);have hkm:=hposk _ (zBv pos t h6);have hsg:(zFc A B lb p).getD t Ah=lb.getD (pos.getD t 0) default:=by
     rw[<-hps];simp[AF,h6]
    have hqm:lb.getD (pos.getD t 0) Ah∈lb:=by rw[AF,AQ hkm];exact Bs hkm
    have hy1:=zY (lb.map (·.1)) (pos.getD t 0) (by simpa using hkm);have hy2:=zA9 zAt (lb.map (·.2)) (pos.getD t 0) (by simpa using hkm);have hr3:=zZx lb hkm;have hr4:=zZv lb hkm;have hp1:0<((zAk lb).drop (pos.getD t 0)).length:=by rw[A5,AR,AR];omega
    have hp2:=zB5 zAt (lb.map (·.2)) (pos.getD t 0) (by simpa using hkm);have ht1:=hts t (by omega);rw[hsg]at ht1;rw[hr3]at hy1;rw[hr4]at hy2;have hql:=bl _ hqm;have hqv:=bv _ hqm;have hqs:=bm _ hqm;have hz:=zAi pos t h6;generalize lb.getD (pos.getD t 0) Ah=q at*;have hmg:Pure Ar 95 [.row (nsD U) U.length, .row (nsD A) A.length, .row (zN p.1) p.1.length, .row (nsD B) B.length, .row (zN q.1) q.1.length] [] (.row (zN (mg A p.1 B q.1)) U.length):=by
     have h:=zS1 A B p.1 q.1 _ _ _ rfl rfl rfl hlen2 hql hA hB nA nB (by rw[<-eU];exact nU);rw[<-eU]at h;rw[hlen2,hql];exact h
    have hml:(mg A p.1 B q.1).length=U.length:=by rw[mg,AR,eU]
    have hmv:∀v∈mg A p.1 B q.1,Vs v:=λv hv=>by
     obtain⟨w,_,rfl⟩:=AE.1 hv;have gv:∀(C:List Nat)(x:List Va),(∀v∈x,Vs v)->Vs (asg C x w):=λC x hx=>by
      unfold asg;rw[AF];cases e:x[C.idxOf w]? with
      |none=>exact⟨by decide,by decide,by decide⟩
      |some u=>exact hx u (List.mem_of_getElem? e)
     unfold sg;split
     ·exact gv A _ hvs
     exact gv B _ hqv
    have hpa:=zPp (os.map (zDn U)) _ rfl (by simp;omega) (mg A p.1 B q.1) _ hml (by omega) hmv (λf hf=>by
     obtain⟨o,ho',rfl⟩:=AE.1 hf;exact⟨by have:=zD7 (λv=>(msk o.1&&&msk U).testBit v) U;simp only[zDn];omega,λc hc=>by rw[hml];exact(zDf.1 hc).1⟩)
    rw[AR,List.all_map]at hpa;have hoke:(os.all ((λf=>decide (zP (mg A p.1 B q.1) f.1∈f.2))∘zDn U))=ok (mg A p.1 B q.1):=by
     rw[eok];simp only[Function.comp_def];rw[BC,Bb,Bb];constructor
     ·intro h o ho';rw[<-zZ7 hU (ho o ho').asc];exact h o ho'
     intro h o ho';rw[zZ7 hU (ho o ho').asc];exact h o ho'
    rw[hoke]at hpa;have hmu2:=pmul_c p.2 q.2 hsm hqs;have hvl:=zAt (Sp.mul p.2 q.2);have hRv:(zAp R).length=R.length*3:=by rw[zAp,zCc zAt];simp
    focus
     refine zB<|zA rfl<|v0s<|veT<|zB<|vT ((t:Int)<(Aa pos:Int))<|zJ<|zC<|zE<|zB<|zF<|zB<|zA rfl<|vr 1 (ix (t:Int) (Aa pos:Int) (nsD pos≠[])) ?_ ⟨(by omega),⟨(by omega),(by exact zX)⟩⟩;refine vp 99 (t) (nsD pos)<|vr 1 (0<Aa (Ag t<|nsD pos))<|vsh 100 hz<|veT<|zB<|vd [0,2,4,5,7,9,1,3,6,8,10,11,12,13]<|vr 11 (True/\True/\True/\True/\0<3/\0<3/\0<3/\0<2/\ix (↑(Ap pos t 0):Int) (Aa lb:Int) (zAk lb≠[]))<|vp 111 (Ap pos t 0) (zAk lb)<|vr 1 (0<Aa (Ag (Ap pos t 0)<|zAk lb))<|vsh 112 hy1<|vc (hmg)<|veT<|zB<|zA rfl<|vrT 2<|vc (hpa)<|veT<|zAa (t:=ok (mg A (AZ p) B (AZ q))) (by kernel_rfl) (λhc=>?_)<|λhc=>?_;refine zB<|zA rfl<|vr 7 (True/\0<2/\((1=1/\1<=1/\True)/\0<1/\1=1/\1<=16777216/\1<=9223372036854775807)/\(A0 (rowB<|zAk R)=Ab/\Aa (AI<|rowB<|zAk R)=Aa R*1/\Aa R=Aa R*1/\AS (rowB<|zAk R)=110/\AT (rowB<|zAk R)=1/\1=1/\0<1/\0<24/\110=110/\(Aa R+1)*24<=140737488355328/\1=1/\AU (AA<|rowB<|zAk R)=Ac/\(Ac=Ac\/AV (AA<|rowB<|zAk R)=Ab))/\True/\A7 (Ao [Ad (nsD U)<|Aa U,Uk,Ai 6 0 (Aa R) (Aa R*3) Ab] 45 0 Ac Ac Am)=Ac/\Ab=Ab/\1=1/\2<=3)<|vb 3 (Ao [Ad (nsD U)<|Aa U,Ai 5 0 (Aa R+1) ((Aa R+1)*1) Ab,Ai 6 0 (Aa R) (Aa R*3) Ab] (AS<|Ao [Ad (nsD U)<|Aa U,Uk,Ai 6 0 (Aa R) (Aa R*3) Ab] 45 0 Ac Ac Am) (AT<|Ao [Ad (nsD U)<|Aa U,Uk,Ai 6 0 (Aa R) (Aa R*3) Ab] 45 0 Ac Ac Am) Ac Ac<|AA<|Ao [Ad (nsD U)<|Aa U,Uk,Ai 6 0 (Aa R) (Aa R*3) Ab] 45 0 Ac Ac Am) (Ao [Ad (nsD U)<|Aa U,Ai 5 0 (Aa R+1) (Aa R+1) Ab,Ai 6 0 (Aa R) (Aa R*3) Ab] 45 0 Ac Ac Am) (hd:=by simp(disch:=omega) only[Bm])<|veT<|vd [0,2,3,5,8,10,13,14,15,1,4,6,7,9,11,12,16,17,18,19,20]<|vr 13 (True/\True/\True/\0<1/\0<1/\ix (i:Int) (Aa la:Int) (zAp la≠[])/\3<=Aa (Ag (i*3)<|zAp la))<|vs 130 (Ak<|Al 3<|Ag (i*3)<|zAp la) (Ak<|cpD<|AL p) (hd:=by simp(disch:=omega) only[hx2])<|vr 3 (0<1/\ix (↑(Ap pos t 0):Int) (Aa lb:Int) (zAp lb≠[])/\3<=Aa (Ag (Ap pos t 0*3)<|zAp lb))<|vs 135 (Ak<|Al 3<|Ag (Ap pos t 0*3)<|zAp lb) (Ak<|cpD<|AL q) (hd:=by simp(disch:=omega) only[hy2])<|vc (hmu2)<|vr 4 (((3=3/\3<=3/\True)/\0<3/\3=3/\3<=16777216/\1<=9223372036854775807)/\(A0 (Ao (zAp R) 56 3 Ab Ac Am)=Ab/\Aa (zAp R)=Aa R*3/\Aa R*3=Aa R*3/\AS (Ao (zAp R) 56 3 Ab Ac Am)=56/\AT (Ao (zAp R) 56 3 Ab Ac Am)=3/\3=3/\0<3/\0<56/\56=56/\(Aa R+1)*56<=140737488355328/\3=3/\AU (AA<|Ao (zAp R) 56 3 Ab Ac Am)=Ac/\(Ac=Ac\/AV (AA<|Ao (zAp R) 56 3 Ab Ac Am)=Ab))/\True/\A7 (Ao [Ad (nsD U)<|Aa U,Ai 5 0 (Aa R+1) (Aa R+1) Ab,Uk] 45 0 Ac Ac Am)=Ac/\Ab=Ab/\1=1/\3<=3)<|vnil<|zD<|zC<|zE<|zA rfl<|vr 2 (i6 ((t:Int)+(1:Int)))<|vnil<|zC ?_;rotate_left;refine zJ<|zD<|zC<|zE<|zA rfl<|vr 2 (i6 ((t:Int)+(1:Int)))<|vnil<|zC ?_;rotate_left
    ·rw[if_pos hc]at ht1;refine⟨t+1,R++[prQP A B p q],⟨by omega,?_⟩,by omega,?_⟩
     ·rw[ht1,<-List.append_assoc,<-hR]
     rw[show zAk (R++[prQP A B p q])=zAk R++[.row (zN (mg A p.1 B q.1)) U.length] by rw[<-hml];simp[prQP],show zAp (R++[prQP A B p q])=zAp R++cpD (Sp.mul p.2 q.2) by simp[zAp,prQP],A1];refine vk 7
    rw[if_neg (by simpa using hc),Bl]at ht1;refine⟨t+1,R,⟨by omega,by rw[ht1];exact hR⟩,by omega,?_⟩;refine vk 7
   rw[AK (by omega)]at hR;refine zB<|zA rfl<|v0s<|veT<|zB<|vF ((t:Int)<(Aa pos:Int))<|zT<|zM<|zM<|zR rfl<|zD<|zC<|zE<|zA rfl<|vr 2 (i6 ((i:Int)+(1:Int)))<|vnil<|zC<|⟨i+1,R,⟨by omega,by rw[hfs];exact hR⟩,by omega,?_⟩;refine vk 7
  rw[if_neg hin]at hlk;rw[zHz hin]at hps;focus
   refine zB (zA rfl (v0s (veT (zB (vT ((i:Int)<(Aa la:Int)) (zJ (zC (zE (zB (zF (zB (zA rfl (vr 2 (ix (i:Int) (Aa la:Int) (zAk la≠[])) (vp 89 (i) (zAk la) (vr 1 (0<Aa (Ag i (zAk la))) (vsh 90 hx1 (veT (zB (zA rfl (vrT 3 (vc (hk) (vwh 1 [] [] (zS (Bg (Bh Bi "string" 1 16 Ab 8 8 (An (AJ (Bd #[]))) Ab #[])) (AJ (bs (idR (zP (AZ p) c1))))=Ab/\BP (Af kyv (allK Lb)) (zS (Bg (Bh Bi "string" 1 16 Ab 8 8 (An (AJ (Bd #[]))) Ab #[])))=Ab) ?_ ?_))))))))))))))))))))));rotate_left;refine vsh 95 hlk (veT (zF (zW (zB (zA rfl (veT (zB (vf (zT (zM (zM (zR rfl (zD (zC (zE (zA rfl (vr 2 (i6 ((i:Int)+(1:Int))) (vnil (zC ?_)))))))))))))))))));rotate_left
  ·exact⟨rfl,zBt _⟩
  refine⟨i+1,O,⟨by omega,?_⟩,by omega,?_⟩
  ·rw[hfs,<-hps];simp[zDl]
  refine vk 7
 have hO':O=la.flatMap λp=>zDl A B ok p (zFc A B lb p):=by rw[AK (by omega)]at hO;exact hO
 rw[<-hO'];have hOl:O.length<=1000000:=by
  have h5:=zNn (A:=A) (B:=B) (lb:=lb) (ok:=ok) la la.length;rw[BZ,<-hO']at h5;omega
 have hOp:O=(zBd Sp.mul A la B lb).filter λp=>ok p.1:=by rw[hO',eok];exact(zLs A B lb (λs=>os.all λo=>okO U s (faNP o)) la).symm
 have hnd:Ndk O:=by rw[hOp];exact zC6 ok (zDk hA hB nda ndb al bl)
 have hOr:∀p∈O,p.1.length=U.length:=λp hp=>by
  rw[hOp]at hp;obtain⟨x,_,y,_,_,h7,_⟩:=(zF8 (s:=p.1) (u:=p.2)).1 (A2.1 hp).1;rw[<-h7,mg,AR,eU]
 have hso:=zQs U O hOl (λp hp=>by rw[hOr p hp];omega) hnd;have hu1:=zFy U U.length rfl;have hu2:(zAk O).take O.length=zAk O:=AK (by simp);have hu3:(zAp O).take (O.length*3)=zAp O:=zBs zAt _ _ (by simp);clear hO hO' hOp hpf;refine zB<|zA rfl<|v0s<|veT<|zB<|vF ((i:Int)<(Aa la:Int))<|zT<|zM<|zM<|zR rfl<|zC<|zE<|zB<|zA rfl<|vr 1 (3<=3)<|vcl [Ak [Ad (nsD U)<|Aa U,Ad (Al (Aa O)<|Ag 0<|AI<|rowB<|zAk O)<|Aa O,Ad (Al (Aa O*3)<|Ag 0<|AI<|zEe<|zAp O)<|Aa O]] [Ak [Ad (nsD U)<|Aa U,Ad (zAk O)<|Aa O,Ad (zAp O)<|Aa O]] (LeL.of_eq (by simp(disch:=omega) only[AM,hu3,hu2])) (by exact hso)<|ve (Ac=Ac/\Ab=Ab/\3=3/\3<=3)<|zK<|vret (3<=3)<|.inr rfl
set_option maxHeartbeats 4000000 in
theorem zYa(A:List Nat)(l:List (Rw×(Nat×Option Nat)))(v:Int)(ha:A.length<=32)(hb:l.length<=1000000)(hl:∀p∈l,p.1.length=A.length)(hv:∀p∈l,∀x∈p.1,Vs x)(hs0:∀p∈l,okP p.2)(hs:∀i,∀x∈(sumT Sp.add [] ((l.map λp=>(zP p.1 (zAu (λu=>decide ((u:Int)≠v)) A),p.2)).take i)).map (·.2),okP x):
  Pure Ar 102 [prdD,fcDP A l,iD v] [] (fcDP ((zAu (λu=>decide ((u:Int)≠v)) A).map λj=>A.getD j 0) (srtL (sumT Sp.add [] (l.map λp=>(zP p.1 (zAu (λu=>decide ((u:Int)≠v)) A),p.2))))):=by
 refine zH (T:=Tc) (zGl _ _ _) mixed Tryz.func102 rfl<|zB<|zA rfl<|v0s<|veT<|zB<|zA rfl<|veT<|zB<|zA rfl<|vrT 1<|vnil<|zC<|vnn (fr 108 [(0,prdD),(2,iD v),(4,Aj 0 0),(6,Aj 1 0),(7,nl),(8,Aj 2 0)]) [Ao [Ad (nsD A)<|Aa A,Ad (zAk l)<|Aa l,Ad (zAp l)<|Aa l] 45 0 Ac Ac Am,Ao [nl,nl,nl] 45 0 Ac Ac Am,Ao [nl,nl,nl] 45 0 Ac Ac Am]<|zAw (Bp (j:=2) (i:=0) (intB []) rfl rfl rfl rfl) ?_;refine zB<|zB<|zA rfl<|v0s<|ve (True/\0<3)<|zF<|zA2 (λ(i:Nat)(c:List Nat)=>fr 108 [(0,prdD),(2,iD v),(4,Aj 0 0),(6,Aj 1 0),(7,Ai 4 0 (Aa c) (Aa c) Ab),(8,Aj 2 0),(20,Ad (nsD A)<|Aa A),(21,iD (Aa A:Int)),(22,iD (i:Int))]) (λ(i:Nat)(c:List Nat)=>[fB1P (.row (nsD A) A.length) (.row (zAk l) l.length)<|.row (zAp l) l.length,fB1P nl nl nl,fB1P (.osl 3 0 c.length c.length Ab) nl nl,intB<|nsD (c.map λj=>A.getD j 0),intB<|nsD c]) (λi c=>A.length-i) (λ(i:Nat)(c:List Nat)=>i<=A.length/\c=((AB A.length).take i).filter λj=>decide (((A.getD j 0:Nat):Int)≠v)) 0 [] ?_ ?_ ?_
 ·exact⟨by omega,by simp⟩
 ·refine vk 4
 rintro i c ⟨h1,h2⟩;have hlen:c.length<=32:=by rw[h2];exact Au (Bj _ _) (by simp;omega)
 rcases Aw i A.length with h3|h3
 ·have h4:=zJb (λu=>decide ((u:Int)≠v)) A i h3;rw[<-h2]at h4;focus
   refine zB<|zA rfl<|v0s<|veT<|zB<|vT ((i:Int)<(Aa A:Int))<|zJ<|zC<|zE<|zB<|zF<|zB<|zA rfl<|vr 2 (ix (i:Int) (Aa A:Int) (nsD A≠[])) ?_ ⟨(by omega),⟨(by omega),(by exact zX)⟩⟩;refine vp 25 (i) (nsD A)<|vr 1 (0<Aa (Ag i<|nsD A))<|vs 26 (Bx (Ag i<|nsD A) Uk) (iD (↑(Ap A i 0):Int)) (hd:=by simp(disch:=omega) only[zAi])<|veT<|zB<|zA rfl<|veT<|zAa (t:=(↑(Ap A i 0):Int)!=v) (by kernel_rfl) (λhc=>?_)<|λhc=>?_;simp only[bne_iff_ne]at hc;refine zB<|zA rfl<|vr 5 (((1=1/\1<=1/\True)/\0<1/\1=1/\1<=16777216/\1<=9223372036854775807)/\A0 (intB<|nsD c)=Ab/\Aa (AI<|intB<|nsD c)=Aa c*1/\Aa c=Aa c*1/\AS (intB<|nsD c)=3/\AT (intB<|nsD c)=1/\1=1/\0<1/\0<8/\3=3/\(Aa c+1)*8<=140737488355328/\1=1/\AU (AA<|intB<|nsD c)=Ac/\(Ac=Ac\/AV (AA<|intB<|nsD c)=Ab))<|vs 7 (Ai 4 0 (Aa c+1) ((Aa c+1)*1) Ab) (Ai 4 0 (Aa c+1) (Aa c+1) Ab) (hd:=by simp(disch:=omega) only[Bm])<|veT<|zA rfl<|vr 7 (True/\0<3/\((1=1/\1<=1/\True)/\0<1/\1=1/\1<=16777216/\1<=9223372036854775807)/\(A0 (Ao (nsD<|Af (λ(j:Nat)=>Ap A j 0) c) 3 1 Ab Ac Am)=Ab/\Aa (nsD<|Af (λ(j:Nat)=>Ap A j 0) c)=Aa c*1/\Aa c=Aa c*1/\AS (Ao (nsD<|Af (λ(j:Nat)=>Ap A j 0) c) 3 1 Ab Ac Am)=3/\AT (Ao (nsD<|Af (λ(j:Nat)=>Ap A j 0) c) 3 1 Ab Ac Am)=1/\1=1/\0<1/\0<8/\3=3/\(Aa c+1)*8<=140737488355328/\1=1/\AU (AA<|Ao (nsD<|Af (λ(j:Nat)=>Ap A j 0) c) 3 1 Ab Ac Am)=Ac/\(Ac=Ac\/AV (AA<|Ao (nsD<|Af (λ(j:Nat)=>Ap A j 0) c) 3 1 Ab Ac Am)=Ab))/\True/\Ac=Ac/\Ab=Ab/\1=1/\1<=3)<|vb 2 (Ao [Ai 3 0 (Aa c+1) ((Aa c+1)*1) Ab,nl,nl] 45 0 Ac Ac<|AA<|Ao [Uk,nl,nl] 45 0 Ac Ac Am) (Ao [Ai 3 0 (Aa c+1) (Aa c+1) Ab,nl,nl] 45 0 Ac Ac Am) (hd:=by simp(disch:=omega) only[Bm])<|vnil<|zD<|zC<|zE<|zA rfl<|vr 2 (i6 ((i:Int)+(1:Int)))<|vnil<|zC ?_;rotate_left;simp only[bne_eq_false_iff_eq]at hc;refine zJ<|zD<|zC<|zE<|zA rfl<|vr 2 (i6 ((i:Int)+(1:Int)))<|vnil<|zC ?_;rotate_left
  ·rw[if_pos (by simpa using hc)]at h4;refine⟨i+1,c++[i],⟨by omega,h4.symm⟩,by omega,?_⟩;rw[show nsD ((c++[i]).map λj=>A.getD j 0)=nsD (c.map λj=>A.getD j 0)++[iD (A.getD i 0:Nat)] by simp,zLx,A1];refine vk 5
  rw[if_neg (by simpa using hc),Bl]at h4;refine⟨i+1,c,⟨by omega,h4.symm⟩,by omega,?_⟩;refine vk 5
 have ec:c=zAu (λu=>decide ((u:Int)≠v)) A:=by
  rw[AK (by simpa using h3)]at h2;exact h2
 rw[<-ec]at hs⊢;clear h1 h2;refine zB<|zA rfl<|v0s<|veT<|zB<|vF ((i:Int)<(Aa A:Int))<|zT<|zM<|zM<|zR rfl<|zC<|zE<|zB<|zA rfl<|vrT 2<|vnil<|zC<|vnn (fr 108 [(0,prdD),(2,iD v),(4,Aj 0 0),(6,Aj 1 0),(7,Ai 4 0 (Aa c) (Aa c) Ab),(8,Aj 2 0),(11,By 5),(20,Ad (nsD A)<|Aa A),(21,iD (Aa A:Int)),(22,iD (i:Int)),(23,bD<|decide ((i:Int)<(Aa A:Int))),(41,By 5)]) [fB1P (Ad (nsD A)<|Aa A) (Ad (zAk l)<|Aa l)<|Ad (zAp l)<|Aa l,fB1P nl nl nl,fB1P (Ai 3 0 (Aa c) (Aa c) Ab) nl nl,intB<|nsD<|Af (λ(j:Nat)=>Ap A j 0) c,intB<|nsD c,Ao [] 262 0 Ab Ac<|Kd.map []] ?_;have hc0:=zFy c _ rfl;refine zAw (((Bp (j:=2) (i:=1) (rowB []) rfl rfl rfl rfl).trans (Bp (j:=2) (i:=2) (zEe []) rfl rfl rfl rfl)).trans<|Bv (s:=7) (k:=4) (off:=0) (n:=c.length) (m:=c.length) (wh:=Ab) (cs:=nsD c) (by kernel_rfl) (show An (Ad (((nsD c).drop 0).take c.length) c.length,[4])=_ by rw[AM,hc0])) ?_;refine zB<|zB<|zA rfl<|v0s<|ve (True/\0<2)<|zF ?_;have hcl:∀j∈c,j<A.length:=λj h=>by
  rw[ec]at h;simpa using(A2.1 h).1
 generalize hL:(l.map λp=>(zP p.1 c,p.2))=L at*;have hLl:L.length=l.length:=by rw[<-hL];simp
 have hLg:∀i,i<l.length->L.getD i Ah=(zP ((l.map (·.1)).getD i []) c,(l.map (·.2)).getD i Ah):=λi hi=>by
  rw[<-hL];simp[AF,hi]
 refine zAo (λ(i:Nat)(K:List Rw)(W:List (Nat×Option Nat))=>fr 108 [(0,prdD),(4,Aj 0 0),(6,Aj 1 0),(7,D.osr 4 0 (Aa c) (Aa c) Ab<|nsD c),(8,Aj 2 0),(11,By 5),(43,Ad (zAk l)<|Aa l),(44,iD (Aa l:Int)),(45,iD (i:Int))]) (λ(i:Nat)(K:List Rw)(W:List (Nat×Option Nat))=>[fB1P (.row (nsD A) A.length) (.row (zAk l) l.length)<|.row (zAp l) l.length,fB1P nl nl nl,fB1P (.osl 3 0 c.length c.length Ab) (.osl 6 0 W.length W.length Ab)<|.osl 7 0 W.length (W.length*3) Ab,intB<|nsD (c.map λj=>A.getD j 0),⟨nsD c,3,1,Ab,Ab,.plain⟩,mapI K,rowB<|K.map rowV,zEe<|W.flatMap cpD]) (λi K W=>l.length-i) (λ(i:Nat)(K:List Rw)(W:List (Nat×Option Nat))=>i<=l.length/\K=(sumT Sp.add []<|L.take i).map (·.1)/\W=(sumT Sp.add []<|L.take i).map (·.2)) 0 [] [] ?_ ?_ ?_
 ·exact⟨by omega,by simp[sumT],by simp[sumT]⟩
 ·refine vk 8
 rintro i K W ⟨g1,g2,g3⟩;have hKW:W.length=K.length:=by rw[g2,g3];simp
 have hKl:K.length<=1000000:=by
  have:=zKx Sp.add (L.take i) ([]:List (Rw×(Nat×Option Nat)))
  rw[g2,AR];simp only[B9,Br]at this;omega
 rcases Aw i l.length with h4|h4
 ·have hne:zAk l≠[]:=zX (h:=by simp;omega);have hne2:zAp l≠[]:=zCb zAt (by decide) (l.map (·.2)) (h:=by simp;omega);have hrow:(l.map (·.1)).getD i []∈l.map (·.1):=by
   rw[AF,AQ (by simpa using h4)];exact Bs _
  obtain⟨p,hp,he⟩:=AE.1 hrow;have hlen2:=hl p hp;have hvs:=hv p hp;rw[he]at hlen2 hvs;have hsu:=zLg Sp.add L i (by omega);rw[hLg i h4]at hsu;have hk1:=congrArg (Af (·.1)) hsu;have hw1:=congrArg (Af (·.2)) hsu;simp only[zEn,<-g2]at hk1;simp only[zJe,<-g2,<-g3]at hw1;have hx1:=zY (l.map (·.1)) i (by simpa using h4);have hx2:=zA9 zAt (l.map (·.2)) i (by simpa using h4);have hx3:=zB5 zAt (l.map (·.2)) i (by simpa using h4);have hwm:(l.map (·.2)).getD i Ah∈l.map (·.2):=by
   rw[AF,AQ (by simpa using h4)];exact Bs _
  obtain⟨p',hp',he'⟩:=AE.1 hwm;have hs3:=hs0 p' hp';rw[he']at hs3;have hsW:∀x∈W,okP x:=λx hx=>hs i x (by rw[<-g3];exact hx);generalize (l.map (·.1)).getD i []=row at*;generalize (l.map (·.2)).getD i Ah=w at*;have hk:=zJw row c _ _ rfl rfl (by rw[hlen2];exact hcl) hvs;have hpj:=zGq row c _ _ rfl rfl (by omega) (by omega) (by rw[hlen2];exact hcl);have hlk:=zZf K (zP row c);by_cases hm:zP row c∈K
  ·rw[if_pos hm]at hk1 hw1 hlk;have hid:=List.idxOf_lt_length_iff.2 hm;generalize K.idxOf (zP row c)=d at*;have hdm:W.getD d Ah∈W:=by rw[AF,AQ (by omega)];exact Bs _
   have hy1:=zA9 zAt W d (by omega);have hy2:=zB5 zAt W d (by omega);have had:=padd_c _ _ (hsW _ hdm) hs3;have hl1:=zAt (Sp.add (W.getD d Ah) w);have hst:=fl_set zAt W d (Sp.add (W.getD d Ah) w) (by omega);have hfl:=zCc zAt W;have hd1:d*3+3<=W.length*3:=by omega
   generalize Sp.add (W.getD d Ah) w=s at*;generalize W.getD d Ah=u at*;focus
    refine zB (zA rfl (v0s (veT (zB (vT ((i:Int)<(Aa l:Int)) (zJ (zC (zE (zB (zF (zB (zA rfl (vr 2 (ix (i:Int) (Aa l:Int) (zAk l≠[])) (vp 48 (i) (zAk l) (vr 1 (0<Aa (Ag i (zAk l))) (vsh 49 hx1 (veT (zB (zA rfl (vrT 2 (vc (hk) (veT (zB (zA rfl (vwh 3 [] [] (zS (Bg (Bh Bi "string" 1 16 Ab 8 8 (An (AJ (Bd #[]))) Ab #[])) (AJ (bs (idR (zP row c))))=Ab/\BP (Af kyv K) (zS (Bg (Bh Bi "string" 1 16 Ab 8 8 (An (AJ (Bd #[]))) Ab #[])))=Ab) ?_ ?_)))))))))))))))))))))))));rotate_left;refine vsh 56 hlk (ve (0<2/\1<2) (zB (zB (zA rfl (veT (vf (zJ (zC (zE (vd [0,2,3,4,6,9,11,14,15,16,1,5,7,8,10,12,13,17,18,19] (vr 13 (True/\True/\True/\0<1/\0<1/\(0:Int)<=(d:Int)/\(d:Int)<(Aa W:Int)) (vo0 93 7 (d*3) (vr 1 (3<=Aa (Ag (d*3) (AI (zEe (Ae cpD W))))) (vs 94 (Ak (Al 3 (Ag (d*3) (AI (zEe (Ae cpD W)))))) (Ak (cpD u)) (hd:=by simp(disch:=omega) only[hy1]) (vr 3 (0<1/\ix (i:Int) (Aa l:Int) (zAp l≠[])/\3<=Aa (Ag (i*3) (zAp l))) (vs 99 (Ak (Al 3 (Ag (i*3) (zAp l)))) (Ak (cpD w)) (hd:=by simp(disch:=omega) only[hx2]) (vc (had) (vr 1 ((0:Int)<=(d:Int)/\(d:Int)<(Aa W:Int)) (vo0 104 7 (d*3) ?_)))))))))))))))))));refine vwh 1 [] [] (A7 (zEe (Ae cpD W))=Ac/\Ab=Ab/\3=3/\d*3+3<=Aa (AI (zEe (Ae cpD W)))/\¬7∈[]) ?_ ?_;rotate_left;refine vnil (zD (zC (zE (zA rfl (vr 2 (i6 ((i:Int)+(1:Int))) (vnil (zC ?_)))))));rotate_left
   ·exact⟨rfl,zBt _⟩
   ·exact⟨rfl,rfl,rfl,by show _<=(W.flatMap cpD).length;omega,by decide⟩
   refine⟨i+1,K,W.set d s,⟨by omega,hk1.symm,hw1.symm⟩,by omega,?_⟩;refine wkn (fr 108 [(0,prdD),(4,Aj 0 0),(6,Aj 1 0),(7,D.osr 4 0 (Aa c) (Aa c) Ab (nsD c)),(8,Aj 2 0),(11,By 5),(12,iD (i:Int)),(13,Ad (zN row) (Aa row)),(14,Aq (AJ (bs (idR (zP row c))))),(15,iD (d:Int)),(43,Ad (zAk l) (Aa l)),(44,iD (Aa l:Int)),(45,iD (↑(i+1):Int)),(60,bD Ac),(86,Aj 2 2),(87,Ai 7 0 (Aa W) (Aa W*3) Ab),(88,iD (d:Int)),(89,AG 36 (Ak [AG 29 (Ak []),AG 30 (Ak [])])),(90,Aj 2 2),(91,Ai 7 0 (Aa W) (Aa W*3) Ab),(92,iD (d:Int)),(93,Aj 7 (d*3)),(94,Ak (cpD u)),(95,Aj 0 2),(96,Ad (zAp l) (Aa l)),(97,iD (i:Int)),(98,AD (Ag (i*3) (zAp l))),(99,Ak (cpD w)),(100,Bc (Fn.method "Add") [AG 36 (Ak [AG 29 (Ak []),AG 30 (Ak [])])] []),(101,Bc (Fn.method "Add") [AG 36 (Ak [AG 29 (Ak []),AG 30 (Ak [])])] []),(102,AG 36 (Ak [AG 29 (Ak []),AG 30 (Ak [])])),(103,Ak [natD (AZ s),bD (A9 (AL s)),natD (A_ (AL s) 0)]),(104,Aj 7 (d*3)),(105,iD (↑(i+1):Int))]) [fB1P (Ad (nsD A) (Aa A)) (Ad (zAk l) (Aa l)) (Ad (zAp l) (Aa l)),fB1P nl nl nl,fB1P (Ai 3 0 (Aa c) (Aa c) Ab) (Ai 6 0 (Aa W) (Aa W) Ab) (Ai 7 0 (Aa W) (Aa W*3) Ab),intB (nsD (Af (λ(j:Nat)=>Ap A j 0) c)),Ao (nsD c) (3:TypeId) 1 Ab Ab Am,mapI K,rowB (Af rowV K),Ao (BQ (BQ (BQ (Ae cpD W) (d*3) (natD (AZ s))) (d*3+1) (bD (A9 (AL s)))) (d*3+1+1) (natD (A_ (AL s) 0))) (56:TypeId) 3 Ab Ac Am] ?_;rw[show((((W.flatMap cpD).set (d*3) (natD s.1)).set (d*3+1) (bD s.2.isNone)).set (d*3+2) (natD (s.2.getD 0)))=(W.set d s).flatMap cpD from hst,show(W.set d s).length=W.length by simp];refine vk 8
  rw[if_neg hm]at hk1 hw1 hlk;have hmp:=zY9 K (zP row c) hm;rw[<-hKW]at hmp;have hfl:=zCc zAt W;have hla:∀z:(Nat×Option Nat),((W.flatMap cpD++[natD z.1,bD z.2.isNone,natD (z.2.getD 0)]).drop (W.length*3)).take 3=[natD z.1,bD z.2.isNone,natD (z.2.getD 0)]:=λz=>by rw[List.drop_left' hfl];rfl
  have hlb:∀z:(Nat×Option Nat),3<=((W.flatMap cpD++[natD z.1,bD z.2.isNone,natD (z.2.getD 0)]).drop (W.length*3)).length:=λz=>by rw[List.drop_left' hfl];exact BE _
  obtain⟨z,hz⟩:∃z:(Nat×Option Nat),z=(0,AH):=⟨_,rfl⟩;have hzc:=zYm;rw[<-hz]at hzc;have hca:=padd_c z w (hz▸zokP) hs3;rw[show Sp.add z w=w by rw[hz];exact zadP w]at hca;have hlz:=zAt z;have hlw:=zAt w;focus
   refine zB (zA rfl (v0s (veT (zB (vT ((i:Int)<(Aa l:Int)) (zJ (zC (zE (zB (zF (zB (zA rfl (vr 2 (ix (i:Int) (Aa l:Int) (zAk l≠[])) (vp 48 (i) (zAk l) (vr 1 (0<Aa (Ag i (zAk l))) (vsh 49 hx1 (veT (zB (zA rfl (vrT 2 (vc (hk) (veT (zB (zA rfl (vwh 3 [] [] (zS (Bg (Bh Bi "string" 1 16 Ab 8 8 (An (AJ (Bd #[]))) Ab #[])) (AJ (bs (idR (zP row c))))=Ab/\BP (Af kyv K) (zS (Bg (Bh Bi "string" 1 16 Ab 8 8 (An (AJ (Bd #[]))) Ab #[])))=Ab) ?_ ?_)))))))))))))))))))))))));rotate_left;refine vsh 56 hlk (ve (0<2/\1<2) (zB (zB (zA rfl (veT (vt (zB (zA rfl (ve (True/\0<2) (zB (zA rfl (vwh 4 [] [] (A7 (mapI K)=Ac/\zS (Bg (Bh Bi "string" 1 16 Ab 8 8 (An (AJ (Bd #[]))) Ab #[])) (AJ (bs (idR (zP row c))))=Ab/\BP (Af kyv K) (zS (Bg (Bh Bi "string" 1 16 Ab 8 8 (An (AJ (Bd #[]))) Ab #[])))=Ab/\¬5∈[]) ?_ ?_))))))))))));rotate_left;refine vb 5 (mput (mapI K) (Af kyv K) (AJ (bs (idR (zP row c)))) (iD (Aa W:Int))) (mapI (K++[zP row c])) (hd:=by simp(disch:=omega) only[hmp]) (veT (zB (zA rfl (vrT 2 (vc (hpj) (ve (0<2/\1<2) (zB (zA rfl (vr 7 (True/\0<2/\((1=1/\1<=1/\True)/\0<1/\1=1/\1<=16777216/\1<=9223372036854775807)/\(A0 (rowB (Af rowV K))=Ab/\Aa (AI (rowB (Af rowV K)))=Aa W*1/\Aa W=Aa W*1/\AS (rowB (Af rowV K))=110/\AT (rowB (Af rowV K))=1/\1=1/\0<1/\0<24/\110=110/\(Aa W+1)*24<=140737488355328/\1=1/\AU (AA (rowB (Af rowV K)))=Ac/\(Ac=Ac\/AV (AA (rowB (Af rowV K)))=Ab))/\True/\A7 (Ao [Ai 3 0 (Aa c) (Aa c) Ab,Uk,Ai 7 0 (Aa W) (Aa W*3) Ab] 45 0 Ac Ac Am)=Ac/\Ab=Ab/\1=1/\2<=3) (vb 2 (Ao [Ai 3 0 (Aa c) (Aa c) Ab,Ai 6 0 (Aa W+1) ((Aa W+1)*1) Ab,Ai 7 0 (Aa W) (Aa W*3) Ab] (AS (Ao [Ai 3 0 (Aa c) (Aa c) Ab,Uk,Ai 7 0 (Aa W) (Aa W*3) Ab] 45 0 Ac Ac Am)) (AT (Ao [Ai 3 0 (Aa c) (Aa c) Ab,Uk,Ai 7 0 (Aa W) (Aa W*3) Ab] 45 0 Ac Ac Am)) Ac Ac (AA (Ao [Ai 3 0 (Aa c) (Aa c) Ab,Uk,Ai 7 0 (Aa W) (Aa W*3) Ab] 45 0 Ac Ac Am))) (Ao [Ai 3 0 (Aa c) (Aa c) Ab,Ai 6 0 (Aa W+1) (Aa W+1) Ab,Ai 7 0 (Aa W) (Aa W*3) Ab] 45 0 Ac Ac Am) (hd:=by simp(disch:=omega) only[Bm]) ?_))))))))));refine veT (vd [0,2,1,3,4,5,6,7] (vr 3 (True/\0<1) (vc (hzc) (ve (((3=3/\3<=3/\True)/\0<3/\3=3/\3<=16777216/\1<=9223372036854775807)/\(A0 (Ao (Ae cpD W) 56 3 Ab Ac Am)=Ab/\Aa (Ae cpD W)=Aa W*3/\Aa W*3=Aa W*3/\AS (Ao (Ae cpD W) 56 3 Ab Ac Am)=56/\AT (Ao (Ae cpD W) 56 3 Ab Ac Am)=3/\3=3/\0<3/\0<56/\56=56/\(Aa W+1)*56<=140737488355328/\3=3/\AU (AA (Ao (Ae cpD W) 56 3 Ab Ac Am))=Ac/\(Ac=Ac\/AV (AA (Ao (Ae cpD W) 56 3 Ab Ac Am))=Ab))/\True/\A7 (Ao [Ai 3 0 (Aa c) (Aa c) Ab,Ai 6 0 (Aa W+1) (Aa W+1) Ab,Uk] 45 0 Ac Ac Am)=Ac/\Ab=Ab/\1=1/\3<=3) (vd [0,2,3,4,6,9,11,14,15,16,1,5,7,8,10,12,13,17,18,19] (vr 13 (True/\True/\True/\0<1/\0<1/\(0:Int)<=(Aa W:Int)/\(Aa W:Int)<(↑(Aa W+1):Int)) (vo0 93 7 (Aa W*3) (vr 1 (3<=Aa (Ag (Aa W*3) (Ae cpD W++[natD (AZ z),bD (A9 (AL z)),natD (A_ (AL z) 0)]))) (vs 94 (Ak (Al 3 (Ag (Aa W*3) (Ae cpD W++[natD (AZ z),bD (A9 (AL z)),natD (A_ (AL z) 0)])))) (Ak [natD (AZ z),bD (A9 (AL z)),natD (A_ (AL z) 0)]) (hd:=by simp(disch:=omega) only[hla]) ?_) (by exact hlb _)))))))));refine vr 3 (0<1/\ix (i:Int) (Aa l:Int) (zAp l≠[])/\3<=Aa (Ag (i*3) (zAp l))) (vs 99 (Ak (Al 3 (Ag (i*3) (zAp l)))) (Ak (cpD w)) (hd:=by simp(disch:=omega) only[hx2]) (vc (hca) (vr 1 ((0:Int)<=(Aa W:Int)/\(Aa W:Int)<(↑(Aa W+1):Int)) (vo0 104 7 (Aa W*3) ?_))));refine vwh 1 [] [] (A7 (Ao (Ae cpD W++[natD (AZ z),bD (A9 (AL z)),natD (A_ (AL z) 0)]) 56 3 Ab Ac Am)=Ac/\Ab=Ab/\3=3/\Aa W*3+3<=Aa (Ae cpD W++[natD (AZ z),bD (A9 (AL z)),natD (A_ (AL z) 0)])/\¬7∈[]) ?_ ?_;rotate_left;refine vnil (zD (zC (zE (zA rfl (vr 2 (i6 ((i:Int)+(1:Int))) (vnil (zC ?_)))))));rotate_left
  ·exact⟨rfl,zBt _⟩
  ·exact⟨rfl,rfl,zBt _,by decide⟩
  ·exact⟨rfl,rfl,rfl,by rw[A1,hfl];exact BE _,by decide⟩
  refine⟨i+1,K++[zP row c],W++[w],⟨by omega,hk1.symm,hw1.symm⟩,by omega,?_⟩;refine wkn (fr 108 [(0,prdD),(4,Aj 0 0),(6,Aj 1 0),(7,D.osr 4 0 (Aa c) (Aa c) Ab (nsD c)),(8,Aj 2 0),(11,By 5),(12,iD (↑i:Int)),(15,iD (↑(Aa W):Int)),(43,Ad (zAk l) (Aa l)),(44,iD (↑(Aa l):Int)),(45,iD (↑(i+1):Int)),(86,Aj 2 2),(87,Ai 7 0 (Aa W+1) ((Aa W+1)*3) Ab),(88,iD (↑(Aa W):Int)),(89,AG 36 (Ak [AG 29 (Ak []),AG 30 (Ak [])])),(90,Aj 2 2),(91,Ai 7 0 (Aa W+1) ((Aa W+1)*3) Ab),(92,iD (↑(Aa W):Int)),(93,Aj 7 (Aa W*3)),(94,Ak [natD (AZ z),bD (A9 (AL z)),natD (A_ (AL z) 0)]),(95,Aj 0 2),(96,Ad (zAp l) (Aa l)),(97,iD (↑i:Int)),(98,AD (Ag (i*3) (zAp l))),(99,Ak (cpD w)),(100,Bc (Fn.method "Add") [AG 36 (Ak [AG 29 (Ak []),AG 30 (Ak [])])] []),(101,Bc (Fn.method "Add") [AG 36 (Ak [AG 29 (Ak []),AG 30 (Ak [])])] []),(102,AG 36 (Ak [AG 29 (Ak []),AG 30 (Ak [])])),(103,Ak [natD (AZ w),bD (A9 (AL w)),natD (A_ (AL w) 0)]),(104,Aj 7 (Aa W*3)),(105,iD (↑(i+1):Int))]) [Ao [Ad (nsD A) (Aa A),Ad (zAk l) (Aa l),Ad (zAp l) (Aa l)] (45:TypeId) 0 Ac Ac Am,Ao [nl,nl,nl] (45:TypeId) 0 Ac Ac Am,Ao [Ai 3 0 (Aa c) (Aa c) Ab,Ai 6 0 (Aa W+1) (Aa W+1) Ab,Ai 7 0 (Aa W+1) ((Aa W+1)*3) Ab] 45 0 Ac Ac Am,Ao (nsD (Af (λ(j:Nat)=>Ap A j 0) c)) (3:TypeId) 1 Ab Ac Am,Ao (nsD c) (3:TypeId) 1 Ab Ab Am,Ao (nsD (AB (Aa (K++[zP row c])))) (262:TypeId) 0 Ab Ac (Kd.map (Af kyv (K++[zP row c]))),Ao (Af rowV K++[Ad (zN (zP row c)) (Aa c)]) (110:TypeId) 1 Ab Ac Am,Ao (BQ (BQ (BQ (Ae cpD W++[natD (AZ z),bD (A9 (AL z)),natD (A_ (AL z) 0)]) (Aa W*3) (natD (AZ w))) (Aa W*3+1) (bD (A9 (AL w)))) (Aa W*3+1+1) (natD (A_ (AL w) 0))) 56 3 Ab Ac Am,Ao [Ad (zN (zP row c)) (Aa c)] 110 1 Ab Ac Am,Ao [natD (AZ z),bD (A9 (AL z)),natD (A_ (AL z) 0)] 56 3 Ab Ac Am] ?_;have hpl:(zP row c).length=c.length:=by simp[zP]
  rw[show((((W.flatMap cpD++[natD z.1,bD z.2.isNone,natD (z.2.getD 0)]).set (W.length*3) (natD w.1)).set (W.length*3+1) (bD w.2.isNone)).set (W.length*3+2) (natD (w.2.getD 0)))=(W++[w]).flatMap cpD from fl_snd zAt W z w,show(K++[zP row c]).map rowV=K.map rowV++[.row (zN (zP row c)) c.length] by rw[<-hpl];simp,show(W++[w]).length=W.length+1 by simp];refine vk 8
 have hn:Ndk (sumT Sp.add [] L):=zGm _ L [] (by simp[Ndk]);rw[AK (by omega)]at g2 g3;have hso:=zQs (c.map λj=>A.getD j 0) (sumT Sp.add [] L) (by rw[<-AR (f:=λp:Rw×(Nat×Option Nat)=>p.1),<-g2];exact hKl) (λp hp=>by
  have:=(zKy _ L [] p hp).resolve_left (by simp)
  obtain⟨q,hq,e⟩:=AE.1 this;rw[<-hL]at hq;obtain⟨q',_,rfl⟩:=AE.1 hq;rw[<-e];simp only[zP,AR];omega) hn
 have hT:(sumT Sp.add [] L).length=W.length:=by rw[g3,AR]
 have ht1:=zFy (c.map λj=>A.getD j 0) c.length (by simp);have ht2:(K.map rowV).take W.length=K.map rowV:=AK (by simp[hKW]);have ht3:(W.flatMap cpD).take (W.length*3)=W.flatMap cpD:=zBs zAt _ _ rfl;simp only[fcDP,zAk,zAp,<-g2,<-g3,hT]at hso;rw[AR]at hso;refine zB<|zA rfl<|v0s<|veT<|zB<|vF ((i:Int)<(Aa l:Int))<|zT<|zM<|zM<|zR rfl<|zC<|zE<|zB<|zA rfl<|vr 1 (3<=3)<|vcl [Ak [Ad (Al (Aa c)<|Ag 0<|AI<|intB<|nsD<|Af (λ(j:Nat)=>Ap A j 0) c)<|Aa c,Ad (Al (Aa W)<|Ag 0<|AI<|rowB<|Af rowV K)<|Aa W,Ad (Al (Aa W*3)<|Ag 0<|AI<|zEe<|Ae cpD W)<|Aa W]] [Ak [Ad (nsD<|Af (λ(j:Nat)=>Ap A j 0) c)<|Aa c,Ad (Af rowV K)<|Aa W,Ad (Ae cpD W)<|Aa W]] (LeL.of_eq (by simp(disch:=omega) only[AM,ht1,ht3,ht2])) (by exact hso)<|ve (Ac=Ac/\Ab=Ab/\3=3/\3<=3)<|zK<|vre (3<=3) (Ak [Ad (nsD<|Af (λ(j:Nat)=>Ap A j 0) c)<|Aa c,Ad (Af rowV<|Af (λ(x:Rw×Nat×Option Nat)=>AZ x)<|srtL<|sumT (Sr.add Sp) [] L)<|Aa<|srtL<|sumT (Sr.add Sp) [] L,Ad (Ae cpD<|Af (λ(x:Rw×Nat×Option Nat)=>AL x)<|srtL<|sumT (Sr.add Sp) [] L)<|Aa<|srtL<|sumT (Sr.add Sp) [] L]) (.inr rfl) (by simp)
end
section
set_option maxRecDepth 4096
abbrev zAc(f:Fa (Nat×Option Nat)):List D:=fcCP (f.A,f.l)
abbrev faAP(f:Fa (Nat×Option Nat)):D:=fcDP f.A f.l
theorem zAz(f:Fa (Nat×Option Nat)):(zAc f).length=3:=rfl
structure GofP(Dm:List Va)(f:Fa (Nat×Option Nat)):Prop where
 ok:FOk rcmp Dm f
 r:rz f<=900000
 v:qz f<=Bz
section
variable {Dm : List Va} (hD : Okv Dm)
theorem GofP.fv{f:Fa (Nat×Option Nat)}(h:GofP Dm f)(hD:Okv Dm):FVP (f.A,f.l):=
 ⟨h.ok.asc,h.ok.len,λp hp x hx=>(hD x (h.ok.dom p hp x hx)).2,by have:=h.r;unfold rz at this;simp only;omega,qz_ok h.v,h.ok.ndk rcw⟩
theorem zKg(hD:Okv Dm)(f g:Fa (Nat×Option Nat))(os:List (Fa (Nat×Option Nat)))(hf:GofP Dm f)(hg:GofP Dm g)(ho:∀o∈os,GofP Dm o)(hl:os.length<=1000)(hr:rz f*rz g<=900000):
  Pure Ar 57 [prdD,faAP f,faAP g, .row (os.flatMap zAc) os.length] [] (faAP (fmul rcmp Sp f g os)):=by
 simp only[rz,Nat.mul_add,Nat.add_mul]at hr;have h:=zSz (f.A,f.l) (g.A,g.l) (os.map λo=>(o.A,o.l)) (hf.fv hD) (hg.fv hD) (λo hm=>by
  obtain⟨o',hm',rfl⟩:=AE.1 hm;exact(ho o' hm').fv hD) (by simpa using hl) (by simp only;omega)
 have e1:(os.map λo=>(o.A,o.l)).flatMap fcCP=os.flatMap zAc:=by rw[Ce]
 rw[e1,AR]at h;have e2:((zBd Sp.mul f.A f.l g.A g.l).filter λp=>(os.map λo=>(o.A,o.l)).all λo=>okO (un f.A g.A) p.1 (faNP o))=(zBd Sp.mul f.A f.l g.A g.l).filter λp=>os.all λo=>okO (un f.A g.A) p.1 o:=by
  refine Cd λp _=>?_;rw[List.all_map];rfl
 have hn:=zDk (f:=Sp.mul) hf.ok.asc hg.ok.asc (hf.ok.ndk rcw) (hg.ok.ndk rcw) hf.ok.len hg.ok.len;have e3:fmul rcmp Sp f g os=⟨un f.A g.A,srtL ((zBd Sp.mul f.A f.l g.A g.l).filter λp=>os.all λo=>okO (un f.A g.A) p.1 o)⟩:=by
  unfold fmul;rw[zHm Sp.add (zC6 (λs=>os.all λo=>okO (un f.A g.A) s o) hn)]
 rw[e3,<-e2];exact h
theorem zW3(hD:Okv Dm)(f:Fa (Nat×Option Nat))(hf:GofP Dm f)(v:Nat)(hv:v∈f.A):Pure Ar 102 [prdD,faAP f,iD (v:Nat)] [] (faAP (fsum rcmp Sp v f)):=by
 have hr:=hf.r;have hv2:=hf.v;unfold rz at hr;have h:=zYa f.A f.l v (zBc hf.ok.asc) (by omega) hf.ok.len (λp hp x hx=>(hD x (hf.ok.dom p hp x hx)).2) (qz_ok hf.v) (λi=>sum_okP hf.v (λr=>zP r (zAu (λu=>decide ((u:Int)≠(v:Int))) f.A)) i);have e1:f.A.filter (λu:Nat=>decide ((u:Int)≠(v:Int)))=less f.A v:=Cd λu _=>by
  rw[BC,decide_eq_true_eq,decide_eq_true_eq];omega
 rw[zK6,e1]at h;have e2:(f.l.map λp=>(zP p.1 (zAu (λu:Nat=>decide ((u:Int)≠(v:Int))) f.A),p.2))=zFz f.A v f.l:=by
  unfold zFz;refine BG λp hp=>?_;rw[zCu hf.ok.asc.nd,e1];congr 1;conv=>rhs;rw[<-zHh hf.ok.asc.nd (hf.ok.len p hp),zH2,zC7 hf.ok.asc.nd]
 rw[e2,zLi]at h;exact h
end
end
section
attribute [local irreducible] seqW awp zAe zAh zAb Weak updS zAs retL Pure Acts rP setP setQ cP nP fr
set_option maxRecDepth 4096
set_option maxHeartbeats 8000000 in
theorem zT0(fs:List (Fa (Nat×Option Nat)))(E:List Nat)(hE:Asc E)(hne:E≠[])(hA:∀f∈fs,Asc f.A)(hl:fs.length<=1000):
  Pure Ar 55 [.row (fs.flatMap zAc) fs.length,u32D (msk E)] [] (iD (zAj popN fs E:Nat)):=by
 have hm:=zE0 (msk E) (zA3 hE.2);rw[zEf hE]at hm;have nE:=zBc hE;refine zH zCf mixed Tryz.func55 rfl<|zB<|zA rfl<|v0s<|veT<|zB<|zA rfl<|veT<|zB<|zB<|zA rfl<|vrT 1<|vc (hm)<|veT<|zF<|zAo (λ(i:Nat)(b:Int)(l:Nat)=>fr 59 [(0,Ad (Ae zAc fs)<|Aa fs),(4,iD 0),(5,iD b),(6,iD (l:Int)),(15,Ad (nsD E)<|Aa E),(16,iD (Aa E:Int)),(17,iD (i:Int))]) (λ(i:Nat)(b:Int)(l:Nat)=>[]) (λi b l=>E.length-i) (λ(i:Nat)(b:Int)(l:Nat)=>i<=E.length/\(b,l)=(E.take i).foldl (zC0 popN fs) (-1,0)) 0 (-1) 0 ?_ ?_ ?_
 ·exact⟨by omega,rfl⟩
 ·refine vk 0
 rintro i b l ⟨h1,h2⟩;rcases Aw i E.length with h3|h3
 ·have hz:=zAi E i h3;have hneE:nsD E≠[]:=zX;have hst:=zT2 fs E i h3 (-1,0);rw[<-h2]at hst;have hv32:=hE.2 _ (zBv E i h3);generalize E.getD i 0=v at*;refine zB<|zA rfl<|v0s<|veT<|zB<|vT ((i:Int)<(Aa E:Int))<|zJ<|zC<|zE<|zB<|zF<|zB<|zA rfl<|vr 1 (ix (i:Int) (Aa E:Int) (nsD E≠[]))<|vp 19 (i) (nsD E)<|vr 1 (0<Aa (Ag i<|nsD E))<|vsh 20 hz<|veT<|zB<|zA rfl<|veT<|zB<|zA rfl<|veT<|zB<|zB<|zA rfl<|veT<|zF<|zQ (λ(k:Nat)=>fr 59 [(0,Ad (Ae zAc fs)<|Aa fs),(4,iD 0),(5,iD b),(6,iD (l:Int)),(8,iD (v:Int)),(9,u32D<|uniM v<|Al k fs),(10,iD (↑(bigL v<|Al k fs):Int)),(15,Ad (nsD E)<|Aa E),(16,iD (Aa E:Int)),(17,iD (i:Int)),(21,Ad (Ae zAc fs)<|Aa fs),(22,iD (Aa fs:Int)),(23,iD (k:Int))]) (λ(k:Nat)=>[]) (λk=>fs.length-k) (λ(k:Nat)=>k<=fs.length) 0 ?_ ?_ ?_
  ·omega
  ·refine vk 0
  rintro k k1;rcases Aw k fs.length with k2|k2
  ·have hmf:=zAx fs Ah k k2;have hg2:=zA9 zAz fs k k2;have hle:=zB5 zAz fs k k2;have hne2:=zCb zAz (by decide) fs;have hAf:=hA _ hmf;have nAf:=zBc hAf;have u1:=zLb v fs k k2;have u2:=zMp v fs k k2;have u3:uniM v (fs.take k)<4294967296:=zHa v (fs.take k) 0 (by omega) λf hf=>(hA f (List.mem_of_mem_take hf)).2;have sA:=zJy (fs.getD k Ah).A _ rfl (by omega) hAf.2 (zAk (fs.getD k Ah).l) (zAp (fs.getD k Ah).l) (fs.getD k Ah).l.length (fs.getD k Ah).l.length;have hma:=zA3 hAf.2;have w1:=zR4 hma v;have w2:=zXs hma v;rw[zB2]at w1 w2;have w3:=zDt (msk (fs.getD k Ah).A) hv32;have w4:=zKu u3 hma;have w5:=zA4 (zH1 u3 hma);have w6:=zS2 (bigL v (fs.take k)) (fs.getD k Ah).A.length;generalize fs.getD k Ah=f at*;focus
    refine zB<|zA rfl<|v0s<|veT<|zB<|vT ((k:Int)<(Aa fs:Int))<|zJ<|zC<|zE<|zB<|zF<|zB<|zA rfl<|vr 2 (ix (k:Int) (Aa fs:Int) (Ae zAc fs≠[])/\3<=Aa (Ag (k*3)<|Ae zAc fs))<|vs 26 (Ak<|Al 3<|Ag (k*3)<|Ae zAc fs) (Ak<|zAc f) (hd:=by simp(disch:=omega) only[hg2])<|ve (Ac=Ac/\Ab=Ab/\3=3/\3<=3)<|zB<|zA rfl<|vr 1 (3<=3)<|vc (sA)<|vr 2 ((0:Int)<=(v:Int))<|vs 30 (Aq<|Ax Av<|Bu (↑(msk<|AC f):Int) ((2:Int)^min (As (v:Int)) 32)) (dig (msk (AC f)>>>v)) (hd:=by simp(disch:=omega) only[Az,w3])<|vrT 1<|vs 31 (Aq<|Ax Av<|AO Av (↑(AP (Ay 32 (↑(msk (AC f)>>>v):Int)&&&Ay 32 (1:Int))):Int)) (dig<|AP (Ay 32 (↑(msk (AC f)>>>v):Int)&&&Ay 32 (1:Int))) (hd:=by simp(disch:=omega) only[zA1])<|vrT 1<|vs 32 (bD ((↑(AP (Ay 32 (↑(msk (AC f)>>>v):Int)&&&Ay 32 (1:Int))):Int)==(1:Int))) (bD<|decide (v∈AC f)) (hd:=by simp(disch:=omega) only[w1])<|veT<|vcD (v∈AC f) (λhc=>?_)<|λhc=>?_;refine zB<|zA rfl<|vr 2 (3<=3)<|vc (sA)<|vrT 1<|vs 36 (Aq<|Ax Av<|AO Av (↑(AP (Ay 32 (↑(uniM v<|Al k fs):Int)|||Ay 32 (↑(msk<|AC f):Int))):Int)) (dig (uniM v (Al k fs)|||msk (AC f))) (hd:=by simp(disch:=omega) only[w4,w5])<|veT<|zA rfl<|vr 5 (True/\0<3)<|vs 41 (iD (if(Aa (AC f):Int)>(↑(bigL v<|Al k fs):Int)then(Aa (AC f):Int)else(↑(bigL v<|Al k fs):Int))) (iD (↑(max (bigL v<|Al k fs)<|Aa<|AC f):Int)) (hd:=by simp(disch:=omega) only[w6])<|vrT 1<|vnil<|zD<|zC<|zE<|zA rfl<|vr 2 (i6 ((k:Int)+(1:Int)))<|vnil<|zC ?_;rotate_left;refine zJ<|zD<|zC<|zE<|zA rfl<|vr 2 (i6 ((k:Int)+(1:Int)))<|vnil<|zC ?_;rotate_left
   ·rw[if_pos hc]at u1 u2;refine⟨k+1,by omega,by omega,?_⟩;rw[u1,u2];refine vk 0
   rw[if_neg hc]at u1 u2;refine⟨k+1,by omega,by omega,?_⟩;rw[u1,u2];refine vk 0
  obtain rfl:k=fs.length:=by omega
  have u3:uniM v fs<4294967296:=zHa v fs 0 (by omega) λf hf=>(hA f hf).2;have hp:=zYu (uniM v fs) u3;rw[BZ];have hco:zDp popN fs v=if popN (uniM v fs)=bigL v fs then 0 else popN (uniM v fs):=rfl
  unfold zC0 at hst;generalize popN (uniM v fs)=q at*;focus
   refine zB<|zA rfl<|v0s<|veT<|zB<|vF ((Aa fs:Int)<(Aa fs:Int))<|zT<|zM<|zM<|zR rfl<|zC<|zE<|zB<|zA rfl<|vrT 1<|vc (hp)<|veT<|zB<|zB<|zA rfl<|veT<|zAa (t:=(q:Int)==(↑(bigL v fs):Int)) (by kernel_rfl) (λhc=>?_)<|λhc=>?_;simp only[beq_iff_eq]at hc;refine zA rfl<|veT<|zB<|zA rfl<|vrT 3<|vspD 50 (b<0) (λhc=>?_)<|λhc=>?_;refine veT<|vt<|zA rfl<|vrT 4<|vnil<|zD<|zC<|zE<|zA rfl<|vr 2 (i6 ((i:Int)+(1:Int)))<|vnil<|zC ?_;rotate_left;refine veT<|vcD ((0:Int)<(l:Int)) (λhc=>?_)<|λhc=>?_;refine zA rfl<|vrT 4<|vnil<|zD<|zC<|zE<|zA rfl<|vr 2 (i6 ((i:Int)+(1:Int)))<|vnil<|zC ?_;rotate_left;refine zJ<|zD<|zC<|zE<|zA rfl<|vr 2 (i6 ((i:Int)+(1:Int)))<|vnil<|zC ?_;rotate_left;simp only[beq_eq_false_iff_ne]at hc;refine zJ<|zC<|zE<|zB<|zA rfl<|vrT 3<|vspD 50 (b<0) (λhc=>?_)<|λhc=>?_;refine veT<|vt<|zA rfl<|vrT 4<|vnil<|zD<|zC<|zE<|zA rfl<|vr 2 (i6 ((i:Int)+(1:Int)))<|vnil<|zC ?_;rotate_left;refine veT<|vcD ((q:Int)<(l:Int)) (λhc=>?_)<|λhc=>?_;refine zA rfl<|vrT 4<|vnil<|zD<|zC<|zE<|zA rfl<|vr 2 (i6 ((i:Int)+(1:Int)))<|vnil<|zC ?_;rotate_left;refine zJ<|zD<|zC<|zE<|zA rfl<|vr 2 (i6 ((i:Int)+(1:Int)))<|vnil<|zC ?_;rotate_left
  ·have e:zDp popN fs v=0:=by rw[hco,if_pos (by omega)]
   rw[e,if_pos (by simp only;omega)]at hst;refine⟨i+1,(v:Int),0,⟨by omega,hst.symm⟩,by omega,?_⟩;refine vk 0
  ·have e:zDp popN fs v=0:=by rw[hco,if_pos (by omega)]
   rw[e,if_pos (by simp only;omega)]at hst;refine⟨i+1,(v:Int),0,⟨by omega,hst.symm⟩,by omega,?_⟩;refine vk 0
  ·have e:zDp popN fs v=0:=by rw[hco,if_pos (by omega)]
   rw[e,if_neg (by simp only;omega)]at hst;refine⟨i+1,b,l,⟨by omega,hst.symm⟩,by omega,?_⟩;refine vk 0
  ·have e:zDp popN fs v=q:=by rw[hco,if_neg (by omega)]
   rw[e,if_pos (by simp only;omega)]at hst;refine⟨i+1,(v:Int),q,⟨by omega,hst.symm⟩,by omega,?_⟩;refine vk 0
  ·have e:zDp popN fs v=q:=by rw[hco,if_neg (by omega)]
   rw[e,if_pos (by simp only;omega)]at hst;refine⟨i+1,(v:Int),q,⟨by omega,hst.symm⟩,by omega,?_⟩;refine vk 0
  have e:zDp popN fs v=q:=by rw[hco,if_neg (by omega)]
  rw[e,if_neg (by simp only;omega)]at hst;refine⟨i+1,b,l,⟨by omega,hst.symm⟩,by omega,?_⟩;refine vk 0
 rw[AK (by omega)]at h2;have hcm:=(zEk popN fs hne).2;rw[<-h2]at hcm;refine zB<|zA rfl<|v0s<|veT<|zB<|vF ((i:Int)<(Aa E:Int))<|zT<|zM<|zM<|zR rfl<|zC<|zE<|zB<|zA rfl<|veT<|zK<|vre (True) (Aq<|Ax AY b) (.inr rfl) ?_;rw[<-hcm]
end
section
set_option maxRecDepth 4096
abbrev fsBP(l:List D):Bk:=⟨l,45,3,Ab,Ac, .plain⟩
theorem grow_cP(n:Nat)(hn:0<n)(hb:n<=1000000):Pure Ar 145 [nl,iD (n:Nat)] [fsBP []] (.osl 0 0 0 0 Ab):=by
 obtain⟨i0,hi0⟩:∃i0,Ar.info? 45=An i0/\i0.size=3/\i0.bytes=72/\i0.zero=An (.agg #[.slice AH 0 0, .slice AH 0 0, .slice AH 0 0]):=⟨(Ar.info? 45).getD Ah,by kernel_rfl,by kernel_rfl,by kernel_rfl,by kernel_rfl⟩;obtain⟨h1,h2,h3,h4⟩:=hi0;intro I w vs hr hi hg;rw[zFh [.slice AH 0 0, .int .i64 n] vs hr];have hc:=Any8.slices_Grow_grow Tryz.grow145 i0 _ h1 h4 (by omega) AH 0 0 n [] w (BE _) (by omega) (by rw[h3];omega) (by omega) (by simp) (λ_=>rfl) (λa h=>by cases h);have hge:=grownCap_ge w (0+n) 0 (Tryz.grow145_ren.t 25);have hmx:=grownCap_le_maxLen w (0+n) 0 (Tryz.grow145_ren.t 25) (by unfold maxLen;omega);generalize grownCap w (0+n) 0 (Tryz.grow145_ren.t 25)=G at*;refine hc.mono ?_;rintro e w' ⟨rfl,rfl⟩;have key:∀{k b c:Nat},(if k=0 then An (w.heap.size,G)else AH)=An (b,c)->k=0/\b=w.heap.size/\c=G:=λ{k b c} h=>by
  split at h
  ·rename_i e;cases h;exact⟨e,rfl,rfl⟩
  cases h
 have hext:∀o,Ext w (w.drew.alloc o):=λo=>(Ext.drew w).trans (Ext.alloc _ o);refine⟨_,I,λk=>if k=0 then An (w.heap.size,G)else AH,rfl,hext _,λb o hb=>Nat.lt_of_lt_of_le (hi b o hb) (hext _).size,Fix.ext (hext _) λ_ _ h=>h,λ_ _ h=> .inl h,λk b c h=>?_,λk b c h=>?_,λk k' b c c' h h'=>?_,λk b c j e h he hij=>?_,λk y h=>?_,?_,by simp⟩
 ·exact Nat.le_of_eq (key h).2.1.symm
 ·obtain⟨rfl,rfl,rfl⟩:=key h;refine⟨fsBP [],rfl,OwnC.r ⟨(#[]++Builtin.zeroCells (Value.agg #[Bt AH 0 0,Bt AH 0 0,Bt AH 0 0]).cells (0+n-0)++Builtin.zeroCells (Value.agg #[Bt AH 0 0,Bt AH 0 0,Bt AH 0 0]).cells (c-(0+n))).toList,?_,Nat.zero_le _,?_,λ_=>?_,hmx⟩ rfl⟩
  ·rw[Array.toArray_toList];exact heap_alloc_new w.drew _
  ·rfl
  rw[Array.length_toList,Array.size_append,Array.size_append,size_zeroCells,size_zeroCells,show(Value.agg #[Bt AH 0 0,Bt AH 0 0,Bt AH 0 0]).cells.size=3 from rfl];simp only[List.size_toArray,B9];show _=c*3;omega
 ·rw[(key h).1,(key h').1]
 ·have:=hi b j hij
  have:=(key h).2.1
  omega
 ·have:=(key h).1
  simp;omega
 simp only[Rel];exact .inr (.inr ⟨w.heap.size,G,G,rfl,rfl,Nat.zero_le _,hmx,λ_=>by simp⟩)
theorem grow0_cP:Pure Ar 145 [nl,iD ((0:Nat):Int)] [] nl:=
 zC5 (us:=[.slice AH 0 0, .int .i64 ((0:Nat):Int)]) (λw=>(Any8.slices_Grow_room Tryz.grow145 AH 0 0 0 w (by omega) (by omega) (by omega) (by omega)).mono λe w' h=>⟨h.1,h.2.symm⟩)
end
section
attribute [local irreducible] seqW awp zAe zAh zAb Weak updS zAs retL Pure Acts rP setP setQ cP nP fr
set_option maxRecDepth 4096
set_option maxHeartbeats 2000000 in
theorem concat_cP(a b:List D)(n m:Nat)(ha:a.length=n*3)(hb:b.length=m*3)(hn:n<=1000)(hm:m<=1000)(n1:∀d∈a,True):Pure Ar 101 [.row [.row a n, .row b m] 2] [] (.row (a++b) (n+m)):=by
 have zadd:(n:Int)+(m:Int)=((n+m:Nat):Int):=by omega
 have ht:(a++b).take ((n+m)*3)=a++b:=AK (by rw[A1];omega);rcases Nat.eq_zero_or_pos (n+m)with h|h
 ·obtain rfl:n=0:=by omega
  obtain rfl:m=0:=by omega
  obtain rfl:a=[]:=Cf (by omega);obtain rfl:b=[]:=Cf (by omega);refine zH zCf mixed Tryz.func101 rfl<|zB<|zA rfl<|v0s<|veT<|zB<|zA rfl<|veT<|zB<|zB<|zA rfl<|veT<|zF<|zW<|zB<|zA rfl<|veT<|zB<|vt<|zJ<|zC<|zE<|zB<|zF<|zB<|zA rfl<|ve (ix (0:Int) (↑(2:Nat):Int) ([Ad [] 0,Ad [] 0]≠[])/\0<2)<|zB<|zA rfl<|ve (i6 ((0:Int)+(↑(0:Nat):Int)))<|zB<|zA rfl<|veT<|vf<|zJ<|zD<|zC<|zE<|zA rfl<|vr 2 (i6 ((0:Int)+(1:Int)))<|vnil<|zC<|zW ?_;refine zB<|zA rfl<|veT<|zB<|vt<|zJ<|zC<|zE<|zB<|zF<|zB<|zA rfl<|ve (ix (1:Int) (↑(2:Nat):Int) ([Ad [] 0,Ad [] 0]≠[])/\0<1)<|zB<|zA rfl<|ve (i6 ((0:Int)+(↑(0:Nat):Int)+(↑(0:Nat):Int)))<|zB<|zA rfl<|veT<|vf<|zJ<|zD<|zC<|zE<|zA rfl<|vr 2 (i6 ((1:Int)+(1:Int)))<|vnil<|zC<|zW<|zB<|zA rfl<|veT<|zB<|vf<|zT<|zM<|zM<|zR rfl<|zC<|zE<|zB<|zA rfl<|vrT 1<|vc (grow0_cP)<|veT<|zB<|zB<|zA rfl<|veT<|zF<|zW<|zB<|zA rfl<|veT<|zB<|vt<|zJ<|zC<|zE<|zB<|zF<|zB<|zA rfl<|ve (ix (0:Int) (↑(2:Nat):Int) ([Ad [] 0,Ad [] 0]≠[])/\0<2)<|zA rfl<|vr 4 (0=0/\0<3/\0<72/\45=45/\0<=140737488355328/\3=3)<|vnil<|zD<|zC<|zE<|zA rfl<|vr 2 (i6 ((0:Int)+(1:Int)))<|vnil<|zC<|zW<|zB<|zA rfl<|veT<|zB<|vt<|zJ<|zC<|zE<|zB<|zF<|zB<|zA rfl<|ve (ix (1:Int) (↑(2:Nat):Int) ([Ad [] 0,Ad [] 0]≠[])/\0<1)<|zA rfl<|vr 4 (Ab=Ab/\0=0/\0=0/\45=45/\3=3/\0=0/\0<3/\0<72/\45=45/\0<=140737488355328/\3=3/\Ac=Ac/\(Ac=Ac\/Ac=Ab))<|vnil<|zD<|zC<|zE<|zA rfl<|vr 2 (i6 ((1:Int)+(1:Int)))<|vnil<|zC<|zW<|zB<|zA rfl<|veT<|zB<|vf<|zT<|zM<|zM<|zR rfl<|zC<|zE<|zB<|zA rfl<|veT<|zK<|vret (True)<|.inr rfl
 have hg:=grow_cP (n+m) h (by omega);refine zH zCf mixed Tryz.func101 rfl<|zB<|zA rfl<|v0s<|veT<|zB<|zA rfl<|veT<|zB<|zB<|zA rfl<|veT<|zF<|zW<|zB<|zA rfl<|veT<|zB<|vt<|zJ<|zC<|zE<|zB<|zF<|zB<|zA rfl<|ve (ix (0:Int) (↑(2:Nat):Int) ([Ad a n,Ad b m]≠[])/\0<2)<|zB<|zA rfl<|vr 4 (i6 ((0:Int)+(n:Int)))<|vs 18 (iD ((0:Int)+(n:Int))) (iD (n:Int)) (hd:=by simp(disch:=omega) only[Int.zero_add])<|veT<|zB<|zA rfl<|veT<|vF ((n:Int)<0)<|zJ<|zD<|zC<|zE<|zA rfl<|vr 2 (i6 ((0:Int)+(1:Int)))<|vnil<|zC<|zW<|zB<|zA rfl<|veT<|zB<|vt<|zJ<|zC<|zE<|zB<|zF<|zB<|zA rfl<|ve (ix (1:Int) (↑(2:Nat):Int) ([Ad a n,Ad b m]≠[])/\0<1)<|zB<|zA rfl<|ve (i6 ((n:Int)+(m:Int)))<|zB<|zA rfl<|veT<|vF ((↑(n+m):Int)<0)<|zJ<|zD<|zC<|zE<|zA rfl<|vr 2 (i6 ((1:Int)+(1:Int)))<|vnil<|zC<|zW<|zB<|zA rfl<|veT<|zB<|vf<|zT<|zM<|zM<|zR rfl<|zC<|zE<|zB<|zA rfl<|vrT 1<|vn (hg)<|veT<|zB<|zB<|zA rfl<|veT<|zF<|zW<|zB<|zA rfl<|veT<|zB<|vt<|zJ<|zC<|zE<|zB<|zF<|zB<|zA rfl<|ve (ix (0:Int) (↑(2:Nat):Int) ([Ad a n,Ad b m]≠[])/\0<2)<|zA rfl<|vr 4 (Ab=Ab/\0=0/\0=0/\45=45/\3=3/\Aa a=n*3/\0<3/\0<72/\45=45/\(0+n)*72<=140737488355328/\3=3/\Ac=Ac/\(Ac=Ac\/Ac=Ab))<|vs 6 (Ai 0 0 (0+n) ((0+n)*3) Ab) (Ai 0 0 n (n*3) Ab) (hd:=by simp(disch:=omega) only[Nat.zero_add])<|vnil<|zD<|zC<|zE<|zA rfl<|vr 2 (i6 ((0:Int)+(1:Int)))<|vnil<|zC<|zW<|zB<|zA rfl<|veT<|zB<|vt<|zJ<|zC<|zE<|zB<|zF<|zB<|zA rfl<|ve (ix (1:Int) (↑(2:Nat):Int) ([Ad a n,Ad b m]≠[])/\0<1)<|zA rfl<|vr 4 (A0 (Ao a 45 3 Ab Ac Am)=Ab/\Aa a=n*3/\n*3=n*3/\AS (Ao a 45 3 Ab Ac Am)=45/\AT (Ao a 45 3 Ab Ac Am)=3/\Aa b=m*3/\0<3/\0<72/\45=45/\(n+m)*72<=140737488355328/\3=3/\AU (AA<|Ao a 45 3 Ab Ac Am)=Ac/\(Ac=Ac\/AV (AA<|Ao a 45 3 Ab Ac Am)=Ab))<|vnil<|zD<|zC<|zE<|zA rfl<|vr 2 (i6 ((1:Int)+(1:Int)))<|vnil<|zC<|zW<|zB<|zA rfl<|veT<|zB<|vf<|zT<|zM<|zM<|zR rfl<|zC<|zE<|zB<|zA rfl<|veT<|zK<|zBr (True) (Ad (Al ((n+m)*3)<|Ag 0 (a++b)) (n+m)) (Ad (a++b) (n+m)) (.inr rfl) (by simp(disch:=omega) only[AM,ht]) rfl
theorem zZo:(Ar.info? 45).map (λi=>(i.zero,i.size,i.bytes))=An (An (.agg #[.slice AH 0 0, .slice AH 0 0, .slice AH 0 0]),3,72):=by kernel_rfl
set_option maxHeartbeats 400000 in
theorem clone0_fasP:Pure Ar 54 [.row [] 0] [⟨[],45,3,Ab,Ac, .plain⟩] (.osl 0 0 0 0 Ab):=by
 refine zHy λI w vs hr=>?_;simp only[RelT,Rel]at hr;obtain⟨v,ys,rfl,⟨a,c,rfl,_,_,hc,_⟩,rfl⟩:=hr;cases a with
 |none=>
  obtain rfl:=hc rfl;have he:=λ(w:World)=>Lib.run_eql_slice_nil (P:=Ar) w 37 45 AH 0 0 0 0 Tryz.underlying37;go_enter Tryz.func54,Tryz.ntmps54;go_wp2;go_ret;exact .inl ⟨rfl,Ext.refl _⟩
 |some x=>
  obtain⟨i0,hi,hz0,hz1,hz2⟩:=info_parts zZo;have he:=λ(w:World)=>Lib.run_eql_slice_nil (P:=Ar) w 37 45 (An x) 0 c 0 0 Tryz.underlying37;have hS:RowAt (λ_=>True) w (An x) []:= .inl rfl;go_enter Tryz.func54,Tryz.ntmps54;go_wp2_with (at_builtin;refine zB3 rfl _ _ 37 rfl w.heap.size 45 i0 (.agg #[.slice AH 0 0, .slice AH 0 0, .slice AH 0 0]) 3 72 Tryz.underlying37 hi hz0 hz1 hz2 rfl (by decide) (.slice (An ⟨w.heap.size,0,AH⟩) 0 0) 0 [] rfl (World.ownsRow_made _ #[] 0 (BE _) (Nat.zero_le _) rfl) x 0 c [] rfl (by simp) (by simp) (by simp) (by simp[maxLen]) (by decide) (by simp) ?_;intro v' w' hown hgrow hdr);go_ret;have hext:Ext w w':=⟨((Below.refl _ _).alloc (BE _) _).grown hgrow (by simp) (by simp[Value.ownBlock]),hdr⟩;obtain⟨_,⟨rfl,_⟩|⟨g,cap,cur,rfl,hb,hg,_,hc1,hs,_⟩⟩:=hown
  ·exact .inl ⟨rfl,hext⟩
  exact .inr ⟨g,cur.toList,cap,rfl,hb,hext,by rw[Array.toArray_toList];exact hg,by simpa using hs,hc1⟩
theorem cloneF_cP(a:List D)(n:Nat)(ha:a.length=n*3)(hn:n<=1000):Pure Ar 54 [.row a n] [] (.row a n):=by
 by_cases h0:n=0
 ·subst h0;obtain rfl:a=[]:=Cf (by omega);exact clone0_fasP.frozen rfl rfl
 have h1:0<n:=by omega
 have ht:a.take (n*3)=a:=AK (by omega);refine zH zCf mixed Tryz.func54 rfl<|zB<|zA rfl<|v0s<|veT<|zB<|zB<|zA rfl<|ve (0<n)<|vf<|zJ<|zC<|zE<|zB<|zA rfl<|vr 4 ((True/\0<3/\3=3/\0<=16777216/\0<=9223372036854775807)/\Ab=Ab/\0=0/\0=0/\45=45/\3=3/\Aa a=n*3/\0<3/\0<72/\45=45/\(0+n)*72<=140737488355328/\3=3/\Ac=Ac/\(Ac=Ac\/Ac=Ab))<|vs 2 (Ai 0 0 (0+n) ((0+n)*3) Ab) (Ai 0 0 n (n*3) Ab) (hd:=by simp(disch:=omega) only[Nat.zero_add])<|veT<|zK<|zBr (True) (Ad (Al (n*3)<|Ag 0 a) n) (Ad a n) (.inr rfl) (by simp(disch:=omega) only[AM,ht]) rfl
theorem zJ3(l:List (Fa (Nat×Option Nat))):(l.flatMap zAc).length=l.length*3:=zCc zAz l
theorem zWy(v:Nat)(fs:List (Fa (Nat×Option Nat)))(k:Nat)(h:k<fs.length):zCg v (fs.take (k+1))=zCg v (fs.take k)++(if v∈(fs.getD k Ah).A then[fs.getD k Ah]else[])/\zCq v (fs.take (k+1))=zCq v (fs.take k)++(if v∈(fs.getD k Ah).A then[]else[fs.getD k Ah]):=by
 rw[zBl fs k h];unfold zCg zCq;rw[BA,BA];constructor<;>congr 1<;>by_cases hc:v∈(fs.getD k Ah).A<;>simp[BX,hc]
theorem zP3(l:List (Fa (Nat×Option Nat)))(f:Fa (Nat×Option Nat)):(l++[f]).flatMap zAc=l.flatMap zAc++zAc f:=by simp
section
variable {Dm : List Va}
set_option maxHeartbeats 8000000 in
theorem zRv(hD:Okv Dm)(fs:List (Fa (Nat×Option Nat)))(v:Nat)(hf:∀f∈fs,FOk rcmp Dm f)(hl:fs.length<=500)(hr:pz rz fs<=900000)(hz:pz qz fs<=Bz)(hv:∃f∈fs,v∈f.A)(hv32:v<32):
  Pure Ar 56 [prdD, .row (fs.flatMap zAc) fs.length,iD (v:Nat)] [] (.row ((elim rcmp Sp v fs).flatMap zAc) (elim rcmp Sp v fs).length):=by
 have hg:∀f∈fs,GofP Dm f:=λf h=>⟨hf f h,Au (zFx zCh h) hr,Au (zFx zLq h) hz⟩;refine zH zCf mixed Tryz.func56 rfl<|zB<|zA rfl<|v0s<|veT<|zB<|zA rfl<|veT<|zB<|zB<|zA rfl<|veT<|zF<|zAo (λ(k:Nat)(a:List (Fa (Nat×Option Nat)))(b:List (Fa (Nat×Option Nat)))=>fr 65 [(0,prdD),(2,iD (v:Int)),(6,nl),(7,Ai 0 0 (Aa a) (Aa a*3) Ab),(8,Ai 1 0 (Aa b) (Aa b*3) Ab),(14,Ad (Ae zAc fs)<|Aa fs),(15,iD (Aa fs:Int)),(16,iD (k:Int))]) (λ(k:Nat)(a:List (Fa (Nat×Option Nat)))(b:List (Fa (Nat×Option Nat)))=>[fsBP<|a.flatMap zAc,fsBP<|b.flatMap zAc]) (λk a b=>fs.length-k) (λ(k:Nat)(a:List (Fa (Nat×Option Nat)))(b:List (Fa (Nat×Option Nat)))=>k<=fs.length/\a=zCg v (fs.take k)/\b=zCq v (fs.take k)) 0 [] [] ?_ ?_ ?_
 ·exact⟨by omega,rfl,rfl⟩
 ·refine vk 0
 rintro k a b ⟨h1,ha,hb⟩;rcases Aw k fs.length with h2|h2
 ·have hmf:=zAx fs Ah k h2;have hg2:=zA9 zAz fs k h2;have hle:=zB5 zAz fs k h2;have hne2:=zCb zAz (by decide) fs;have hAf:=(hf _ hmf).asc;have nAf:=zBc hAf;have sA:=zJy (fs.getD k Ah).A _ rfl (by omega) hAf.2 (zAk (fs.getD k Ah).l) (zAp (fs.getD k Ah).l) (fs.getD k Ah).l.length (fs.getD k Ah).l.length;have hma:=zA3 hAf.2;have w1:=zR4 hma v;have w2:=zXs hma v;rw[zB2]at w1 w2;have w3:=zDt (msk (fs.getD k Ah).A) hv32;obtain⟨u1,u2⟩:=zWy v fs k h2;rw[<-ha]at u1;rw[<-hb]at u2;have la:a.length<=500:=by rw[ha];exact Au (Bj _ _) (by simp;omega)
  have lb:b.length<=500:=by rw[hb];exact Au (Bj _ _) (by simp;omega)
  have ca:=zJ3 a;have cb:=zJ3 b;generalize fs.getD k Ah=f at*;focus
   refine zB<|zA rfl<|v0s<|veT<|zB<|vT ((k:Int)<(Aa fs:Int))<|zJ<|zC<|zE<|zB<|zF<|zB<|zA rfl<|vr 2 (ix (k:Int) (Aa fs:Int) (Ae zAc fs≠[])/\3<=Aa (Ag (k*3)<|Ae zAc fs))<|vs 19 (Ak<|Al 3<|Ag (k*3)<|Ae zAc fs) (Ak<|zAc f) (hd:=by simp(disch:=omega) only[hg2])<|ve (Ac=Ac/\Ab=Ab/\3=3/\3<=3)<|zB<|zA rfl<|vr 1 (3<=3)<|vc (sA)<|vr 2 ((0:Int)<=(v:Int))<|vs 23 (Aq<|Ax Av<|Bu (↑(msk<|AC f):Int) ((2:Int)^min (As (v:Int)) 32)) (dig (msk (AC f)>>>v)) (hd:=by simp(disch:=omega) only[Az,w3])<|vrT 1<|vs 24 (Aq<|Ax Av<|AO Av (↑(AP (Ay 32 (↑(msk (AC f)>>>v):Int)&&&Ay 32 (1:Int))):Int)) (dig<|AP (Ay 32 (↑(msk (AC f)>>>v):Int)&&&Ay 32 (1:Int))) (hd:=by simp(disch:=omega) only[zA1])<|vrT 1<|vs 25 (bD ((↑(AP (Ay 32 (↑(msk (AC f)>>>v):Int)&&&Ay 32 (1:Int))):Int)==(1:Int))) (bD<|decide (v∈AC f)) (hd:=by simp(disch:=omega) only[w1])<|veT<|vcD (v∈AC f) (λhc=>?_)<|λhc=>?_;refine zA rfl<|vr 5 (3<=3/\((3=3/\3<=3/\True)/\0<3/\3=3/\3<=16777216/\1<=9223372036854775807)/\A0 (fsBP<|Ae zAc a)=Ab/\Aa (AI<|fsBP<|Ae zAc a)=Aa a*3/\Aa a*3=Aa a*3/\AS (fsBP<|Ae zAc a)=45/\AT (fsBP<|Ae zAc a)=3/\3=3/\0<3/\0<72/\45=45/\(Aa a+1)*72<=140737488355328/\3=3/\AU (AA<|fsBP<|Ae zAc a)=Ac/\(Ac=Ac\/AV (AA<|fsBP<|Ae zAc a)=Ab))<|vnil<|zD<|zC<|zE<|zA rfl<|vr 2 (i6 ((k:Int)+(1:Int)))<|vnil<|zC ?_;rotate_left;refine zA rfl<|vr 5 (3<=3/\((3=3/\3<=3/\True)/\0<3/\3=3/\3<=16777216/\1<=9223372036854775807)/\A0 (fsBP<|Ae zAc b)=Ab/\Aa (AI<|fsBP<|Ae zAc b)=Aa b*3/\Aa b*3=Aa b*3/\AS (fsBP<|Ae zAc b)=45/\AT (fsBP<|Ae zAc b)=3/\3=3/\0<3/\0<72/\45=45/\(Aa b+1)*72<=140737488355328/\3=3/\AU (AA<|fsBP<|Ae zAc b)=Ac/\(Ac=Ac\/AV (AA<|fsBP<|Ae zAc b)=Ab))<|vnil<|zD<|zC<|zE<|zA rfl<|vr 2 (i6 ((k:Int)+(1:Int)))<|vnil<|zC ?_;rotate_left
  ·rw[if_pos hc]at u1 u2;rw[Bl]at u2;refine⟨k+1,a++[f],b,⟨by omega,u1.symm,u2.symm⟩,by omega,?_⟩;rw[zP3,zCv];refine vk 2
  rw[if_neg hc]at u1 u2;rw[Bl]at u1;refine⟨k+1,a,b++[f],⟨by omega,u1.symm,u2.symm⟩,by omega,?_⟩;rw[zP3,zCv];refine vk 2
 rw[AK (by omega)]at ha hb;have hperm:=zC2 v fs;rw[<-ha,<-hb]at hperm;have hpr:=zHd rz hperm;have hpv:=zHd qz hperm;have hmem:=λf=>hperm.mem_iff (a:=f);have hvin:∀f∈a,v∈f.A:=λf h=>by
  rw[ha,zCg,A2]at h;simpa using h.2
 have hlen:=hperm.length_eq;rw[A1]at hlen;cases a with
 |nil=>
  exfalso;obtain⟨f,h5,h6⟩:=hv;have:f∈zCg v fs:=A2.2 ⟨h5,by simpa using h6⟩;rw[<-ha]at this;simp at this
 | cons p ws=>
  have hel:elim rcmp Sp v fs=b++[fsum rcmp Sp v (zBb rcmp Sp p ws b)]:=by
   unfold elim;rw[<-ha,<-hb]
  rw[hel];clear hel ha hb hv;have h0:((p::ws).flatMap zAc).take 3=zAc p:=rfl;have hfa:=zBs zAz (p::ws) (ws.length+1) rfl;have hfb:=zBs zAz b _ rfl;refine zB<|zA rfl<|v0s<|veT<|zB<|vF ((k:Int)<(Aa fs:Int))<|zT<|zM<|zM<|zR rfl<|zC<|zE<|zB<|zA rfl<|vr 5 (((0:Int)<=(0:Int)/\(0:Int)<(↑(Aa ws+1):Int))/\3<=Aa (Ag 0<|AI<|fsBP<|Ae zAc (p::ws))/\Ac=Ac/\Ab=Ab/\3=3/\3<=3)<|vnil<|zC<|vnn (fr 65 [(0,prdD),(2,iD (v:Int)),(6,nl),(7,Ai 0 0 (Aa (p::ws)) (Aa (p::ws)*3) Ab),(8,Ai 1 0 (Aa b) (Aa b*3) Ab),(11,Aj 2 0),(14,Ad (Ae zAc fs)<|Aa fs),(15,iD (Aa fs:Int)),(16,iD (k:Int)),(17,bD<|decide ((k:Int)<(Aa fs:Int))),(35,Ai 0 0 (Aa ws+1) ((Aa ws+1)*3) Ab),(36,Aj 0 0),(37,Ak [Ad (nsD<|AC p)<|Aa<|AC p,Ad (zAk<|AW p)<|Aa<|AW p,Ad (zAp<|AW p)<|Aa<|AW p])]) [fsBP<|Ae zAc (p::ws),fsBP<|Ae zAc b,Ao [Ad (nsD<|AC p)<|Aa<|AC p,Ad (zAk<|AW p)<|Aa<|AW p,Ad (zAp<|AW p)<|Aa<|AW p] 45 0 Ac Ac Am] ?_;clear h1 h2 hperm;refine zAw (((Bv (s:=7) (k:=0) (off:=0) (n:=ws.length+1) (m:=(ws.length+1)*3) (wh:=Ab) (cs:=(p::ws).flatMap zAc) (by kernel_rfl) (by exact(show An (Ad ((((p::ws).flatMap zAc).drop 0).take ((ws.length+1)*3)) (ws.length+1),[0])=_ by rw[AM,hfa]))).trans (Bv (s:=8) (k:=1) (off:=0) (n:=b.length) (m:=b.length*3) (wh:=Ab) (cs:=b.flatMap zAc) (by kernel_rfl) (by exact(show An (Ad (((b.flatMap zAc).drop 0).take (b.length*3)) b.length,[1])=_ by rw[AM,hfb])))).trans<|Weak.leS (s:=7) (d':= .row ((p::ws).flatMap zAc) (ws.length+1)) (by kernel_rfl)<|LeD.osr_row 0 0 (ws.length+1) ((ws.length+1)*3) Ab<|(p::ws).flatMap zAc) ?_;have hs1:((p::ws).flatMap zAc).drop 3=ws.flatMap zAc:=rfl;have hs2:(ws.flatMap zAc).take (ws.length*3)=ws.flatMap zAc:=zBs zAz ws _ rfl;have hwl:ws.length<=500:=by simp only[A8]at hlen;omega
  refine zB<|zB<|zA rfl<|v0s<|vr 2 ((0:Int)<=(1:Int)/\True/\True/\0<3/\1<=Aa ws+1/\Aa ws+1<=Aa ws+1/\Aa ws+1=Aa ws+1)<|vs 39 (Ad (Al ((Aa ws+1-1)*3)<|Ag 3<|Ae zAc (p::ws)) (Aa ws+1-1)) (Ad (Ae zAc ws)<|Aa ws) (hd:=by simp(disch:=omega) only[BH,hs1,hs2])<|veT<|zF ?_;have hp1:=hf p ((hmem p).1 (by simp));have hws:∀f∈ws,f∈fs:=λf h=>(hmem f).1 (B4 _ (Bq _ h));have hbs:∀f∈b,f∈fs:=λf h=>(hmem f).1 (B5 _ h);have b1:rz p*pz rz ws<=900000:=by
   rw[zHx,zBj]at hpr;exact Au (AN _ (zCo zCh b)) (by omega)
  have b2:qz p*pz qz ws<=Bz:=by
   rw[zHx,zBj]at hpv;exact Au (AN _ (zCo zLq b)) (by omega)
  refine zAo (λ(t:Nat)(A:List Nat)(l:List (Rw×Nat×Option Nat))=>fr 65 [(0,prdD),(2,iD (v:Int)),(6,nl),(7,Ad (Ae zAc (p::ws)) (Aa ws+1)),(8,D.osr 1 0 (Aa b) (Aa b*3) Ab<|Ae zAc b),(11,Aj 2 0),(39,Ad (Ae zAc ws)<|Aa ws),(40,iD (Aa ws:Int)),(41,iD (t:Int))]) (λ(t:Nat)(A:List Nat)(l:List (Rw×(Nat×Option Nat)))=>[⟨(p::ws).flatMap zAc,45,3,Ab,Ab,.plain⟩,⟨b.flatMap zAc,45,3,Ab,Ab,.plain⟩,fB1P (.row (nsD A) A.length) (.row (zAk l) l.length)<|.row (zAp l) l.length]) (λt A l=>ws.length-t) (λ(t:Nat)(A:List Nat)(l:List (Rw×(Nat×Option Nat)))=>t<=ws.length/\zBb rcmp Sp ⟨A,l⟩ (ws.drop t) b=zBb rcmp Sp p ws b/\FOk rcmp Dm ⟨A,l⟩/\rz (⟨A,l⟩:Fa (Nat×Option Nat))*pz rz (ws.drop t)<=900000/\qz (⟨A,l⟩:Fa (Nat×Option Nat))*pz qz (ws.drop t)<=Bz/\v∈A) 0 p.A p.l ?_ ?_ ?_
  ·exact⟨by omega,rfl,hp1,b1,b2,hvin p (by simp)⟩
  ·refine vk 3
  rintro t A l ⟨t1,t2,t3,t4,t5,t6⟩;rcases Aw t ws.length with t7|t7
  ·have hmf:=zAx ws Ah t t7;have hg2:=zA9 zAz ws t t7;have hle:=zB5 zAz ws t t7;have hne2:=zCb zAz (by decide) ws;have hdr:ws.drop t=ws.getD t Ah::ws.drop (t+1):=by
    rw[BI t7,AF,AQ t7];rfl
   rw[hdr]at t2 t4 t5;rw[zBj,<-BB]at t4 t5;have q1:rz (⟨A,l⟩:Fa (Nat×Option Nat))*rz (ws.getD t Ah)<=900000:=Au (AN _ (zCo zCh _)) t4;have q2:qz (⟨A,l⟩:Fa (Nat×Option Nat))*qz (ws.getD t Ah)<=Bz:=Au (AN _ (zCo zLq _)) t5;have gA:GofP Dm ⟨A,l⟩:=⟨t3,Au (AN _ (zCh _)) q1,Au (AN _ (zLq _)) q2⟩;have hmul:=zKg hD ⟨A,l⟩ (ws.getD t Ah) (ws.drop (t+1)++b) gA (hg _ (hws _ hmf)) (λo ho=>by
    rcases B6.1 ho with h|h
    ·exact hg _ (hws _ (BJ h))
    exact hg _ (hbs _ h)) (by rw[A1,A5];simp only[A8]at hlen;omega) q1
   have r1:=zEt (c:=rcmp) Sp ⟨A,l⟩ (ws.getD t Ah) (ws.drop (t+1)++b);have r2:=zPx (c:=rcmp) ⟨A,l⟩ (ws.getD t Ah) (ws.drop (t+1)++b);have r3:=zEu (S:=Sp) rcw t3 (hf _ (hws _ hmf)) (ws.drop (t+1)++b);have r4:=Au (A6 (pz rz (ws.drop (t+1))) r1) t4;have r5:=Au (A6 (pz qz (ws.drop (t+1))) r2) t5;have r6:v∈(fmul rcmp Sp ⟨A,l⟩ (ws.getD t Ah) (ws.drop (t+1)++b)).A:=zD0.2 ⟨hv32, .inl t6⟩;rw[zBb]at t2;have hcc:=concat_cP ((ws.drop (t+1)).flatMap zAc) (b.flatMap zAc) (ws.drop (t+1)).length b.length (zJ3 _) (zJ3 _) (by rw[A5];simp only[A8]at hlen;omega) (by simp only[A8]at hlen;omega) (λ_ _=>trivial);rw[<-BK,<-A1]at hcc;have hsl:((p::ws).flatMap zAc).drop ((t+2)*3)=(ws.drop (t+1)).flatMap zAc:=by
    rw[zHi zAz];rfl
   have hsn:ws.length+1-(t+2)=(ws.drop (t+1)).length:=by rw[A5];omega
   have hst:=zBs zAz (ws.drop (t+1)) _ rfl;generalize ws.getD t Ah=f at*;generalize fmul rcmp Sp ⟨A,l⟩ f (ws.drop (t+1)++b)=q at*;obtain⟨A',l'⟩:=q;have cast2:(t:Int)+2=((t+2:Nat):Int):=by omega
   refine zB<|zA rfl<|v0s<|veT<|zB<|vT ((t:Int)<(Aa ws:Int))<|zJ<|zC<|zE<|zB<|zF<|zB<|zA rfl<|vr 3 (ix (t:Int) (Aa ws:Int) (Ae zAc ws≠[])/\3<=Aa (Ag (t*3)<|Ae zAc ws))<|vs 45 (Ak<|Al 3<|Ag (t*3)<|Ae zAc ws) (Ak<|zAc f) (hd:=by simp(disch:=omega) only[hg2])<|ve (Ac=Ac/\Ab=Ab/\3=3/\3<=3)<|vd [0,3,4,5,6,7,1,2,8,9,10,11]<|vr 5 (i6 ((t:Int)+(2:Int))/\(0:Int)<=(↑(t+2):Int)/\True/\True/\0<3/\As (↑(t+2):Int)<=Aa ws+1/\Aa ws+1<=Aa ws+1/\Aa ws+1=Aa ws+1)<|vs 52 (Ad (Al ((Aa ws+1-As (↑(t+2):Int))*3)<|Ag (As (↑(t+2):Int)*3)<|Ae zAc (p::ws)) (Aa ws+1-As (↑(t+2):Int))) (Ad (Ae zAc<|Ag (t+1) ws)<|Aa<|Ag (t+1) ws) (hd:=by simp(disch:=omega) only[Az,hsl,hsn,hst])<|vr 4 (3<=3/\3<=3/\(1=1/\1<=2/\1=1/\2<=2/\True)/\0<1/\1=1/\2<=16777216/\2<=9223372036854775807)<|vc (hcc)<|vc (hmul)<|vr 1 (A7 (fB1P (Ad (nsD A)<|Aa A) (Ad (zAk l)<|Aa l)<|Ad (zAp l)<|Aa l)=Ac/\Ab=Ab/\3=3/\3<=3)<|vnil<|zD<|zC<|zE<|zA rfl<|vr 2 (i6 ((t:Int)+(1:Int)))<|vnil<|zC<|⟨t+1,A',l',⟨by omega,t2,r3,r4,r5,r6⟩,by omega,?_⟩;refine vk 3
  rw[BL t7]at t2 t4 t5;simp only[pz,B7,Bm,zBb]at t2 t4 t5;have hsum:=zW3 hD ⟨A,l⟩ ⟨t3,t4,t5⟩ v t6;rw[<-t2,zP3,zCv];have cb:=zJ3 b;generalize fsum rcmp Sp v ⟨A,l⟩=q at*;obtain⟨A',l'⟩:=q;have ht:(b.flatMap zAc++zAc ⟨A',l'⟩).take ((b.length+1)*3)=b.flatMap zAc++zAc ⟨A',l'⟩:=AK (by rw[A1,cb];show _+3<=_;omega);refine zB<|zA rfl<|v0s<|veT<|zB<|vF ((t:Int)<(Aa ws:Int))<|zT<|zM<|zM<|zR rfl<|zC<|zE<|zB<|zA rfl<|vr 4 (3<=3)<|vc (hsum)<|ve (((3=3/\3<=3/\True)/\0<3/\3=3/\3<=16777216/\1<=9223372036854775807)/\A0 (Ao (Ae zAc b) 45 3 Ab Ab Am)=Ab/\Aa (Ae zAc b)=Aa b*3/\Aa b*3=Aa b*3/\AS (Ao (Ae zAc b) 45 3 Ab Ab Am)=45/\AT (Ao (Ae zAc b) 45 3 Ab Ab Am)=3/\3=3/\0<3/\0<72/\45=45/\(Aa b+1)*72<=140737488355328/\3=3/\AU (AA<|Ao (Ae zAc b) 45 3 Ab Ab Am)=Ac/\(Ac=Ac\/AV (AA<|Ao (Ae zAc b) 45 3 Ab Ab Am)=Ab))<|zK<|zBr (True) (Ad (Al ((Aa b+1)*3)<|Ag 0 (Ae zAc b++[Ad (nsD A')<|Aa A',Ad (zAk l')<|Aa l',Ad (zAp l')<|Aa l'])) (Aa b+1)) (Ad (Ae zAc b++zAc (Fa.mk A' l')) (Aa b+1)) (.inr rfl) (by simp(disch:=omega) only[AM,ht]) rfl
end
section
variable {Dm : List Va}
set_option maxHeartbeats 8000000 in
theorem zS3(hD:Okv Dm)(hDn:Dm.Nodup)(n keep:Nat)(fs:List (Fa (Nat×Option Nat)))(hn:n<=8)(hk:keep<4294967296)(hf:∀f∈fs,FOk rcmp Dm f)(hl:fs.length<=500)(hr:2*pz rz fs<=900000)(hz:2*pz qz fs<=Bz)
  (hcv:∀v,v<n->∃f∈fs,v∈f.A)(hck:Pure Ar 53 [iD (n:Nat),u32D keep, .row (fs.flatMap zAc) fs.length] [] (iD 0)):
  Pure Ar 32 [prdD,iD (n:Nat),u32D keep, .row (fs.flatMap zAc) fs.length] [] (.tup [faAP (zDx popN rcmp Sp fs ((AB n).filter λv=>!keep.testBit v)),iD 0]):=by
 have hcl:=cloneF_cP (fs.flatMap zAc) fs.length (zJ3 fs) (by omega);have w2:=zDu (v:=n) (by omega);have h2n:2^n<=256:=Ba (n:=2) (by omega) hn;have h1n:=BM (n:=n);have w3:((2^n:Nat):Int)-1=((2^n-1:Nat):Int):=by omega
 have w4:=zA4 (n:=2^n-1) (by omega);have w5:=zT7 (n:=n) (by omega) hk;have hEa:Asc ((AB n).filter λv=>!keep.testBit v):=⟨(B_ (n:=n)).filter _,λv hv=>by have:=(A2.1 hv).1;simp at this;omega⟩;have hEc:∀v∈(AB n).filter (λv=>!keep.testBit v),∃f∈fs,v∈f.A:=λv hv=>hcv v (by have:=(A2.1 hv).1;simpa using this);generalize (AB n).filter (λv=>!keep.testBit v)=E at*;have w6:=zA4 (zA3 hEa.2);refine zH (T:=Tc) (zGl _ _ _) mixed Tryz.func32 rfl<|zB<|zA rfl<|v0s<|veT<|zB<|zB<|zA rfl<|vrT 3<|vc (hck)<|veT<|zB<|zA rfl<|veT<|vf<|zJ<|zC<|zE<|zB<|zA rfl<|vrT 1<|vc (hcl)<|veT<|zB<|zB<|zA rfl<|vr 2 ((0:Int)<=(n:Int))<|vs 28 (Aq<|Ax Av<|AO Av ((1:Int)*(2:Int)^min (As (n:Int)) 32)) (dig ((2:Nat)^n)) (hd:=by simp(disch:=omega) only[Az,w2])<|vr 1 (u3 ((↑((2:Nat)^n):Int)-(1:Int)))<|vs 29 (Aq<|Ax Av ((↑((2:Nat)^n):Int)-(1:Int))) (dig ((2:Nat)^n-1)) (hd:=by simp(disch:=omega) only[w3])<|vrT 2<|vs 31 (Aq<|Ax Av<|AO Av (↑(AP (Ay 32 (↑((2:Nat)^n-1):Int)&&&~~~Ay 32 (keep:Int))):Int)) (dig<|msk E) (hd:=by simp(disch:=omega) only[w6,w5])<|veT<|zF<|zAo (λ(i:Nat)(L:List (Fa (Nat×Option Nat)))(F:List Nat)=>fr 68 [(0,prdD),(8,Aj 0 0),(9,iD 0),(11,Ad (Ae zAc L)<|Aa L),(12,u32D<|msk F)]) (λ(i:Nat)(L:List (Fa (Nat×Option Nat)))(F:List Nat)=>[fB1P nl nl nl]) (λi L F=>i) (λ(i:Nat)(L:List (Fa (Nat×Option Nat)))(F:List Nat)=>i=F.length/\Asc F/\(∀v∈F,∃f∈L,v∈f.A)/\(∀f∈L,FOk rcmp Dm f)/\L.length<=500/\2*pz rz L<=900000/\2*pz qz L<=Bz/\zCr popN rcmp Sp F.length L F=zCr popN rcmp Sp E.length fs E) E.length fs E ?_ ?_ ?_
 ·exact⟨rfl,hEa,hEc,hf,hl,hr,hz,rfl⟩
 ·refine vk 1
 rintro i L F ⟨rfl,f1,f2,f3,f4,f5,f6,f7⟩;by_cases hF:F=[]
 ·subst hF;have hL:zCr popN rcmp Sp E.length fs E=L:=f7.symm;have hres:zDx popN rcmp Sp fs E=zBb rcmp Sp (zB6 Sp) L []:=by unfold zDx;rw[hL]
  rw[hres];have m0:msk []=0:=rfl;rw[m0];obtain⟨o,ho⟩:∃o:(Nat×Option Nat),o=(1,An 0):=⟨_,rfl⟩;have hone:=pone_c;rw[<-ho]at hone;have hol:=zAt o;refine zB<|zB<|zA rfl<|v0s<|veT<|vf<|zT<|zM<|zM<|zR rfl<|zC<|zE<|zB<|zA rfl<|vr 3 ((True/\0<3/\3=3/\0<=16777216/\0<=9223372036854775807)/\(1=1/\1<=1/\True)/\0<1/\1=1/\1<=16777216/\1<=9223372036854775807)<|vc (hone)<|vr 4 (((3=3/\3<=3/\True)/\0<3/\3=3/\3<=16777216/\1<=9223372036854775807)/\((1=1/\2<=3/\1=1/\3<=3/\True)/\Ab=Ab)/\Ac=Ac/\Ab=Ab/\3=3/\3<=3)<|vnil<|zC<|vnn (fr 68 [(0,prdD),(8,Aj 0 0),(9,iD 0),(11,Ad (Ae zAc L)<|Aa L),(12,u32D 0),(14,Aj 4 0),(33,bD Ac),(45,Ai 1 0 0 0 Ab),(46,Ai 2 0 1 1 Ab),(47,AG 36<|Ak [AG 29<|Ak [],AG 30<|Ak []]),(48,Ak [natD<|AZ o,bD<|A9<|AL o,natD<|A_ (AL o) 0]),(49,Ai 3 0 1 3 Ab),(50,Ak [nl,Ai 2 0 1 1 Ab,Ai 3 0 1 3 Ab])]) [fB1P nl nl nl,Ao [] 107 3 Ab Ab Am,Ao [Ad [] 0] 110 1 Ab Ac Am,Ao [natD<|AZ o,bD<|A9<|AL o,natD<|A_ (AL o) 0] 56 3 Ab Ac Am,Ao [nl,Ai 2 0 1 1 Ab,Ai 3 0 1 3 Ab] 45 0 Ac Ac Am] ?_;clear hck hcl hcv hEa hEc w5 w6 f1 f2 f7 hL hres;refine zAw ((Bw (j:=4) (i:=1) (d:= .osl 2 0 1 1 Ab) (x:= .row [.row [] 0] 1) (ks:=[2]) rfl rfl rfl rfl (by exact rfl) (by decide)).trans<|(Bw (j:=4) (i:=2) (d:= .osl 3 0 1 3 Ab) (x:= .row (cpD o) 1) (ks:=[3]) rfl rfl rfl rfl (by exact rfl) (by decide)).trans<|Weak.leC (j:=4) (i:=0) (d':= .row [] 0) rfl rfl rfl LeD.nil_row) ?_;refine zB<|zB<|zA rfl<|v0s<|veT<|zF ?_;have hu:(zB6 Sp:Fa (Nat×Option Nat))=⟨[],[([],o)]⟩:=by rw[ho];rfl
  have hU:FOk rcmp Dm (⟨[],[([],o)]⟩:Fa (Nat×Option Nat)):=hu▸zF2;have u1:rz (⟨[],[([],o)]⟩:Fa (Nat×Option Nat))=2:=rfl;have u2:qz (⟨[],[([],o)]⟩:Fa (Nat×Option Nat))<=2:=by rw[ho];decide
  rw[hu];refine zAo (λ(t:Nat)(A:List Nat)(l:List (Rw×Nat×Option Nat))=>fr 68 [(0,prdD),(8,Aj 0 0),(9,iD 0),(11,Ad (Ae zAc L)<|Aa L),(14,Aj 4 0),(51,Ad (Ae zAc L)<|Aa L),(52,iD (Aa L:Int)),(53,iD (t:Int))]) (λ(t:Nat)(A:List Nat)(l:List (Rw×(Nat×Option Nat)))=>[fB1P nl nl nl,⟨[],107,3,Ab,Ab,.plain⟩,⟨[.row [] 0],110,1,Ab,Ab,.plain⟩,⟨(cpD o),56,3,Ab,Ab,.plain⟩,fB1P (.row (nsD A) A.length) (.row (zAk l) l.length)<|.row (zAp l) l.length]) (λt A l=>L.length-t) (λ(t:Nat)(A:List Nat)(l:List (Rw×(Nat×Option Nat)))=>t<=L.length/\zBb rcmp Sp ⟨A,l⟩ (L.drop t) []=zBb rcmp Sp ⟨[],[([],o)]⟩ L []/\FOk rcmp Dm ⟨A,l⟩/\rz (⟨A,l⟩:Fa (Nat×Option Nat))*pz rz (L.drop t)<=900000/\qz (⟨A,l⟩:Fa (Nat×Option Nat))*pz qz (L.drop t)<=Bz) 0 [] [([],o)] ?_ ?_ ?_
  ·exact⟨by omega,rfl,hU,by rw[u1];exact f5,Au (A6 _ u2) f6⟩
  ·refine vk 5
  rintro t A l ⟨t1,t2,t3,t4,t5⟩;rcases Aw t L.length with t7|t7
  ·have hmf:=zAx L Ah t t7;have hg2:=zA9 zAz L t t7;have hle:=zB5 zAz L t t7;have hne2:=zCb zAz (by decide) L;have hdr:L.drop t=L.getD t Ah::L.drop (t+1):=by
    rw[BI t7,AF,AQ t7];rfl
   rw[hdr]at t2 t4 t5;rw[zBj,<-BB]at t4 t5;have q1:rz (⟨A,l⟩:Fa (Nat×Option Nat))*rz (L.getD t Ah)<=900000:=Au (AN _ (zCo zCh _)) t4;have q2:qz (⟨A,l⟩:Fa (Nat×Option Nat))*qz (L.getD t Ah)<=Bz:=Au (AN _ (zCo zLq _)) t5;have gA:GofP Dm ⟨A,l⟩:=⟨t3,Au (AN _ (zCh _)) q1,Au (AN _ (zLq _)) q2⟩;have hg:∀f∈L,GofP Dm f:=λf h=>⟨f3 f h,Au (zFx zCh h) (by omega),Au (zFx zLq h) (by omega)⟩;have hmul:=zKg hD ⟨A,l⟩ (L.getD t Ah) (L.drop (t+1)) gA (hg _ hmf) (λo ho=>hg _ (BJ ho)) (by rw[A5];omega) q1;have r1:=zEt (c:=rcmp) Sp ⟨A,l⟩ (L.getD t Ah) (L.drop (t+1));have r2:=zPx (c:=rcmp) ⟨A,l⟩ (L.getD t Ah) (L.drop (t+1));have r3:=zEu (S:=Sp) rcw t3 (f3 _ hmf) (L.drop (t+1));have r4:=Au (A6 (pz rz (L.drop (t+1))) r1) t4;have r5:=Au (A6 (pz qz (L.drop (t+1))) r2) t5;rw[zBb,Bl]at t2;have hsl:(L.flatMap zAc).drop ((t+1)*3)=(L.drop (t+1)).flatMap zAc:=zHi zAz L (t+1);have hsn:L.length-(t+1)=(L.drop (t+1)).length:=by rw[A5]
   have hst:=zBs zAz (L.drop (t+1)) _ rfl;generalize L.getD t Ah=f at*;generalize fmul rcmp Sp ⟨A,l⟩ f (L.drop (t+1))=q at*;obtain⟨A',l'⟩:=q;refine zB<|zA rfl<|v0s<|veT<|zB<|vT ((t:Int)<(Aa L:Int))<|zJ<|zC<|zE<|zB<|zF<|zB<|zA rfl<|vr 3 (ix (t:Int) (Aa L:Int) (Ae zAc L≠[])/\3<=Aa (Ag (t*3)<|Ae zAc L))<|vs 57 (Ak<|Al 3<|Ag (t*3)<|Ae zAc L) (Ak<|zAc f) (hd:=by simp(disch:=omega) only[hg2])<|ve (Ac=Ac/\Ab=Ab/\3=3/\3<=3)<|vd [0,3,4,5,6,1,2,7,8]<|vr 5 (i6 ((t:Int)+(1:Int))/\(0:Int)<=(↑(t+1):Int)/\True/\True/\0<3/\As (↑(t+1):Int)<=Aa L/\Aa L<=Aa L/\Aa L=Aa L)<|vs 64 (Ad (Al ((Aa L-As (↑(t+1):Int))*3)<|Ag (As (↑(t+1):Int)*3)<|Ae zAc L) (Aa L-As (↑(t+1):Int))) (Ad (Ae zAc<|Ag (t+1) L)<|Aa<|Ag (t+1) L) (hd:=by simp(disch:=omega) only[Az,hsl,hsn,hst])<|vr 2 (3<=3/\3<=3)<|vc (hmul)<|vr 1 (A7 (fB1P (Ad (nsD A)<|Aa A) (Ad (zAk l)<|Aa l)<|Ad (zAp l)<|Aa l)=Ac/\Ab=Ab/\3=3/\3<=3)<|vnil<|zD<|zC<|zE<|zA rfl<|vr 2 (i6 ((t:Int)+(1:Int)))<|vnil<|zC<|⟨t+1,A',l',⟨by omega,t2,r3,r4,r5⟩,by omega,?_⟩;refine vk 5
  rw[BL t7]at t2;simp only[zBb]at t2;rw[<-t2];refine zB<|zA rfl<|v0s<|veT<|zB<|vF ((t:Int)<(Aa L:Int))<|zT<|zM<|zM<|zR rfl<|zC<|zE<|zB<|zA rfl<|ve (3<=3/\Ac=Ac/\Ab=Ab/\3=3/\3<=3)<|zK<|vret (3<=3)<|.inr rfl
 have hm:=zEk popN L hF;have hch:=zT0 L F f1 hF (λf h=>(f3 f h).asc) (by omega);have hv32:=f1.2 _ hm.1;have hel:=zRv hD L (zAj popN L F) f3 f4 (by omega) (by omega) (f2 _ hm.1) hv32;have hmn:=zY8 hF;have x1:=zDu hv32;have x2:=zT6 f1 hv32;have x3:=zA4 (zA3 (zFo f1 (zAj popN L F)).2);have hz1:=zNu (c:=rcmp) (S:=Sp) (z:=rz) (zEt Sp) (zPw Sp) (zAj popN L F) L;have hz2:=zNu (c:=rcmp) (S:=Sp) (z:=qz) zPx zZ2 (zAj popN L F) L;have hlen:=zP6 (c:=rcmp) (S:=Sp) (zAj popN L F) L;have hA:=zWi (c:=rcmp) (S:=Sp) (fs:=L) (λf h=>(f3 f h).asc.2) (zAj popN L F);have hok:=zP5 (S:=Sp) rcw f3 (zAj popN L F);have hll:=zK2 f1.nd hm.1;have hla:=zFo f1 (zAj popN L F);have hmg:zCr popN rcmp Sp F.length L F=zCr popN rcmp Sp (less F (zAj popN L F)).length (elim rcmp Sp (zAj popN L F) L) (less F (zAj popN L F)):=by
  rw[<-hll];rfl
 have hcm:=hm.1;generalize zAj popN L F=v at*;generalize elim rcmp Sp v L=L' at*;refine zB<|zB<|zA rfl<|v0s<|veT<|zD2 (t:=(↑(msk F):Int)!=(0:Int)) (by kernel_rfl) (by simpa using by omega)<|zJ<|zC<|zE<|zF<|zB<|zA rfl<|vrT 2<|vc (hch)<|veT<|zB<|zA rfl<|vrT 3<|vc (hel)<|veT<|zA rfl<|vr 3 ((0:Int)<=(v:Int))<|vs 43 (Aq<|Ax Av<|AO Av ((1:Int)*(2:Int)^min (As (v:Int)) 32)) (dig ((2:Nat)^v)) (hd:=by simp(disch:=omega) only[Az,x1])<|vrT 1<|vs 44 (Aq<|Ax Av<|AO Av (↑(AP (Ay 32 (↑(msk F):Int)&&&~~~Ay 32 (↑((2:Nat)^v):Int))):Int)) (dig<|msk<|less F v) (hd:=by simp(disch:=omega) only[x3,x2])<|vrT 1<|vnil<|zD<|zC<|⟨(less F v).length,L',less F v,⟨rfl,hla,λw hw=>(hA w).2 ⟨f2 w (zB4.1 hw).1,(zB4.1 hw).2⟩,hok,by omega,by omega,by omega,by rw[<-hmg];exact f7⟩,by omega,?_⟩;refine vk 1
end
end
section
attribute [local irreducible] seqW awp zAe zAh zAb Weak updS zAs retL Pure Acts rP setP setQ cP nP fr
set_option maxRecDepth 4096
set_option maxRecDepth 4096
abbrev fcRP(V:List Int)(R:List Rw)(W:List D)(m:Nat):D:= .agg [.row (V.map λz=>iD z) V.length, .row (R.map rowV) R.length, .row W m]
set_option maxHeartbeats 4000000 in
theorem check_cP (n : Int) (V : List Int)(R:List Rw)(W:List D)(m:Nat)(hV:V.length<=1000000)(hR:R.length<=1000000):
    Pure Ar 99 [iD n,fcRP V R W m] [] (iD (chk n V R m)):=by
  refine zH zQg mixed Tryz.func99 rfl<|zB<|zA rfl<|v0s<|veT<|zB<|zB<|zA rfl<|ve (True/\0<3)<|zF<|zQ (λ(i:Nat)=>fr 94 [(0,iD n),(3,Aj 0 0),(13,Ad (Af (λ(z:Int)=>iD z) V)<|Aa V),(14,iD (Aa V:Int)),(15,iD (i:Int))]) (λ(i:Nat)=>[fB1P (.row (V.map λz=>iD z) V.length) (.row (R.map rowV) R.length)<|.row W m]) (λi=>V.length-i) (λ(i:Nat)=>i<=V.length/\∀j,j<i->zDj n V j=Ab) 0 ?_ ?_ ?_
  ·exact⟨by omega,λj h=>by omega⟩
  ·refine vk 1
  rintro i ⟨h1,h2⟩;rcases Aw i V.length with h3|h3
  · have hne:(V.map λz=>iD z)≠[]:=zX
    have hx:=zBn V i (h:=h3);by_cases hs:zDj n V i=Ab
    · have hs2:=hs
      simp only[zDj,Bn,Ca,decide_eq_true_eq]at hs2;obtain⟨s1,s2,s3⟩:=hs2;rcases i with _|k
      · rw[AM]at hx
        refine zB<|zA rfl<|v0s<|veT<|zB<|vT ((↑(0:Nat):Int)<(Aa V:Int))<|zJ<|zC<|zE<|zB<|zF<|zB<|zA rfl<|vr 3 (ix (↑(0:Nat):Int) (Aa V:Int) (Af (λ(z:Int)=>iD z) V≠[])/\0<Aa (Af (λ(z:Int)=>iD z) V))<|vsh 19 hx<|veT<|zB<|zA rfl<|vew [] [(2,Ac),(7,Ac)] (decide (Ap V 0 (0:Int)<0)=Ac/\decide (Ap V 0 (0:Int)>=n)=Ac) (vf<|zJ<|zD<|zC<|zE<|zA rfl<|vr 2 (i6 ((↑(0:Nat):Int)+(1:Int)))<|vnil<|zC ?_) ⟨(by exact decide_eq_false (by omega)),(by exact decide_eq_false (by omega))⟩;refine⟨1,⟨by omega,λj hj=>?_⟩,by omega,?_⟩
        · obtain rfl:j=0:=by omega
          exact hs
        refine vk 1
      · have hx2:=zBn V k
        have s4:V.getD k 0<V.getD (k+1) 0:=by
          rcases s3 with h|h
          ·omega
          exact h
        refine zB<|zA rfl<|v0s<|veT<|zB<|vT ((↑(k+1):Int)<(Aa V:Int))<|zJ<|zC<|zE<|zB<|zF<|zB<|zA rfl<|vr 2 (ix (↑(k+1):Int) (Aa V:Int) (Af (λ(z:Int)=>iD z) V≠[]))<|vp 18 (k+1) (Af (λ(z:Int)=>iD z) V)<|vr 1 (0<Aa (Ag (k+1)<|Af (λ(z:Int)=>iD z) V))<|vsh 19 hx<|veT<|zB<|zA rfl<|vw 15 [] [(2,Ac),(7,Ac),(10,Ab)] (decide (Ap V (k+1) (0:Int)<0)=Ac/\decide (Ap V (k+1) (0:Int)>=n)=Ac/\decide ((↑(k+1):Int)>(0:Int))=Ab/\True/\0<3/\i6 ((↑(k+1):Int)-(1:Int))) (vs 34 (iD ((↑(k+1):Int)-(1:Int))) (iD (k:Int)) (hd:=by simp(disch:=omega) only[zKo])<|vr 1 (ix (k:Int) (Aa V:Int) (Af (λ(z:Int)=>iD z) V≠[]))<|vp 35 (k) (Af (λ(z:Int)=>iD z) V)<|vr 1 (0<Aa (Ag k<|Af (λ(z:Int)=>iD z) V))<|vsh 36 hx2<|veT<|vF (Ap V k (0:Int)>=Ap V (k+1) (0:Int)) ?_) ⟨(by exact decide_eq_false (by omega)),(by exact decide_eq_false (by omega)),(by exact decide_eq_true (by omega)),trivial,(by omega),(by omega)⟩;refine zJ<|zD<|zC<|zE<|zA rfl<|vr 2 (i6 ((↑(k+1):Int)+(1:Int)))<|vnil<|zC<|⟨k+2,⟨by omega,λj hj=>?_⟩,by omega,?_⟩
        · rcases Aw j (k+1)with h|h
          ·exact h2 j h
          · obtain rfl:j=k+1:=by omega
            exact hs
        refine vk 1
    · have hc3:chk n V R m=3:=chk_v h3 (by simpa using hs)
      rw[hc3];rcases i with _|k
      · rw[AM]at hx
        focus
          refine zB<|zA rfl<|v0s<|veT<|zB<|vT ((↑(0:Nat):Int)<(Aa V:Int))<|zJ<|zC<|zE<|zB<|zF<|zB<|zA rfl<|vr 3 (ix (↑(0:Nat):Int) (Aa V:Int) (Af (λ(z:Int)=>iD z) V≠[])/\0<Aa (Af (λ(z:Int)=>iD z) V))<|vsh 19 hx<|veT<|zB<|zA rfl<|vrT 3<|vspD 22 (Ap V 0 (0:Int)<0) (λhc=>?_)<|λhc=>?_;refine veT<|vt<|zB<|zA rfl<|veT<|zK<|zL<|zG<|zG<|zL<|zG<|vret (True)<|.inr rfl;refine vrT 5<|vspD 27 (Ap V 0 (0:Int)>=n) (λhc=>?_)<|λhc=>?_;refine veT<|vt<|zB<|zA rfl<|veT<|zK<|zL<|zG<|zG<|zL<|zG<|vret (True)<|.inr rfl;refine veT<|vf<|zJ<|zD<|zC<|zE<|zA rfl<|vr 2 (i6 ((↑(0:Nat):Int)+(1:Int)))<|vnil<|zC ?_;rotate_left
        all_goals exact absurd (zF1 (.inl rfl)) hs
      · have hx2:=zBn V k
        focus
          refine zB<|zA rfl<|v0s<|veT<|zB<|vT ((↑(k+1):Int)<(Aa V:Int))<|zJ<|zC<|zE<|zB<|zF<|zB<|zA rfl<|vr 2 (ix (↑(k+1):Int) (Aa V:Int) (Af (λ(z:Int)=>iD z) V≠[]))<|vp 18 (k+1) (Af (λ(z:Int)=>iD z) V)<|vr 1 (0<Aa (Ag (k+1)<|Af (λ(z:Int)=>iD z) V))<|vsh 19 hx<|veT<|zB<|zA rfl<|vrT 3<|vspD 22 (Ap V (k+1) (0:Int)<0) (λhc=>?_)<|λhc=>?_;refine veT<|vt<|zB<|zA rfl<|veT<|zK<|zL<|zG<|zG<|zL<|zG<|vret (True)<|.inr rfl;refine vrT 5<|vspD 27 (Ap V (k+1) (0:Int)>=n) (λhc=>?_)<|λhc=>?_;refine veT<|vt<|zB<|zA rfl<|veT<|zK<|zL<|zG<|zG<|zL<|zG<|vret (True)<|.inr rfl;refine vw 7 [] [(10,Ab)] (decide ((↑(k+1):Int)>(0:Int))=Ab/\True/\0<3/\i6 ((↑(k+1):Int)-(1:Int)))<|vs 34 (iD ((↑(k+1):Int)-(1:Int))) (iD (k:Int)) (hd:=by simp(disch:=omega) only[zKo])<|vr 1 (ix (k:Int) (Aa V:Int) (Af (λ(z:Int)=>iD z) V≠[]))<|vp 35 (k) (Af (λ(z:Int)=>iD z) V)<|vr 1 (0<Aa (Ag k<|Af (λ(z:Int)=>iD z) V))<|vsh 36 hx2<|veT<|vcD (Ap V k (0:Int)>=Ap V (k+1) (0:Int)) (λhc=>?_)<|λhc=>?_;refine zB<|zA rfl<|veT<|zK<|zL<|zG<|zG<|zL<|zG<|vret (True)<|.inr rfl;refine zJ<|zD<|zC<|zE<|zA rfl<|vr 2 (i6 ((↑(k+1):Int)+(1:Int)))<|vnil<|zC ?_;rotate_left
        all_goals exact absurd (zF1 (.inr (by simp only[BH];omega))) hs
  have hv:=zFf (p:=zDj n V) (n:=V.length) λj hj=>h2 j (by omega);by_cases hlm:R.length=m;case neg=>
    rw[chk_l hv hlm];refine zB<|zA rfl<|v0s<|veT<|zB<|vF ((i:Int)<(Aa V:Int))<|zT<|zM<|zM<|zR rfl<|zC<|zE<|zB<|zB<|zA rfl<|ve (True/\0<2/\True/\0<1/\True)<|zD2 (t:=(Aa R:Int)!=(m:Int)) (by kernel_rfl) (by simpa using by omega)<|zB<|zA rfl<|veT<|zK<|zG<|vret (True)<|.inr rfl
  refine zB<|zA rfl<|v0s<|veT<|zB<|vF ((i:Int)<(Aa V:Int))<|zT<|zM<|zM<|zR rfl<|zC<|zE<|zB<|zB<|zA rfl<|ve (True/\0<2/\True/\0<1/\True)<|zG9 (t:=(Aa R:Int)!=(m:Int)) (by kernel_rfl) (by simpa using by omega)<|zJ<|zC<|zE<|zB<|zB<|zA rfl<|ve (True/\0<2)<|zF<|zQ (λ(i:Nat)=>fr 94 [(3,Aj 0 0),(50,Ad (Af rowV R)<|Aa R),(51,iD (Aa R:Int)),(52,iD (i:Int))]) (λ(i:Nat)=>[fB1P (.row (V.map λz=>iD z) V.length) (.row (R.map rowV) R.length)<|.row W m]) (λi=>R.length-i) (λ(i:Nat)=>i<=R.length/\∀j,j<i->j<R.length->decide ((R.getD j []).length=V.length)=Ab) 0 ?_ ?_ ?_
  ·exact⟨by omega,λj h=>by omega⟩
  ·refine vk 1
  clear h1 h2 h3 i;rintro i ⟨h1,h2⟩;rcases Aw i R.length with h3|h3
  · have hne:R.map rowV≠[]:=zX
    have hx:=zY R i h3;have hca:=chk_a hv hlm h3;generalize hg:R.getD i []=r at*;focus
      refine zB<|zA rfl<|v0s<|veT<|zB<|vT ((i:Int)<(Aa R:Int))<|zJ<|zC<|zE<|zB<|zF<|zB<|zA rfl<|vr 1 (ix (i:Int) (Aa R:Int) (Af rowV R≠[]))<|vp 54 (i) (Af rowV R)<|vr 1 (0<Aa (Ag i<|Af rowV R))<|vsh 55 hx<|veT<|zB<|zA rfl<|ve (True/\0<3/\True)<|zAa (t:=(Aa r:Int)!=(Aa V:Int)) (by kernel_rfl) (λhc=>?_)<|λhc=>?_;simp only[bne_iff_ne]at hc;refine zB<|zA rfl<|veT<|zK<|zL<|zG<|zG<|zL<|zG<|vre (True) (Aq<|Ax AY (6:Int)) (.inr rfl) ?_;rotate_left;simp only[bne_eq_false_iff_eq]at hc;refine zJ<|zD<|zC<|zE<|zA rfl<|vr 2 (i6 ((i:Int)+(1:Int)))<|vnil<|zC ?_;rotate_left
    ·rw[hca (by omega)]
    · refine⟨i+1,⟨by omega,λj hj hjl=>?_⟩,by omega,?_⟩
      · rcases Aw j i with h|h
        ·exact h2 j h hjl
        · obtain rfl:j=i:=by omega
          rw[hg];exact decide_eq_true (by omega)
      refine vk 1
  have ha:=zDg (p:=λx:Rw=>decide (x.length=V.length)) (d:=[]) h3 h2;have hl:∀x∈R,x.length<=1000000000:=λx hx=>by
    have:=of_decide_eq_true (Bb.1 ha x hx)
    omega
  refine zB<|zA rfl<|v0s<|veT<|zB<|vF ((i:Int)<(Aa R:Int))<|zT<|zM<|zM<|zR rfl<|zC<|zE<|zB<|zB<|zA rfl<|ve (True/\0<2)<|zF<|zQ (λ(i:Nat)=>fr 94 [(3,Aj 0 0),(64,Ad (Af rowV R)<|Aa R),(65,iD (Aa R:Int)),(66,iD (i:Int))]) (λ(i:Nat)=>[fB1P (.row (V.map λz=>iD z) V.length) (.row (R.map rowV) R.length)<|.row W m]) (λi=>R.length-i) (λ(i:Nat)=>i<=R.length/\∀j,j<i->j<R.length->(R.getD j []).all vok=Ab) 0 ?_ ?_ ?_
  ·exact⟨by omega,λj h=>by omega⟩
  ·refine vk 1
  clear h1 h2 h3 i;rintro i ⟨h1,h2⟩;rcases Aw i R.length with h3|h3
  · have hne:R.map rowV≠[]:=zX
    have hx:=zY R i h3;have hco:=chk_o hv hlm ha h3;have hlr:=hl _ (zAx R [] i h3);generalize hg:R.getD i []=r at*;focus
      refine zB<|zA rfl<|v0s<|veT<|zB<|vT ((i:Int)<(Aa R:Int))<|zJ<|zC<|zE<|zB<|zF<|zB<|zA rfl<|vr 1 (ix (i:Int) (Aa R:Int) (Af rowV R≠[]))<|vp 68 (i) (Af rowV R)<|vr 1 (0<Aa (Ag i<|Af rowV R))<|vsh 69 hx<|veT<|zB<|zA rfl<|vrT 1<|vc (zPd r _ rfl (by omega))<|veT<|zAa (t:=!List.all r vok) (by kernel_rfl) (λhc=>?_)<|λhc=>?_;simp only[BD]at hc;refine zB<|zA rfl<|veT<|zK<|zL<|zG<|zG<|zL<|zG<|vre (True) (Aq<|Ax AY (4:Int)) (.inr rfl) ?_;rotate_left;simp only[BN]at hc;refine zJ<|zD<|zC<|zE<|zA rfl<|vr 2 (i6 ((i:Int)+(1:Int)))<|vnil<|zC ?_;rotate_left
    ·rw[hco (by simpa using hc)]
    · refine⟨i+1,⟨by omega,λj hj hjl=>?_⟩,by omega,?_⟩
      · rcases Aw j i with h|h
        ·exact h2 j h hjl
        · obtain rfl:j=i:=by omega
          rw[hg];simpa using hc
      refine vk 1
  have ho:=zDg (p:=λx:Rw=>x.all vok) (d:=[]) h3 h2;refine zB<|zA rfl<|v0s<|veT<|zB<|vF ((i:Int)<(Aa R:Int))<|zT<|zM<|zM<|zR rfl<|zC<|zE<|zB<|zB<|zA rfl<|veT<|zF<|zQ (λ(k:Nat)=>fr 94 [(3,Aj 0 0),(11,iD ((k:Int)+(1:Int)))]) (λ(k:Nat)=>[fB1P (.row (V.map λz=>iD z) V.length) (.row (R.map rowV) R.length)<|.row W m]) (λk=>R.length-k) (λ(k:Nat)=>k<=R.length/\∀j,j<=k->j<R.length->zG0 R j=Ab) 0 ?_ ?_ ?_
  · exact ⟨by omega, fun j h _ => by obtain rfl:j=0:=by omega
                                     rfl⟩
  ·refine vk 1
  clear h1 h2 h3 i;rintro k ⟨h1,h2⟩;rcases Aw (k+1) R.length with h3|h3
  · have hne:R.map rowV≠[]:=zX
    have hx:=zY R (k+1) h3;have hx0:=zY R k (by omega);have hcs:=chk_s hv hlm ha ho h3;have hst:zG0 R (k+1)=decide (rcmp (R.getD k []) (R.getD (k+1) [])<0):=by simp[zG0]
    have hcm:=zD8 (R.getD k []) (R.getD (k+1) []) _ _ rfl rfl (hl _ (zAx R [] k (by omega))) (hl _ (zAx R [] (k+1) h3));generalize R.getD (k+1) []=r at*;generalize R.getD k []=r0 at*;focus
      refine zB<|zB<|zA rfl<|v0s<|ve (True/\0<2)<|vT ((↑(k+1):Int)<(Aa R:Int))<|zJ<|zC<|zE<|zB<|zF<|zB<|vd [0,2,3,6,8,1,4,5,7,9,10,11,12]<|vr 3 (True/\i6 ((↑(k+1):Int)-(1:Int)))<|vs 84 (iD ((↑(k+1):Int)-(1:Int))) (iD (k:Int)) (hd:=by simp(disch:=omega) only[zKo])<|vr 4 (True/\0<2/\ix (k:Int) (Aa R:Int) (Af rowV R≠[]))<|vp 85 (k) (Af rowV R)<|vr 1 (0<Aa (Ag k<|Af rowV R))<|vsh 86 hx0<|vr 2 (0<2/\ix (↑(k+1):Int) (Aa R:Int) (Af rowV R≠[]))<|vp 90 (k+1) (Af rowV R)<|vr 1 (0<Aa (Ag (k+1)<|Af rowV R))<|vsh 91 hx<|vc (hcm)<|veT<|vcD (rcmp r0 r>=(0:Int)) (λhc=>?_)<|λhc=>?_;refine zB<|zA rfl<|veT<|zK<|zL<|zG<|zG<|zL<|zG<|vre (True) (Aq<|Ax AY (16:Int)) (.inr rfl) ?_;rotate_left;refine zJ<|zD<|zC<|zE<|zA rfl<|vr 3 (i6 ((↑(k+1):Int)+(1:Int)))<|vnil<|zC ?_;rotate_left
    ·rw[hcs (by rw[hst];exact decide_eq_false (by omega))]
    · refine⟨k+1,⟨by omega,λj hj hjl=>?_⟩,by omega,?_⟩
      · rcases Aw j (k+1)with h|h
        ·exact h2 j (by omega) hjl
        · obtain rfl:j=k+1:=by omega
          rw[hst];exact decide_eq_true (by omega)
      refine vk 1
  rw[chk_0 hv hlm ha ho (zFf λj hj=>h2 j (by omega) hj)];refine zB<|zB<|zA rfl<|v0s<|ve (True/\0<2)<|vF ((k:Int)+(1:Int)<(Aa R:Int))<|zT<|zM<|zM<|zR rfl<|zC<|zE<|zB<|zA rfl<|veT<|zK<|vret (True)<|.inr rfl
end
section
attribute [local irreducible] seqW awp zAe zAh zAb Weak updS zAs retL Pure Acts rP setP setQ cP nP fr
set_option maxRecDepth 4096
abbrev rnCP(f:Rn):List D:=[.row (f.V.map λz=>iD z) f.V.length, .row (f.R.map rowV) f.R.length, .row (f.W.flatMap λx=>cpD ((x,An x))) f.W.length]
theorem zHu(f:Rn):(rnCP f).length=3:=rfl
set_option maxHeartbeats 4000000 in
theorem zTy(n keep:Nat)(fs:List Rn)(hn:n<=8)(hk:keep<4294967296)(hl:fs.length<=1000)(hs:∀f∈fs,Rsz f):Pure Ar 53 [iD (n:Nat),u32D keep, .row (fs.flatMap rnCP) fs.length] [] (iD (zDi n keep fs)):=by
 have w1:=zDt keep (v:=n) (by omega);have w2:=zDu (v:=n) (by omega);have h2n:2^n<=256:=Ba (n:=2) (by omega) hn;have h1n:=BM (n:=n);have w3:((2^n:Nat):Int)-1=((2^n-1:Nat):Int):=by omega
 have w4:=zA4 (n:=2^n-1) (by omega);have ewr:zDi n keep fs=if keep>>>n≠0 then 3 else if errL n fs≠0 then errL n fs else if covP n fs then 0 else 22:=by
  unfold zDi;rw[Az];by_cases h:keep>>>n≠0
  ·rw[if_pos (.inr (.inr h)),if_pos h]
  rw[if_neg (by intro k;rcases k with k|k|k<;>first|omega|exact h k),if_neg h]
 generalize keep>>>n=kk at*;refine zH zQg mixed Tryz.func53 rfl ?_;focus
  refine zB<|zA rfl<|v0s<|veT<|zB<|zB<|zA rfl<|vw 10 [] [(2,Ac),(6,Ac)] (decide ((n:Int)<0)=Ac/\decide ((n:Int)>(32:Int))=Ac/\(0:Int)<=(n:Int))<|vs 20 (Aq<|Ax Av<|Bu (keep:Int) ((2:Int)^min (As (n:Int)) 32)) (dig kk) (hd:=by simp(disch:=omega) only[Az,w1])<|veT<|zAa (t:=(kk:Int)!=(0:Int)) (by kernel_rfl) (λhc=>?_)<|λhc=>?_;simp only[bne_iff_ne]at hc;refine zB<|zA rfl<|veT<|zK<|zG<|vre (True) (Aq<|Ax AY (3:Int)) (.inr rfl) ?_;rotate_left;simp only[bne_eq_false_iff_eq]at hc;refine zJ<|zC<|zE<|zB<|zA rfl<|veT<|zB<|zB<|zA rfl<|veT<|zF ?_;rotate_left
 ·rw[ewr,if_pos (by omega)]
 have hcu:∀i,covM (fs.take i)<4294967296\/¬∀j,j<i->chkR n (fs.getD j Ah)=0:=λi=>by
  by_cases h:∀j,j<i->chkR n (fs.getD j Ah)=0
  ·refine .inl (zP9 (fs.take i) 0 (by omega) λf hf v hv=>?_);obtain⟨j,hj,rfl⟩:=BS.1 hf;have hj2:j<i/\j<fs.length:=by rw[Br]at hj;omega
   have:=h j hj2.1
   rw[AF,AQ hj2.2,BT]at this;obtain⟨A,hA,hfit⟩:=zC9 this;rw[BU,hA,show A.map (λv:Nat=>(v:Int))=intL A from rfl,zCa]at hv
   have:=hfit.lt v hv
   omega
  exact .inr h
 refine zQ (λ(i:Nat)=>fr 45 [(0,iD (n:Int)),(7,u32D<|covM<|Al i fs),(23,Ad (Ae rnCP fs)<|Aa fs),(24,iD (Aa fs:Int)),(25,iD (i:Int))]) (λ(i:Nat)=>[]) (λi=>fs.length-i) (λ(i:Nat)=>i<=fs.length/\∀j,j<i->chkR n (fs.getD j Ah)=0) 0 ?_ ?_ ?_
 ·exact⟨by omega,λj h=>by omega⟩
 ·refine vk 0
 rintro i ⟨h1,h2⟩;have hcl:=(hcu i).resolve_right (λh=>h h2);rcases Aw i fs.length with h3|h3
 ·have hm:=zAx fs Ah i h3;have hg2:=zA9 zHu fs i h3;have hle:=zB5 zHu fs i h3;have hne:=zCb zHu (by decide) fs;have hsz:=hs _ hm;have hat:=zMe h2 h3;have htk:covM (fs.take (i+1))=covM (fs.take i)|||msk ((fs.getD i Ah).V.map As):=by
   rw[zBl fs i h3];unfold covM;rw[Cc];rfl
  generalize hff:fs.getD i Ah=f at*;obtain⟨V,R,W⟩:=f;have hch:=check_cP n V R (W.flatMap λx=>cpD ((x,An x))) W.length (by have:=hsz.v;simp only at this;omega) (by have:=hsz.r;simp only at this;omega);by_cases e0:chk n V R W.length=0
  ·obtain⟨A,hA,hfit⟩:=zC9 e0;have hA:V=intL A:=hA;subst hA;rw[e0]at hch;have eA:(intL A).map (λz=>iD z)=nsD A:=by simp[intL]
   have eL:(intL A).length=A.length:=by simp
   have hv32:∀v∈A,v<32:=λv hv=>by have:=hfit.lt v hv;omega
   have nA:A.length<=1000:=by have:=hsz.v;simp only[eL]at this;exact this
   have sA:=zJy A _ rfl nA hv32 (R.map rowV) (W.flatMap λx=>cpD ((x,An x))) R.length W.length;rw[zCa]at htk;have w5:=zKu hcl (zA3 hv32);have w6:=zA4 (zH1 hcl (zA3 hv32));simp only[rnCP,eA,eL]at hg2;simp only[fcRP,eA,eL]at hch;refine zB<|zA rfl<|v0s<|veT<|zB<|vT ((i:Int)<(Aa fs:Int))<|zJ<|zC<|zE<|zB<|zF<|zB<|zA rfl<|vr 2 (ix (i:Int) (Aa fs:Int) (Ae rnCP fs≠[])/\3<=Aa (Ag (i*3)<|Ae rnCP fs))<|vs 28 (Ak<|Al 3<|Ag (i*3)<|Ae rnCP fs) (Ak [Ad (nsD A)<|Aa A,Ad (Af rowV R)<|Aa R,Ad (Ae (λ(x:Nat)=>cpD (x,An x)) W)<|Aa W]) (hd:=by simp(disch:=omega) only[hg2])<|ve (Ac=Ac/\Ab=Ab/\3=3/\3<=3)<|zB<|zB<|zA rfl<|vr 2 (3<=3)<|vc (hch)<|veT<|zB<|zA rfl<|veT<|vf<|zJ<|zC<|zE<|zA rfl<|vr 2 (3<=3)<|vc (sA)<|vrT 1<|vs 38 (Aq<|Ax Av<|AO Av (↑(AP (Ay 32 (↑(covM<|Al i fs):Int)|||Ay 32 (↑(msk A):Int))):Int)) (dig (covM (Al i fs)|||msk A)) (hd:=by simp(disch:=omega) only[w5,w6])<|vrT 1<|vnil<|zD<|zC<|zE<|zA rfl<|vr 2 (i6 ((i:Int)+(1:Int)))<|vnil<|zC<|⟨i+1,⟨by omega,λj hj=>?_⟩,by omega,?_⟩
   ·rcases Aw j i with h|h
    ·exact h2 j h
    obtain rfl:j=i:=by omega
    rw[hff];exact e0
   rw[htk];refine vk 0
  have hat':=hat e0;have hat2:errL n fs=chk n V R W.length:=hat';generalize chk n V R W.length=e at*;refine zB<|zA rfl<|v0s<|veT<|zB<|vT ((i:Int)<(Aa fs:Int))<|zJ<|zC<|zE<|zB<|zF<|zB<|zA rfl<|vr 2 (ix (i:Int) (Aa fs:Int) (Ae rnCP fs≠[])/\3<=Aa (Ag (i*3)<|Ae rnCP fs))<|vs 28 (Ak<|Al 3<|Ag (i*3)<|Ae rnCP fs) (Ak<|rnCP<|Rn.mk V R W) (hd:=by simp(disch:=omega) only[hg2])<|ve (Ac=Ac/\Ab=Ab/\3=3/\3<=3)<|zB<|zB<|zA rfl<|vr 2 (3<=3)<|vc (hch)<|veT<|zB<|zA rfl<|veT<|zD2 (t:=e !=(0:Int)) (by kernel_rfl) (by simpa using by omega)<|zB<|zA rfl<|veT<|zK<|zG<|zL<|zG<|zG<|zL<|zG<|vre (True) (Aq<|Ax AY e) (.inr rfl) ?_;rw[ewr,if_neg (by omega),if_pos (by omega),hat2]
 rw[AK h3]at hcl⊢;have h0:=zRt λj hj=>h2 j (by omega);have hce:=zTs n fs λf hf=>by
  obtain⟨A,hA,hfit⟩:=zC9 (zD6 h0 f hf);exact⟨A,hA,λv hv=>by have:=hfit.lt v hv;omega⟩
 focus
  refine zB<|zA rfl<|v0s<|veT<|zB<|vF ((i:Int)<(Aa fs:Int))<|zT<|zM<|zM<|zR rfl<|zC<|zE<|zB<|zB<|zA rfl<|vr 3 ((0:Int)<=(n:Int))<|vs 42 (Aq<|Ax Av<|AO Av ((1:Int)*(2:Int)^min (As (n:Int)) 32)) (dig ((2:Nat)^n)) (hd:=by simp(disch:=omega) only[Az,w2])<|vr 1 (u3 ((↑((2:Nat)^n):Int)-(1:Int)))<|vs 43 (Aq<|Ax Av ((↑((2:Nat)^n):Int)-(1:Int))) (dig ((2:Nat)^n-1)) (hd:=by simp(disch:=omega) only[w3])<|veT<|zAa (t:=(↑(covM fs):Int)!=(↑((2:Nat)^n-1):Int)) (by kernel_rfl) (λhc=>?_)<|λhc=>?_;simp only[bne_iff_ne]at hc;refine zB<|zA rfl<|veT<|zK<|zG<|vre (True) (Aq<|Ax AY (22:Int)) (.inr rfl) ?_;rotate_left;simp only[bne_eq_false_iff_eq]at hc;refine zJ<|zC<|zE<|zB<|zA rfl<|veT<|zK<|vre (True) (Aq<|Ax AY (0:Int)) (.inr rfl) ?_;rotate_left
 ·rw[ewr,if_neg (by omega),if_neg (by omega),if_neg (λh=>by have:=hce.2 h;omega)]
 rw[ewr,if_neg (by omega),if_neg (by omega),if_pos (hce.1 (by omega))]
section
variable (n e : Int) (keep : Nat) (cs : List D) (m : Nat)
theorem total_cP(f:Fa (Nat×Option Nat))(hm:Pure Ar 32 [prdD,iD n,u32D 0, .row cs m] [] (.tup [faAP f,iD 0])):Pure Ar 10 [prdD,iD n, .row cs m] [] (.tup [.agg (cpD ((f.l.map (·.2)).headD (0,AH))),iD 0]):=by
 obtain⟨A,l⟩:=f;rcases l with _|⟨p,l⟩
 ·refine zH (T:=Tc) (zGl _ _ _) mixed Tryz.func10 rfl<|zB<|zA rfl<|v0s<|veT<|zB<|zA rfl<|vrT 3<|vc (hm)<|ve (0<2/\1<2/\Ac=Ac/\Ab=Ab/\3=3/\3<=3)<|zB<|zB<|zA rfl<|veT<|vf<|zJ<|zC<|zE<|zB<|zB<|zA rfl<|ve (True/\0<1/\True)<|vt<|zB<|zA rfl<|vrT 1<|vc (zYm)<|ve (Ac=Ac/\Ab=Ab/\3=3/\3<=3)<|zK<|zG<|vret (3<=3)<|.inr rfl
 show Pure _ _ _ _ (.tup [.agg (cpD p.2),iD 0]);have hx:=zA9 zAt ((p::l).map (·.2)) 0 (by simp);have hle:=zB5 zAt ((p::l).map (·.2)) 0 (by simp);rw[Nat.zero_mul,AM]at hx hle;have hx:(zAp (p::l)).take 3=cpD p.2:=hx;have hne:zAp (p::l)≠[]:=zCb zAt (by decide) _ (h:=by simp);refine zH (T:=Tc) (zGl _ _ _) mixed Tryz.func10 rfl<|zB<|zA rfl<|v0s<|veT<|zB<|zA rfl<|vrT 3<|vc (hm)<|ve (0<2/\1<2/\Ac=Ac/\Ab=Ab/\3=3/\3<=3)<|zB<|zB<|zA rfl<|veT<|vf<|zJ<|zC<|zE<|zB<|zB<|zA rfl<|ve (True/\0<1/\True)<|vEf ((↑(Aa l+1):Int)) ((0:Int))<|zJ<|zC<|zE<|zB<|zA rfl<|ve (True/\0<1/\ix (0:Int) (↑(Aa l+1):Int) (zAp (p::l)≠[])/\3<=Aa (zAp (p::l))/\Ac=Ac/\Ab=Ab/\3=3/\3<=3)<|zK<|vret (3<=3)<|.inr rfl
end
abbrev isD(l:List (Rw×Nat)):List D:=nsD (l.map (·.2))
abbrev rfC(A:List Nat)(l:List (Rw×Nat)):List D:=[.row (nsD A) A.length, .row (rwsD l) l.length, .row (isD l) l.length]
abbrev rfD(A:List Nat)(l:List (Rw×Nat)):D:= .agg (rfC A l)
abbrev rB(a b c:D):Bk:=⟨[a,b,c],42,0,Ac,Ac, .plain⟩
theorem zZz(l:List (Rw×Nat)){k:Nat}(h:k<l.length):(l.map (·.1)).getD k []=(l.getD k Ah).1:=by simp[AF,h]
theorem zRp(l:List (Rw×Nat)){k:Nat}(h:k<l.length):(l.map (·.2)).getD k 0=(l.getD k Ah).2:=by simp[AF,h]
theorem headD_rw(l:List (Rw×Nat)){k:Nat}(h:k<l.length):((rwsD l).drop k).headD .unk=rowV (l.getD k Ah).1:=by
 rw[<-zZz l h];exact zY (l.map (·.1)) k (by simpa using h)
theorem headD_is(l:List (Rw×Nat)){k:Nat}(h:k<l.length):((isD l).drop k).headD .unk=iD ((l.getD k Ah).2:Nat):=by
 rw[<-zRp l h];exact zAi (l.map (·.2)) k (by simpa using h)
abbrev rfAc(f:Fa Nat):List D:=rfC f.A f.l
section
variable {Dm : List Va}
theorem zVo{α:Type}{c:Rw->Rw->Int}{S:Sr α}{z:Fa α->Nat}(h1:∀f g os,z (fmul c S f g os)<=z f*z g):∀(fs:List (Fa α))(p:Fa α),z (refP c S p fs)<=z p*pz z fs
 |[],p=>by simp[refP,pz]
 |f::fs,p=>by
  have h2:=zVo h1 fs (fmul c S p f []);rw[zBj,<-BB];exact Au h2 (A6 _ (h1 p f []))
theorem zVm{α:Type}{c:Rw->Rw->Int}{S:Sr α}{z:Fa α->Nat}(h2:∀v f,z (fsum c S v f)<=z f):∀(vs:List Nat)(f:Fa α),z (refS c S f vs)<=z f
 |[],f=>BE _
 |v::vs,f=>Au (zVm h2 vs (fsum c S v f)) (h2 v f)
end
set_option maxHeartbeats 4000000 in
theorem rcheck_c (n : Int) (V : List Int)(R:List Rw)(W:List Int)(hV:V.length<=1000000)(hR:R.length<=1000000):
    Pure Ar 29 [iD n,rawD ⟨V,R,W⟩] [] (iD (chk n V R W.length)):=by
  obtain⟨m,hm⟩:∃m,m=W.length:=⟨_,rfl⟩;refine zH zCf mixed Tryz.func29 rfl<|vAu<|zB<|vAe<|zF<|zQ (λ(i:Nat)=>fr 145 [(0,iD n),(3,Aj 0 0),(5,iD (i:Int))]) (λ(i:Nat)=>[rB (.row (V.map λz=>iD z) V.length) (.row (R.map rowV) R.length)<|.row (W.map λz=>iD z) W.length]) (λi=>V.length-i) (λ(i:Nat)=>i<=V.length/\∀j,j<i->zDj n V j=Ab) 0 ?_ ?_ ?_
  ·exact⟨by omega,λj h=>by omega⟩
  ·refine vk 1
  rintro i ⟨h1,h2⟩;rcases Aw i V.length with h3|h3
  · have hne:(V.map λz=>iD z)≠[]:=zX
    have hx:=zBn V i (h:=h3);by_cases hs:zDj n V i=Ab
    · have hs2:=hs
      simp only[zDj,Bn,Ca,decide_eq_true_eq]at hs2;obtain⟨s1,s2,s3⟩:=hs2;rcases i with _|k
      · rw[AM]at hx
        refine zB<|vAs<|ve (True/\0<3)<|vT ((↑(0:Nat):Int)<↑(Aa V))<|vKB<|zB<|vd [0,2,1,3,4,5,6,7,9,12,8,10,11,13,14,15,16,17,18,19,21,22,25,27,20,23,24,26,28,29,30,31,32]<|vr 5 (True/\0<3/\ix ↑(0:Nat) ↑(Aa V) (Af (λ(z:Int)=>iD z) V≠[])/\0<Aa (Af (λ(z:Int)=>iD z) V))<|vsh 22 hx<|vw 8 [] [(6,Ac)] (decide (Ap V 0 (0:Int)<0)=Ac/\True/\0<3/\ix ↑(0:Nat) ↑(Aa V) (Af (λ(z:Int)=>iD z) V≠[])/\0<Aa (Af (λ(z:Int)=>iD z) V)) (vsh 29 hx<|vew [] [(15,Ac)] (decide (Ap V 0 (0:Int)>=n)=Ac) (vf<|zJ<|zD<|vN<|zA rfl<|vr 3 (i6 (↑(0:Nat)+1))<|vnil<|zC ?_) (by exact decide_eq_false (by omega))) ⟨(by exact decide_eq_false (by omega)),trivial,(by omega),⟨(by omega),⟨(by omega),(by assumption)⟩⟩,(by(simp;omega))⟩;refine⟨1,⟨by omega,λj hj=>?_⟩,by omega,?_⟩
        · obtain rfl:j=0:=by omega
          exact hs
        refine vk 1
      · have hx2:=zBn V k
        have s4:V.getD k 0<V.getD (k+1) 0:=by
          rcases s3 with h|h
          ·omega
          exact h
        refine zB<|vAs<|ve (True/\0<3)<|vT ((↑(k+1):Int)<↑(Aa V))<|vKB<|zB<|vd [0,2,1,3,4,5,6,7,9,12,8,10,11,13,14,15,16,17,18,19,21,22,25,27,20,23,24,26,28,29,30,31,32]<|vr 4 (True/\0<3/\ix ↑(k+1) ↑(Aa V) (Af (λ(z:Int)=>iD z) V≠[]))<|vp 21 (k+1) (Af (λ(z:Int)=>iD z) V)<|vr 1 (0<Aa (Ag (k+1)<|Af (λ(z:Int)=>iD z) V))<|vsh 22 hx<|vw 7 [] [(6,Ac)] (decide (Ap V (k+1) (0:Int)<0)=Ac/\True/\0<3/\ix ↑(k+1) ↑(Aa V) (Af (λ(z:Int)=>iD z) V≠[])) (vp 28 (k+1) (Af (λ(z:Int)=>iD z) V)<|vr 1 (0<Aa (Ag (k+1)<|Af (λ(z:Int)=>iD z) V))<|vsh 29 hx<|vw 9 [] [(15,Ac),(18,Ab)] (decide (Ap V (k+1) (0:Int)>=n)=Ac/\decide ((↑(k+1):Int)>(0:Int))=Ab/\True/\i6 (↑(k+1)-1)) (vs 40 (iD (↑(k+1)-1)) (iD k) (hd:=by simp(disch:=omega) only[zKo])<|vr 4 (True/\0<3/\ix ↑k ↑(Aa V) (Af (λ(z:Int)=>iD z) V≠[]))<|vp 41 k (Af (λ(z:Int)=>iD z) V)<|vr 1 (0<Aa (Ag k<|Af (λ(z:Int)=>iD z) V))<|vsh 42 hx2<|vr 2 (0<3/\ix ↑(k+1) ↑(Aa V) (Af (λ(z:Int)=>iD z) V≠[])) ?_) ⟨(by exact decide_eq_false (by omega)),(by exact decide_eq_true (by omega)),trivial,(by omega)⟩) ⟨(by exact decide_eq_false (by omega)),trivial,(by omega),⟨(by omega),⟨(by omega),(by assumption)⟩⟩⟩;refine vp 46 (k+1) (Af (λ(z:Int)=>iD z) V)<|vr 1 (0<Aa (Ag (k+1)<|Af (λ(z:Int)=>iD z) V))<|vsh 47 hx<|veT<|vF (Ap V k (0:Int)>=Ap V (k+1) (0:Int))<|zJ<|zD<|vN<|zA rfl<|vr 3 (i6 (↑(k+1)+1))<|vnil<|zC<|⟨k+2,⟨by omega,λj hj=>?_⟩,by omega,?_⟩
        · rcases Aw j (k+1)with h|h
          ·exact h2 j h
          · obtain rfl:j=k+1:=by omega
            exact hs
        refine vk 1
    · have hc3:chk n V R W.length=3:=chk_v h3 (by simpa using hs)
      rw[hc3];rcases i with _|k
      · rw[AM]at hx
        focus
          refine zB<|vAs<|ve (True/\0<3)<|vT ((↑(0:Nat):Int)<↑(Aa V))<|vKB<|zB<|vd [0,2,1,3,4,5,6,7,9,12,8,10,11,13,14,15,16,17,18,19,21,22,25,27,20,23,24,26,28,29,30,31,32]<|vr 5 (True/\0<3/\ix ↑(0:Nat) ↑(Aa V) (Af (λ(z:Int)=>iD z) V≠[])/\0<Aa (Af (λ(z:Int)=>iD z) V))<|vsh 22 hx<|vrT 2<|vspD 24 (Ap V 0 (0:Int)<0) (λhc=>?_)<|λhc=>?_;refine veT<|vt<|vAe<|zK<|zL<|zG<|zG<|zL<|zG<|vret (True)<|.inr rfl;refine vr 6 (True/\0<3/\ix ↑(0:Nat) ↑(Aa V) (Af (λ(z:Int)=>iD z) V≠[])/\0<Aa (Af (λ(z:Int)=>iD z) V))<|vsh 29 hx<|vrT 3<|vspD 33 (Ap V 0 (0:Int)>=n) (λhc=>?_)<|λhc=>?_;refine veT<|vt<|vAe<|zK<|zL<|zG<|zG<|zL<|zG<|vret (True)<|.inr rfl;refine veT<|vf<|zJ<|zD<|vN<|zA rfl<|vr 3 (i6 (↑(0:Nat)+1))<|vnil<|zC ?_;rotate_left
        all_goals exact absurd (zF1 (.inl rfl)) hs
      · have hx2:=zBn V k
        focus
          refine zB<|vAs<|ve (True/\0<3)<|vT ((↑(k+1):Int)<↑(Aa V))<|vKB<|zB<|vd [0,2,1,3,4,5,6,7,9,12,8,10,11,13,14,15,16,17,18,19,21,22,25,27,20,23,24,26,28,29,30,31,32]<|vr 4 (True/\0<3/\ix ↑(k+1) ↑(Aa V) (Af (λ(z:Int)=>iD z) V≠[]))<|vp 21 (k+1) (Af (λ(z:Int)=>iD z) V)<|vr 1 (0<Aa (Ag (k+1)<|Af (λ(z:Int)=>iD z) V))<|vsh 22 hx<|vrT 2<|vspD 24 (Ap V (k+1) (0:Int)<0) (λhc=>?_)<|λhc=>?_;refine veT<|vt<|vAe<|zK<|zL<|zG<|zG<|zL<|zG<|vret (True)<|.inr rfl;refine vr 5 (True/\0<3/\ix ↑(k+1) ↑(Aa V) (Af (λ(z:Int)=>iD z) V≠[]))<|vp 28 (k+1) (Af (λ(z:Int)=>iD z) V)<|vr 1 (0<Aa (Ag (k+1)<|Af (λ(z:Int)=>iD z) V))<|vsh 29 hx<|vrT 3<|vspD 33 (Ap V (k+1) (0:Int)>=n) (λhc=>?_)<|λhc=>?_;refine veT<|vt<|vAe<|zK<|zL<|zG<|zG<|zL<|zG<|vret (True)<|.inr rfl;refine vw 6 [] [(18,Ab)] (decide ((↑(k+1):Int)>(0:Int))=Ab/\True/\i6 (↑(k+1)-1))<|vs 40 (iD (↑(k+1)-1)) (iD k) (hd:=by simp(disch:=omega) only[zKo])<|vr 4 (True/\0<3/\ix ↑k ↑(Aa V) (Af (λ(z:Int)=>iD z) V≠[]))<|vp 41 k (Af (λ(z:Int)=>iD z) V)<|vr 1 (0<Aa (Ag k<|Af (λ(z:Int)=>iD z) V))<|vsh 42 hx2<|vr 2 (0<3/\ix ↑(k+1) ↑(Aa V) (Af (λ(z:Int)=>iD z) V≠[]))<|vp 46 (k+1) (Af (λ(z:Int)=>iD z) V)<|vr 1 (0<Aa (Ag (k+1)<|Af (λ(z:Int)=>iD z) V))<|vsh 47 hx<|veT<|vcD (Ap V k (0:Int)>=Ap V (k+1) (0:Int)) (λhc=>?_)<|λhc=>?_;refine vAe<|zK<|zL<|zG<|zG<|zL<|zG<|vret (True)<|.inr rfl;refine zJ<|zD<|vN<|zA rfl<|vr 3 (i6 (↑(k+1)+1))<|vnil<|zC ?_;rotate_left
        all_goals exact absurd (zF1 (.inr (by simp only[BH];omega))) hs
  have hv:=zFf (p:=zDj n V) (n:=V.length) λj hj=>h2 j (by omega);by_cases hlm:R.length=W.length;case neg=>
    rw[chk_l hv hlm];refine zB<|vAs<|ve (True/\0<3)<|vF ((i:Int)<↑(Aa V))<|vZ2<|zB<|vA<|ve (True/\0<2/\True/\0<1/\True)<|zD2 (t:=(Aa R:Int)!=(Aa W:Int)) (by kernel_rfl) (by simpa using by omega)<|vAe<|zK<|zG<|vret (True)<|.inr rfl
  refine zB<|vAs<|ve (True/\0<3)<|vF ((i:Int)<↑(Aa V))<|vZ2<|zB<|vA<|ve (True/\0<2/\True/\0<1/\True)<|zG9 (t:=(Aa R:Int)!=(Aa W:Int)) (by kernel_rfl) (by simpa using by omega)<|vK<|zB<|vAe<|zF<|zQ (λ(i:Nat)=>fr 145 [(3,Aj 0 0),(6,iD i)]) (λ(i:Nat)=>[rB (.row (V.map λz=>iD z) V.length) (.row (R.map rowV) R.length)<|.row (W.map λz=>iD z) W.length]) (λi=>R.length-i) (λ(i:Nat)=>i<=R.length/\∀j,j<i->j<R.length->decide ((R.getD j []).length=V.length)=Ab) 0 ?_ ?_ ?_
  ·exact⟨by omega,λj h=>by omega⟩
  ·refine vk 1
  clear h1 h2 h3 i;rintro i ⟨h1,h2⟩;rcases Aw i R.length with h3|h3
  · have hne:R.map rowV≠[]:=zX
    have hx:=zY R i h3;have hca:=chk_a hv hlm h3;generalize hg:R.getD i []=r at*;focus
      refine zB<|vAs<|ve (True/\0<2)<|vT ((i:Int)<↑(Aa R))<|vKB<|zB<|vd [0,2,6,1,3,4,5,7,8,9]<|vr 5 (True/\True/\0<2/\ix ↑i ↑(Aa R) (Af rowV R≠[]))<|vp 68 i (Af rowV R)<|vr 1 (0<Aa (Ag i<|Af rowV R))<|vsh 69 hx<|ve (0<3/\True)<|zAa (t:=(Aa r:Int)!=(Aa V:Int)) (by kernel_rfl) (λhc=>?_)<|λhc=>?_;simp only[bne_iff_ne]at hc;refine vAe<|zK<|zL<|zG<|zG<|zL<|zG<|vre (True) (Aq<|Ax AY 6) (.inr rfl) ?_;rotate_left;simp only[bne_eq_false_iff_eq]at hc;refine zJ<|zD<|vN<|zA rfl<|vr 3 (i6 (↑i+1))<|vnil<|zC ?_;rotate_left
    ·rw[hca (by omega)]
    · refine⟨i+1,⟨by omega,λj hj hjl=>?_⟩,by omega,?_⟩
      · rcases Aw j i with h|h
        ·exact h2 j h hjl
        · obtain rfl:j=i:=by omega
          rw[hg];exact decide_eq_true (by omega)
      refine vk 1
  have ha:=zDg (p:=λx:Rw=>decide (x.length=V.length)) (d:=[]) h3 h2;have hl:∀x∈R,x.length<=1000000000:=λx hx=>by
    have:=of_decide_eq_true (Bb.1 ha x hx)
    omega
  refine zB<|vAs<|ve (True/\0<2)<|vF ((i:Int)<↑(Aa R))<|vZ2<|zB<|vAe<|zF<|zQ (λ(i:Nat)=>fr 145 [(3,Aj 0 0),(7,iD i)]) (λ(i:Nat)=>[rB (.row (V.map λz=>iD z) V.length) (.row (R.map rowV) R.length)<|.row (W.map λz=>iD z) W.length]) (λi=>R.length-i) (λ(i:Nat)=>i<=R.length/\∀j,j<i->j<R.length->(R.getD j []).all vok=Ab) 0 ?_ ?_ ?_
  ·exact⟨by omega,λj h=>by omega⟩
  ·refine vk 1
  clear h1 h2 h3 i;rintro i ⟨h1,h2⟩;rcases Aw i R.length with h3|h3
  · have hne:R.map rowV≠[]:=zX
    have hx:=zY R i h3;have hco:=chk_o hv hlm ha h3;have hlr:=hl _ (zAx R [] i h3);generalize hg:R.getD i []=r at*;refine zB<|vAs<|ve (True/\0<2)<|vT ((i:Int)<↑(Aa R))<|vKB<|vAe<|zF<|zQ (λ(k:Nat)=>fr 145 [(3,Aj 0 0),(7,iD i),(8,iD k)]) (λ(k:Nat)=>[rB (.row (V.map λz=>iD z) V.length) (.row (R.map rowV) R.length)<|.row (W.map λz=>iD z) W.length]) (λk=>r.length-k) (λ(k:Nat)=>k<=r.length/\∀j,j<k->j<r.length->vok (r.getD j Ah)=Ab) 0 ?_ ?_ ?_
    ·exact⟨by omega,λj h=>by omega⟩
    ·refine vk 1
    rintro k ⟨k1,k2⟩;rcases Aw k r.length with k3|k3
    · have hno:vok (r.getD k Ah)=Ac->r.all vok=false:=all_no vok Ah r k k3
      generalize hv2:r.getD k Ah=v at*;focus
        refine zB<|vAs<|vr 5 (True/\0<2/\ix ↑i ↑(Aa R) (Af rowV R≠[]))<|vp 86 i (Af rowV R)<|vr 1 (0<Aa (Ag i<|Af rowV R))<|vsh 87 hx<|veT<|vT ((k:Int)<↑(Aa r))<|vKB<|vA<|vr 4 (True/\0<2/\ix ↑i ↑(Aa R) (Af rowV R≠[]))<|vp 95 i (Af rowV R)<|vr 1 (0<Aa (Ag i<|Af rowV R))<|vsh 96 hx<|vr 3 (ix ↑k ↑(Aa r) (zN r≠[])/\3<=Aa (Ag (k*3)<|zN r)) (vs 99 (Ak<|Al 3<|Ag (k*3)<|zN r) (Ak<|vaC v) (hd:=by simp(disch:=omega) only[zDs,hv2])<|ve (Ac=Ac/\Ab=Ab/\3=3/\3<=3)<|vA<|vr 4 (True/\0<3/\True) ?_) ⟨⟨(by omega),⟨(by omega),(by exact zGz _)⟩⟩,(by exact zFw _ _)⟩;refine vsp 103 (Va.kind v==(1:Int)) (λhc=>?_)<|λhc=>?_;simp only[beq_iff_eq]at hc;refine vr 3 (True/\0<1/\True)<|vs 106 (bD (ByteArray.toList (bs<|Va.str v)==ByteArray.toList (Bd #[]))) (bD<|List.isEmpty<|Va.str v) (hd:=by simp(disch:=omega) only[zJc,zM5,zQo])<|vrT 2<|vsp 108 (List.isEmpty<|Va.str v) (λhc=>?_)<|λhc=>?_;refine veT<|vf<|zJ<|zD<|vN<|zA rfl<|vr 3 (i6 (↑k+1))<|vnil<|zC ?_;rotate_left;refine vew [] [(12,Ac)] (True/\0<3/\True/\(Va.kind v==(2:Int))=Ac)<|vt<|vAe<|zK<|zL<|zG<|zG<|zL<|zL<|zG<|zG<|zL ?_;refine zG<|vre (True) (q7_) (.inr rfl) ?_;rotate_left;simp only[beq_eq_false_iff_ne]at hc;refine vr 9 (True/\0<3/\True)<|vsp 112 (Va.kind v==(2:Int)) (λhc=>?_)<|λhc=>?_;simp only[beq_iff_eq]at hc;refine vr 5 (True/\0<2/\True)<|vsp 117 (Va.int v==(0:Int)) (λhc=>?_)<|λhc=>?_;simp only[beq_iff_eq]at hc;refine ve (True/\0<1)<|zAa (t:=!decide ((Aa (Va.str v):Int)<=(24:Int))) (by kernel_rfl) (λhc=>?_)<|λhc=>?_;simp only[BD]at hc;refine vAe<|zK<|zL<|zG<|zG<|zL<|zL<|zG<|zG<|zL<|zG<|vre (True) (q7_) (.inr rfl) ?_;rotate_left;simp only[BN]at hc;refine zJ<|zD<|vN<|zA rfl<|vr 3 (i6 (↑k+1))<|vnil<|zC ?_;rotate_left;simp only[beq_eq_false_iff_ne]at hc;refine veT<|vt<|vAe<|zK<|zL<|zG<|zG<|zL<|zL<|zG<|zG<|zL ?_;refine zG<|vre (True) (q7_) (.inr rfl) ?_;rotate_left;simp only[beq_eq_false_iff_ne]at hc;refine veT<|vt<|vAe<|zK<|zL<|zG<|zG<|zL<|zL<|zG<|zG<|zL ?_;refine zG<|vre (True) (q7_) (.inr rfl) ?_;rotate_left
      · have hvk:vok v=true:=by simp[vok, *]<;>omega
        refine⟨k+1,⟨by omega,λj hj hjl=>?_⟩,by omega,?_⟩
        · rcases Aw j k with h|h
          ·exact k2 j h hjl
          · obtain rfl:j=k:=by omega
            rw[hv2];exact hvk
        refine vk 1
      ·rw[hco (hno (by simp[vok, *]<;>omega))]
      ·rw[hco (hno (by have hd:=hc;simp only[decide_eq_false_iff_not,decide_eq_true_eq]at hd;simp[vok, *]<;>omega))]
      · have hvk:vok v=true:=by have hd:=hc;simp only[decide_eq_false_iff_not,decide_eq_true_eq]at hd;simp[vok, *]<;>omega
        refine⟨k+1,⟨by omega,λj hj hjl=>?_⟩,by omega,?_⟩
        · rcases Aw j k with h|h
          ·exact k2 j h hjl
          · obtain rfl:j=k:=by omega
            rw[hv2];exact hvk
        refine vk 1
      ·rw[hco (hno (by simp[vok, *]<;>omega))]
      rw[hco (hno (by simp[vok, *]<;>omega))]
    · have hra:=zDg (p:=vok) (d:=Ah) k3 k2
      refine zB<|vAs<|vr 5 (True/\0<2/\ix ↑i ↑(Aa R) (Af rowV R≠[]))<|vp 86 i (Af rowV R)<|vr 1 (0<Aa (Ag i<|Af rowV R))<|vsh 87 hx<|veT<|vF ((k:Int)<↑(Aa r))<|vY2<|zD<|vN<|zA rfl<|vr 3 (i6 (↑i+1))<|vnil<|zC<|⟨i+1,⟨by omega,λj hj hjl=>?_⟩,by omega,?_⟩
      · rcases Aw j i with h|h
        ·exact h2 j h hjl
        · obtain rfl:j=i:=by omega
          rw[hg];exact hra
      refine vk 1
  have ho:=zDg (p:=λx:Rw=>x.all vok) (d:=[]) h3 h2;refine zB<|vAs<|ve (True/\0<2)<|vF ((i:Int)<↑(Aa R))<|vZ2<|zB<|vAe<|zF<|zQ (λ(k:Nat)=>fr 145 [(3,Aj 0 0),(10,iD (↑k+1))]) (λ(k:Nat)=>[rB (.row (V.map λz=>iD z) V.length) (.row (R.map rowV) R.length)<|.row (W.map λz=>iD z) W.length]) (λk=>R.length-k) (λ(k:Nat)=>k<=R.length/\∀j,j<=k->j<R.length->zG0 R j=Ab) 0 ?_ ?_ ?_
  · exact ⟨by omega, fun j h _ => by obtain rfl:j=0:=by omega
                                     rfl⟩
  ·refine vk 1
  clear h1 h2 h3 i;rintro k ⟨h1,h2⟩;rcases Aw (k+1) R.length with h3|h3
  · have hne:R.map rowV≠[]:=zX
    have hx:=zY R (k+1) h3;have hx0:=zY R k (by omega);have hcs:=chk_s hv hlm ha ho h3;have hst:zG0 R (k+1)=decide (rcmp (R.getD k []) (R.getD (k+1) [])<0):=by simp[zG0]
    have hcm:=zYk (R.getD k []) (R.getD (k+1) []) _ _ rfl rfl (hl _ (zAx R [] k (by omega))) (hl _ (zAx R [] (k+1) h3));generalize R.getD (k+1) []=r at*;generalize R.getD k []=r0 at*;focus
      refine zB<|vAs<|ve (True/\0<2)<|vT ((↑(k+1):Int)<↑(Aa R))<|vKB<|zB<|vd [0,2,3,6,8,1,4,5,7,9,10,11,12]<|vr 3 (True/\i6 (↑(k+1)-1))<|vs 135 (iD (↑(k+1)-1)) (iD k) (hd:=by simp(disch:=omega) only[zKo])<|vr 4 (True/\0<2/\ix ↑k ↑(Aa R) (Af rowV R≠[]))<|vp 136 k (Af rowV R)<|vr 1 (0<Aa (Ag k<|Af rowV R))<|vsh 137 hx0<|vr 2 (0<2/\ix ↑(k+1) ↑(Aa R) (Af rowV R≠[]))<|vp 141 (k+1) (Af rowV R)<|vr 1 (0<Aa (Ag (k+1)<|Af rowV R))<|vsh 142 hx<|vc hcm<|veT<|zAa (t:=!decide (rcmp r0 r<0)) (by kernel_rfl) (λhc=>?_)<|λhc=>?_;simp only[BD]at hc;refine vAe<|zK<|zL<|zG<|zG<|zL<|zG<|vre (True) (Aq<|Ax AY 16) (.inr rfl) ?_;rotate_left;simp only[BN]at hc;refine zJ<|zD<|vN<|zA rfl<|vr 3 (i6 (↑(k+1)+1))<|vnil<|zC ?_;rotate_left
    ·rw[hcs (by rw[hst];simpa using hc)]
    · refine⟨k+1,⟨by omega,λj hj hjl=>?_⟩,by omega,?_⟩
      · rcases Aw j (k+1)with h|h
        ·exact h2 j (by omega) hjl
        · obtain rfl:j=k+1:=by omega
          rw[hst];simpa using hc
      refine vk 1
  rw[chk_0 hv hlm ha ho (zFf λj hj=>h2 j (by omega) hj)];refine zB<|vAs<|ve (True/\0<2)<|vF ((k:Int)+(1:Int)<(Aa R:Int))<|vZ2<|vAe<|zK<|vret (True)<|.inr rfl
abbrev natI(W:List Nat):List Int:=W.map λw:Nat=>(w:Int)
abbrev rnR(f:Rn):Raw:=⟨f.V,f.R,natI f.W⟩
theorem max0(w:Nat):(if(0:Int)>(w:Nat)then 0 else((w:Nat):Int))=(w:Nat):=by split<;>omega
theorem zN3{n:Nat}(h:n<18446744073709551616):IntKind.u64.wrap (n:Int)=(n:Int):=zD4 (k:= .u64) (by simp only[inK];omega)
theorem zJp(W:List Nat):(natI W).map (λz=>iD z)=nsD W:=by simp[natI]
set_option maxHeartbeats 2000000 in
theorem zTt(f:Rn)(hW:f.W.length<=1000)(hw:∀w∈f.W,w<=1000000):Pure Ar 25 [rawD (rnR f)] [] (.agg (rnC f)):=by
 obtain⟨V,R,W⟩:=f;simp only at hW hw;have e1:rawD (rnR ⟨V,R,W⟩)= .agg [.row (V.map λz=>iD z) V.length, .row (R.map rowV) R.length, .row (nsD W) W.length]:=by
  show Ak [_,_, .row ((natI W).map λz=>iD z) (natI W).length]=_;rw[zJp,AR]
 rw[e1];refine zH zCf mixed Tryz.func25 rfl<|vAu<|vA<|vr 7 (True/\0<3/\True/\0<2/\((1=1/\1<=3/\1=1/\2<=3/\True)/\Ab=Ab)/\Ac=Ac/\Ab=Ab/\3=3/\3<=3)<|vnil<|zC<|vnn (fr 31 [(1,Aj 0 0),(2,Aj 1 0),(3,Aj 2 0),(5,Aj 0 0),(6,Ad (Af (λ(z:Int)=>iD z) V)<|Aa V),(7,Aj 0 1),(8,Ad (Af rowV R)<|Aa R),(9,Ak [Ad (Af (λ(z:Int)=>iD z) V)<|Aa V,Ad (Af rowV R)<|Aa R,nl])]) [Ao [Ad (Af (λ(z:Int)=>iD z) V)<|Aa V,Ad (Af rowV R)<|Aa R,Ad (nsD W)<|Aa W] 42 0 Ac Ac Am,Ao [nl,nl,nl] 90 0 Ac Ac Am,Ao [Ad (Af (λ(z:Int)=>iD z) V)<|Aa V,Ad (Af rowV R)<|Aa R,nl] 90 0 Ac Ac Am]<|zAw (Bp (j:=2) (i:=2) (natB []) rfl rfl rfl rfl) ?_;refine zB<|vAu<|zF<|zQ (λ(i:Nat)=>fr 31 [(1,Aj 0 0),(2,Aj 1 0),(3,Aj 2 0),(4,iD i)]) (λ(i:Nat)=>[rB (.row (V.map λz=>iD z) V.length) (.row (R.map rowV) R.length)<|.row (nsD W) W.length,fB1 nl nl nl,fB1 (.row (V.map λz=>iD z) V.length) (.row (R.map rowV) R.length)<|.osl 3 0 i i Ab,natB<|(W.take i).map natD]) (λi=>W.length-i) (λ(i:Nat)=>i<=W.length) 0 ?_ ?_ ?_
 ·omega
 ·refine vk 4
 rintro i h1;rcases Aw i W.length with h2|h2
 ·have hne:nsD W≠[]:=zX;have hx:=zAi W i h2;have hm:=zBv W i h2;have hb:=hw _ hm;have e0:(W.take (i+1)).map natD=(W.take i).map natD++[natD (W.getD i 0)]:=by
   rw[BO h2,List.map_append,AF,AQ h2];rfl
  have hl:((W.take i).map natD).length=i:=by simp;omega
  generalize W.getD i 0=w at*;have hof:=of_c w (by omega);have m0:=max0 w;have m1:=zN3 (n:=w) (by omega);refine zB<|vAs<|ve (True/\0<1)<|vT ((i:Int)<↑(Aa W))<|vKB<|vd [0,2,4,1,3,5,6,7,8,9,10,11,12,13]<|vr 6 (True/\True/\0<1/\0<1/\ix ↑i ↑(Aa W) (nsD W≠[]))<|vp 22 i (nsD W)<|vr 1 (0<Aa (Ag i<|nsD W))<|vsh 23 hx<|vr 2 (u6 (w:Int))<|vc hof<|vr 4 (((1=1/\1<=1/\True)/\0<1/\1=1/\1<=16777216/\1<=9223372036854775807)/\(A0 (natB<|Af natD<|Al i W)=Ab/\Aa (AI<|natB<|Af natD<|Al i W)=i*1/\i=i*1/\AS (natB<|Af natD<|Al i W)=50/\AT (natB<|Af natD<|Al i W)=1/\1=1/\0<1/\0<24/\50=50/\(i+1)*24<=140737488355328/\1=1/\AU (AA<|natB<|Af natD<|Al i W)=Ac/\(Ac=Ac\/AV (AA<|natB<|Af natD<|Al i W)=Ab))/\True/\Ac=Ac/\Ab=Ab/\1=1/\3<=3)<|vb 2 (Ao [Ad (Af (λ(z:Int)=>iD z) V)<|Aa V,Ad (Af rowV R)<|Aa R,Ai 3 0 (i+1) ((i+1)*1) Ab] 90 0 Ac Ac Am) (Ao [Ad (Af (λ(z:Int)=>iD z) V)<|Aa V,Ad (Af rowV R)<|Aa R,Ai 3 0 (i+1) (i+1) Ab] 90 0 Ac Ac Am) (hd:=by simp(disch:=omega) only[Bm])<|vnil<|zD<|vN<|zA rfl<|vr 3 (i6 (↑i+1))<|vnil<|zC<|⟨i+1,by omega,by omega,?_⟩;rw[e0];refine vk 4
 refine zB<|vAs<|ve (True/\0<1)<|vF ((i:Int)<(Aa W:Int))<|vZ2<|vA<|ve (3<=3/\Ac=Ac/\Ab=Ab/\3=3/\3<=3)<|zK<|zBr (3<=3) (Ak [Ad (Af (λ(z:Int)=>iD z) V)<|Aa V,Ad (Af rowV R)<|Aa R,Ad (Al i<|Ag 0<|AI<|natB<|Af natD<|Al i W) i]) (Ak [Ad (Af (λ(z:Int)=>iD z) V)<|Aa V,Ad (Af rowV R)<|Aa R,Ad (Al i<|Af natD<|Al i W) i]) (.inr rfl) (by simp(disch:=omega) only[AM]) ?_ (hc:=by omega);obtain rfl:i=W.length:=by omega
 rw[BZ,AK (by simp)]
abbrev rwD(f:Rn):List D:=rawC (rnR f)
theorem zDv(f:Rn):(rwD f).length=3:=rfl
theorem rn_snoc(l:List Rn)(f:Rn):(l++[f]).flatMap rnC=l.flatMap rnC++rnC f:=by simp
theorem len_sn{α:Type}(l:List α)(x:α):(l++[x]).length=l.length+1:=by simp
structure Rsm(f:Rn):Prop where
 v:f.V.length<=4
 r:f.R.length<=10
 w:f.W.length<=12
 b:∀w∈f.W,w<=1000
set_option maxHeartbeats 2000000 in
theorem counts_c(fs:List Rn)(hl:fs.length<=1000)(hs:∀f∈fs,Rsm f):Pure Ar 12 [.row (fs.flatMap rwD) fs.length] [] (.row (fs.flatMap rnC) fs.length):=by
 refine zH zCf mixed Tryz.func12 rfl<|vAu<|vAe<|zB<|vAe<|zF<|zA2 (λ(i:Nat)(a:List Rn)=>fr 20 [(0,Ad (Ae rwD fs)<|Aa fs),(2,nl),(3,Ai 0 0 (Aa a) (Aa a*3) Ab),(4,iD (i:Int))]) (λ(i:Nat)(a:List Rn)=>[fsB<|a.flatMap rnC]) (λi a=>fs.length-i) (λ(i:Nat)(a:List Rn)=>i<=fs.length/\a=fs.take i) 0 [] ?_ ?_ ?_
 ·exact⟨by omega,rfl⟩
 ·refine vk 0
 rintro i a ⟨h1,h2⟩;have la:a.length<=1000:=by rw[h2];simp;omega
 have ca:(a.flatMap rnC).length=a.length*3:=zCc zLm a;rcases Aw i fs.length with h3|h3
 ·have hm:=zAx fs Ah i h3;have hg2:=zA9 zDv fs i h3;have hle:=zB5 zDv fs i h3;have hne:=zCb zDv (by decide) fs;have htk:=zBl fs i h3;rw[<-h2]at htk;have hsm:=hs _ hm;generalize fs.getD i Ah=f at*;have hco:=zTt f (by have:=hsm.w;omega) (λw h=>by have:=hsm.b w h;omega);refine zB<|vAu<|vT ((i:Int)<↑(Aa fs))<|vKB<|zA rfl<|vr 5 (ix ↑i ↑(Aa fs) (Ae rwD fs≠[])/\3<=Aa (Ag (i*3)<|Ae rwD fs))<|vs 15 (Ak<|Al 3<|Ag (i*3)<|Ae rwD fs) (Ak<|rwD f) (hd:=by simp(disch:=omega) only[hg2])<|vc hco<|vr 3 (((3=3/\3<=3/\True)/\0<3/\3=3/\3<=16777216/\1<=9223372036854775807)/\A0 (fsB<|Ae rnC a)=Ab/\Aa (AI<|fsB<|Ae rnC a)=Aa a*3/\Aa a*3=Aa a*3/\AS (fsB<|Ae rnC a)=90/\AT (fsB<|Ae rnC a)=3/\3=3/\0<3/\0<72/\90=90/\(Aa a+1)*72<=140737488355328/\3=3/\AU (AA<|fsB<|Ae rnC a)=Ac/\(Ac=Ac\/AV (AA<|fsB<|Ae rnC a)=Ab))<|vnil<|zD<|vN<|zA rfl<|vr 3 (i6 (↑i+1))<|vnil<|zC<|⟨i+1,a++[f],⟨by omega,htk.symm⟩,by omega,?_⟩;rw[rn_snoc,len_sn];refine vk 1
 rw[AK (by omega)]at h2;subst h2;have ht:=zBs zLm a _ rfl;refine zB<|vAu<|vF ((i:Int)<↑(Aa a))<|vZ2<|vAe<|zK<|zBr (True) (Ad (Al (Aa a*3)<|Ag 0<|AI<|fsB<|Ae rnC a)<|Aa a) (Ad (Ae rnC a)<|Aa a) (.inr rfl) (by simp(disch:=omega) only[AM,ht]) rfl
theorem headD_vl(l:List (Rw×Nat)){k:Nat}(h:k<l.length):((vlsD l).drop k).headD .unk=natD (l.getD k Ah).2:=by
 rw[<-zRp l h];exact zD9 (l.map (·.2)) k (by simpa using h)
set_option maxHeartbeats 4000000 in
theorem same_c(A:List Nat)(l:List (Rw×Nat))(hA:A.length<=1000)(hl:l.length<=1000000)(hr:∀p∈l,p.1.length<=1000000000)(hv:∀p∈l,p.2<=9223372036854775807):Pure Ar 27 [fcD A l,rfD A l] [] (bD Ab):=by
 refine zH zCf mixed Tryz.func27 rfl<|vAu<|zB<|vA<|vew [] [(7,Ac),(16,Ac)] (True/\0<3/\True/\0<3/\True/\((Aa A:Int)!=(Aa A:Int))=Ac/\True/\0<2/\True/\0<2/\True/\((Aa l:Int)!=(Aa l:Int))=Ac/\True/\0<1/\True/\0<1/\True)<|zG9 (t:=(Aa l:Int)!=(Aa l:Int)) (by kernel_rfl) (by simp)<|vK<|zB<|vAe<|zF<|zQ (λ(i:Nat)=>fr 85 [(2,Aj 0 0),(3,Aj 1 0),(5,iD (i:Int))]) (λ(i:Nat)=>[fB1 (.row (nsD A) A.length) (.row (rwsD l) l.length)<|.row (vlsD l) l.length,rB (.row (nsD A) A.length) (.row (rwsD l) l.length)<|.row (isD l) l.length]) (λi=>A.length-i) (λ(i:Nat)=>i<=A.length) 0 ?_ ?_ ?_
 ·omega
 ·refine vk 2
 rintro i h1;rcases Aw i A.length with h2|h2
 ·have hne:nsD A≠[]:=zX;have hx:=zAi A i h2;refine zB<|vAs<|ve (True/\0<3)<|vT ((i:Int)<↑(Aa A))<|vKB<|zB<|vd [0,2,5,7,1,3,4,6,8,9,10]<|vr 6 (True/\True/\0<3/\ix ↑i ↑(Aa A) (nsD A≠[]))<|vp 42 i (nsD A)<|vr 1 (0<Aa (Ag i<|nsD A))<|vsh 43 hx<|vr 2 (0<3/\ix ↑i ↑(Aa A) (nsD A≠[]))<|vp 47 i (nsD A)<|vr 1 (0<Aa (Ag i<|nsD A))<|vsh 48 hx<|veT<|zG9 (t:=(↑(Ap A i 0):Int)!=(↑(Ap A i 0):Int)) (by kernel_rfl) (by simp)<|zJ<|zD<|vN<|zA rfl<|vr 3 (i6 (↑i+1))<|vnil<|zC<|⟨i+1,by omega,by omega,?_⟩;refine vk 2
 refine zB<|vAs<|ve (True/\0<3)<|vF ((i:Int)<↑(Aa A))<|vZ2<|zB<|vAe<|zF<|zQ (λ(i:Nat)=>fr 85 [(2,Aj 0 0),(3,Aj 1 0),(6,iD i)]) (λ(i:Nat)=>[fB1 (.row (nsD A) A.length) (.row (rwsD l) l.length)<|.row (vlsD l) l.length,rB (.row (nsD A) A.length) (.row (rwsD l) l.length)<|.row (isD l) l.length]) (λi=>l.length-i) (λ(i:Nat)=>i<=l.length) 0 ?_ ?_ ?_
 ·omega
 ·refine vk 2
 clear h1 h2 i;rintro i h1;rcases Aw i l.length with h2|h2
 ·have hpm:=zAx l Ah i h2;have hx:=headD_rw l h2;have hy:=headD_vl l h2;have hz:=headD_is l h2;have hne:rwsD l≠[]:=zX (h:=by simp;omega);have hne2:vlsD l≠[]:=zX (h:=by simp;omega);have hne3:isD l≠[]:=zX (h:=by simp;omega);have hrp:=hr _ hpm;have hvp:=hv _ hpm;generalize l.getD i Ah=p at*;have hsa:=rsame_c p.1 _ rfl hrp;have hof:=of_c p.2 (by omega);have hcm:=zRj p.2 p.2 (Sm.of (by omega)) (Sm.of (by omega));have e0:cmpD (p.2:Int) (p.2:Int)=0:=by rcases zCj (p.2:Int) p.2 with h|h|h<;>omega
  rw[e0]at hcm;have m1:=zN3 (n:=p.2) (by omega);refine zB<|vAs<|ve (True/\0<2)<|vT ((i:Int)<↑(Aa l))<|vKB<|zB<|vd [0,2,5,7,1,3,4,6,8,9,10,11,12,13,15,18,20,14,16,17,19,21,22,23,24,25,26,27]<|vr 6 (True/\True/\0<2/\ix ↑i ↑(Aa l) (rwsD l≠[]))<|vp 60 i (rwsD l)<|vr 1 (0<Aa (Ag i<|rwsD l))<|vsh 61 hx<|vr 2 (0<2/\ix ↑i ↑(Aa l) (rwsD l≠[]))<|vp 65 i (rwsD l)<|vr 1 (0<Aa (Ag i<|rwsD l))<|vsh 66 hx<|vc hsa<|vr 8 (True/\True/\0<1/\ix ↑i ↑(Aa l) (vlsD l≠[]))<|vp 73 i (vlsD l)<|vr 1 (0<Aa (Ag i<|vlsD l))<|vsh 74 hy<|vr 2 (0<1/\ix ↑i ↑(Aa l) (isD l≠[]))<|vp 78 i (isD l)<|vr 1 (0<Aa (Ag i<|isD l))<|vsh 79 hz<|vr 1 (u6 (↑(AL p):Int))<|vc hof<|vc hcm<|veT<|vf<|zJ<|zD<|vN<|zA rfl<|vr 3 (i6 (↑i+1))<|vnil<|zC<|⟨i+1,by omega,by omega,?_⟩;refine vk 2
 refine zB<|vAs<|ve (True/\0<2)<|vF ((i:Int)<(Aa l:Int))<|vZ2<|vAe<|zK<|vret (True)<|.inr rfl
def fewR(f:Raw):Bool:=decide (f.R.length<=10)&&(decide (f.V.length<=4)&&(decide (f.W.length<=12)&&f.W.all λw=>decide (0<=w/\w<=1000)))
def fewP(l:List Raw):Bool:=((l.take 5).all fewR)&&decide (l.length<=4)
theorem fewP_rn{l:List Raw}(h:fewP l=Ab):l.length<=4/\∃fs:List Rn,l=fs.map rnR/\∀f∈fs,Rsm f:=by
 unfold fewP at h;rw[Bn,decide_eq_true_eq,Bb]at h;refine⟨h.2,l.map λf=>⟨f.V,f.R,f.W.map As⟩,?_,?_⟩
 ·rw[Bf];conv=>lhs;rw[<-B0 l]
  refine BG λf hf=>?_;have hf2:=h.1 f (by rw[AK (by omega)];exact hf);unfold fewR at hf2;simp only[Bn,decide_eq_true_eq,Bb]at hf2;obtain⟨V,R,W⟩:=f;simp only[Function.comp,id];congr 1;show W=(W.map As).map λw:Nat=>(w:Int);rw[Bf];conv=>lhs;rw[<-B0 W]
  refine BG λw hw=>?_
  have:=hf2.2.2.2 w hw
  simp only[id,Function.comp];omega
 intro f hf;obtain⟨g,hg,rfl⟩:=AE.1 hf;have hf2:=h.1 g (by rw[AK (by omega)];exact hg);unfold fewR at hf2;simp only[Bn,decide_eq_true_eq,Bb]at hf2;refine⟨hf2.2.1,hf2.1,by simpa using hf2.2.2.1,λw hw=>?_⟩;obtain⟨z,hz,rfl⟩:=AE.1 hw
 have:=hf2.2.2.2 z hz
 omega
theorem fewP_no{l:List Raw}{i:Nat}(h:i<l.length)(h5:i<5)(hp:fewR (l.getD i Ah)=Ac):fewP l=false:=by
 unfold fewP;have:(l.take 5).all fewR=false:=by
  rw[Cb];intro k;rw[Bb]at k
  have:=k (l.getD i Ah) (by
   rw[AF,AQ h];exact BS.2 ⟨i,by rw[Br];omega,by rw[BU];rfl⟩)
  rw[hp]at this;cases this
 rw[this];rfl
theorem fewP_yes{l:List Raw}(h:∀j,j<5->j<l.length->fewR (l.getD j Ah)=Ab):fewP l=decide (l.length<=4):=by
 unfold fewP;have:(l.take 5).all fewR=true:=by
  rw[Bb];intro f hf;obtain⟨j,hj,rfl⟩:=BS.1 hf;rw[Br]at hj
  have:=h j (by omega) (by omega)
  rw[AF,AQ (by omega)]at this;rw[BU];exact this
 rw[this];rfl
set_option maxHeartbeats 4000000 in
theorem few_c(l:List Raw):Pure Ar 7 [.row (l.flatMap rawC) l.length] [] (bD (fewP l)):=by
 refine zH zCf mixed Tryz.func7 rfl<|vAu<|zB<|vAe<|zF<|zQ (λ(i:Nat)=>fr 73 [(0,Ad (Ae rawC l)<|Aa l),(3,iD (i:Int))]) (λ(i:Nat)=>[]) (λi=>5-i) (λ(i:Nat)=>i<=5/\i<=l.length/\∀j,j<i->fewR (l.getD j Ah)=Ab) 0 ?_ ?_ ?_
 ·exact⟨by omega,by omega,λj h=>by omega⟩
 ·refine vk 0
 rintro i ⟨h0,h1,h2⟩;by_cases h3:i<l.length/\i<5
 ·obtain⟨h3,h4⟩:=h3;have hg2:=fl_at zPj l i h3;have hle:=zB5 zPj l i h3;have hne:=zCb zPj (by decide) l;have hno:=fewP_no h3 h4;generalize hff:l.getD i Ah=f at*;obtain⟨V,R,W⟩:=f;by_cases hbad:R.length<=10/\V.length<=4/\W.length<=12
  ·obtain⟨b1,b2,b3⟩:=hbad;refine zB<|vAs<|vew [] [(4,Ab)] (decide ((i:Int)<↑(Aa l))=Ab)<|vT ((i:Int)<(5:Int))<|vKB<|zB<|vA<|vr 3 (ix ↑i ↑(Aa l) (Ae rawC l≠[]))<|vs 17 (AD<|Ag (As (i:Int)*3)<|Ae rawC l) (AD (Ad (Af iD V) (Aa V)::Ad (Af rowV R) (Aa R)::Ad (Af iD W) (Aa W)::Ae rawC (Ag (i+1) l))) (hd:=by simp(disch:=omega) only[Az,A3,A4,hg2])<|vw 8 [] [(7,Ac)] (True/\0<Aa (Ad (Af rowV R) (Aa R)::Ad (Af iD W) (Aa W)::Ae rawC (Ag (i+1) l))/\decide ((Aa R:Int)>(10:Int))=Ac/\ix ↑i ↑(Aa l) (Ae rawC l≠[]))<|vs 25 (AD<|Ag (As (i:Int)*3)<|Ae rawC l) (AD (Ad (Af iD V) (Aa V)::Ad (Af rowV R) (Aa R)::Ad (Af iD W) (Aa W)::Ae rawC (Ag (i+1) l))) (hd:=by simp(disch:=omega) only[Az,A3,A4,hg2])<|vw 9 [] [(16,Ac)] (True/\0<Aa (Ad (Af iD V) (Aa V)::Ad (Af rowV R) (Aa R)::Ad (Af iD W) (Aa W)::Ae rawC (Ag (i+1) l))/\decide ((Aa V:Int)>(4:Int))=Ac/\ix ↑i ↑(Aa l) (Ae rawC l≠[]))<|vs 34 (AD<|Ag (As (i:Int)*3)<|Ae rawC l) (AD (Ad (Af iD V) (Aa V)::Ad (Af rowV R) (Aa R)::Ad (Af iD W) (Aa W)::Ae rawC (Ag (i+1) l))) (hd:=by simp(disch:=omega) only[Az,A3,A4,hg2])<|ve (True/\0<Aa (Ad (Af iD W) (Aa W)::Ae rawC (Ag (i+1) l)))<|vF ((Aa W:Int)>(12:Int))<|vK<|vAe<|zF<|zQ (λ(k:Nat)=>fr 73 [(0,Ad (Ae rawC l)<|Aa l),(3,iD i),(4,iD k)]) (λ(k:Nat)=>[]) (λk=>W.length-k) (λ(k:Nat)=>k<=W.length/\∀j,j<k->j<W.length->decide (0<=W.getD j 0/\W.getD j 0<=1000)=Ab) 0 ?_ ?_ ?_
   ·exact⟨by omega,λj h=>by omega⟩
   ·refine vk 0
   rintro k ⟨k1,k2⟩;rcases Aw k W.length with k3|k3
   ·have hneW:(W.map λz=>iD z)≠[]:=zX;have hx:=zBn W k (h:=k3);have hbw:¬(0<=W.getD k 0/\W.getD k 0<=1000)->fewR ⟨V,R,W⟩=false:=λhb=>by
     unfold fewR;rw[all_no (λw=>decide (0<=w/\w<=1000)) 0 W k k3 (decide_eq_false hb)];simp
    focus
     refine zB<|vAs<|vr 4 (ix ↑i ↑(Aa l) (Ae rawC l≠[]))<|vs 43 (AD<|Ag (As (i:Int)*3)<|Ae rawC l) (AD (Ad (Af iD V) (Aa V)::Ad (Af rowV R) (Aa R)::Ad (Af iD W) (Aa W)::Ae rawC (Ag (i+1) l))) (hd:=by simp(disch:=omega) only[Az,A3,A4,hg2])<|ve (True/\0<Aa (Ad (Af iD W) (Aa W)::Ae rawC (Ag (i+1) l)))<|vT ((k:Int)<↑(Aa W))<|vKB<|vA<|vr 3 (ix ↑i ↑(Aa l) (Ae rawC l≠[]))<|vs 52 (AD<|Ag (As (i:Int)*3)<|Ae rawC l) (AD (Ad (Af iD V) (Aa V)::Ad (Af rowV R) (Aa R)::Ad (Af iD W) (Aa W)::Ae rawC (Ag (i+1) l))) (hd:=by simp(disch:=omega) only[Az,A3,A4,hg2])<|vr 4 (True/\0<Aa (Ad (Af iD W) (Aa W)::Ae rawC (Ag (i+1) l))/\ix ↑k ↑(Aa W) (Af iD W≠[]))<|vp 56 k (Af iD W)<|vr 1 (0<Aa (Ag k<|Af iD W))<|vsh 57 hx<|vrT 2<|vspD 59 (Ap W k (0:Int)<0) (λhc=>?_)<|λhc=>?_;refine veT<|vt<|vAe<|zK<|zL<|zG<|zG<|zL<|zL<|zG<|zG<|zL ?_;refine zG<|vre (True) (Aq<|B1 Ac) (.inr rfl) ?_;rotate_left;refine vr 3 (ix ↑i ↑(Aa l) (Ae rawC l≠[]))<|vs 62 (AD<|Ag (As (i:Int)*3)<|Ae rawC l) (AD (Ad (Af iD V) (Aa V)::Ad (Af rowV R) (Aa R)::Ad (Af iD W) (Aa W)::Ae rawC (Ag (i+1) l))) (hd:=by simp(disch:=omega) only[Az,A3,A4,hg2])<|vr 4 (True/\0<Aa (Ad (Af iD W) (Aa W)::Ae rawC (Ag (i+1) l))/\ix ↑k ↑(Aa W) (Af iD W≠[]))<|vp 66 k (Af iD W)<|vr 1 (0<Aa (Ag k<|Af iD W))<|vsh 67 hx<|veT<|vcD (Ap W k (0:Int)>(1000:Int)) (λhc=>?_)<|λhc=>?_;refine vAe<|zK<|zL<|zG<|zG<|zL<|zL<|zG<|zG<|zL<|zG<|vre (True) (Aq<|B1 Ac) (.inr rfl) ?_;rotate_left;refine zJ<|zD<|vN<|zA rfl<|vr 3 (i6 (↑k+1))<|vnil<|zC ?_;rotate_left
    ·rw[hno (hbw (by omega))]
    ·rw[hno (hbw (by omega))]
    refine⟨k+1,⟨by omega,λj hj hjl=>?_⟩,by omega,?_⟩
    ·rcases Aw j k with h|h
     ·exact k2 j h hjl
     obtain rfl:j=k:=by omega
     exact decide_eq_true (by omega)
    refine vk 0
   have hw:=zDg (p:=λw:Int=>decide (0<=w/\w<=1000)) (d:=0) k3 k2;have hfr:fewR ⟨V,R,W⟩=true:=by
    unfold fewR;rw[hw];simp[b1,b2,b3]
   refine zB<|vAs<|vr 4 (ix ↑i ↑(Aa l) (Ae rawC l≠[]))<|vs 43 (AD<|Ag (As (i:Int)*3)<|Ae rawC l) (AD (Ad (Af iD V) (Aa V)::Ad (Af rowV R) (Aa R)::Ad (Af iD W) (Aa W)::Ae rawC (Ag (i+1) l))) (hd:=by simp(disch:=omega) only[Az,A3,A4,hg2])<|ve (True/\0<Aa (Ad (Af iD W) (Aa W)::Ae rawC (Ag (i+1) l)))<|vF ((k:Int)<↑(Aa W))<|vY2<|zD<|vN<|zA rfl<|vr 3 (i6 (↑i+1))<|vnil<|zC<|⟨i+1,⟨by omega,by omega,λj hj=>?_⟩,by omega,?_⟩
   ·rcases Aw j i with h|h
    ·exact h2 j h
    obtain rfl:j=i:=by omega
    rw[hff];exact hfr
   refine vk 0
  have hfr:fewR ⟨V,R,W⟩=false:=by
   unfold fewR;rw[Cb];intro k;simp only[Bn,decide_eq_true_eq]at k;exact hbad ⟨k.1,k.2.1,k.2.2.1⟩
  rw[hno hfr];focus
   refine zB<|vAs<|vew [] [(4,Ab)] (decide ((i:Int)<↑(Aa l))=Ab)<|vT ((i:Int)<(5:Int))<|vKB<|zB<|vA<|vr 3 (ix ↑i ↑(Aa l) (Ae rawC l≠[]))<|vs 17 (AD<|Ag (As (i:Int)*3)<|Ae rawC l) (AD (Ad (Af iD V) (Aa V)::Ad (Af rowV R) (Aa R)::Ad (Af iD W) (Aa W)::Ae rawC (Ag (i+1) l))) (hd:=by simp(disch:=omega) only[Az,A3,A4,hg2])<|vr 5 (True/\0<Aa (Ad (Af rowV R) (Aa R)::Ad (Af iD W) (Aa W)::Ae rawC (Ag (i+1) l)))<|vspD 22 ((Aa R:Int)>(10:Int)) (λhc=>?_)<|λhc=>?_;refine veT<|vt<|vAe<|zK<|zG<|zL<|zG<|zG<|zL<|zG<|vret (True)<|.inr rfl;refine vr 3 (ix ↑i ↑(Aa l) (Ae rawC l≠[]))<|vs 25 (AD<|Ag (As (i:Int)*3)<|Ae rawC l) (AD (Ad (Af iD V) (Aa V)::Ad (Af rowV R) (Aa R)::Ad (Af iD W) (Aa W)::Ae rawC (Ag (i+1) l))) (hd:=by simp(disch:=omega) only[Az,A3,A4,hg2])<|vr 6 (True/\0<Aa (Ad (Af iD V) (Aa V)::Ad (Af rowV R) (Aa R)::Ad (Af iD W) (Aa W)::Ae rawC (Ag (i+1) l)))<|vspD 31 ((Aa V:Int)>(4:Int)) (λhc=>?_)<|λhc=>?_;refine veT<|vt<|vAe<|zK<|zG<|zL<|zG<|zG<|zL<|zG<|vret (True)<|.inr rfl;refine vr 3 (ix ↑i ↑(Aa l) (Ae rawC l≠[]))<|vs 34 (AD<|Ag (As (i:Int)*3)<|Ae rawC l) (AD (Ad (Af iD V) (Aa V)::Ad (Af rowV R) (Aa R)::Ad (Af iD W) (Aa W)::Ae rawC (Ag (i+1) l))) (hd:=by simp(disch:=omega) only[Az,A3,A4,hg2])<|ve (True/\0<Aa (Ad (Af iD W) (Aa W)::Ae rawC (Ag (i+1) l)))<|vT ((Aa W:Int)>(12:Int))<|vAe<|zK<|zG<|zL<|zG<|zG<|zL<|zG<|vret (True)<|.inr rfl
 rw[fewP_yes λj j5 jl=>h2 j (by omega)];have e4:decide ((l.length:Int)<=4)=decide (l.length<=4):=by rw[decide_eq_decide];omega
 focus
  refine zB<|vAs<|vrT 5<|vspD 9 ((i:Int)<↑(Aa l)) (λhc=>?_)<|λhc=>?_;refine veT<|vF ((i:Int)<(5:Int))<|vZ2<|vA<|vrT 3<|vs 72 (bD<|decide ((Aa l:Int)<=(4:Int))) (bD<|decide (Aa l<=4)) (hd:=by simp(disch:=omega) only[e4])<|veT<|zK<|vret (True)<|.inr rfl;refine veT<|vf<|vZ2<|vA<|vrT 3<|vs 72 (bD<|decide ((Aa l:Int)<=(4:Int))) (bD<|decide (Aa l<=4)) (hd:=by simp(disch:=omega) only[e4])<|veT<|zK<|vret (True)<|.inr rfl
theorem ixI_ge(V:List Int)(v:Int):0<=ixI V v↔v∈V:=by
 unfold ixI;split
 ·rename_i h;simp[h]
 rename_i h;simp[h]
set_option maxHeartbeats 4000000 in
theorem covered_c(n:Nat)(fs:List Rn)(hn:n<=1000)(hl:fs.length<=1000)(hs:∀f∈fs,f.V.length<=1000):Pure Ar 30 [iD (n:Nat), .row (fs.flatMap rwD) fs.length] [] (bD (covP n fs)):=by
 refine zH zCf mixed Tryz.func30 rfl<|vAu<|zB<|vAe<|zF<|zQ (λ(v:Nat)=>fr 32 [(0,iD (n:Int)),(1,Ad (Ae rwD fs)<|Aa fs),(5,iD (v:Int))]) (λ(v:Nat)=>[]) (λv=>n-v) (λ(v:Nat)=>v<=n/\∀j,j<v->(fs.any λf=>decide ((j:Int)∈f.V))=Ab) 0 ?_ ?_ ?_
 ·exact⟨by omega,λj h=>by omega⟩
 ·refine vk 0
 rintro v ⟨h1,h2⟩;rcases Aw v n with h3|h3
 ·refine zB<|vAu<|vT ((v:Int)<(n:Int))<|vKB<|vAe<|zB<|vAe<|zF<|zQ (λ(i:Nat)=>fr 32 [(0,iD (n:Int)),(1,Ad (Ae rwD fs)<|Aa fs),(5,iD (v:Int)),(6,bD (List.any (Al i fs) λ(f:Rn)=>decide ((v:Int)∈Rn.V f))),(7,iD (i:Int))]) (λ(i:Nat)=>[]) (λi=>fs.length-i) (λ(i:Nat)=>i<=fs.length) 0 ?_ ?_ ?_
  ·omega
  ·refine vk 0
  rintro i k1;rcases Aw i fs.length with k2|k2
  ·have hm:=zAx fs Ah i k2;have hg2:=fl_at zDv fs i k2;have hle:=zB5 zDv fs i k2;have hne:=zCb zDv (by decide) fs;have hsf:=hs _ hm;have htk:((fs.take (i+1)).any λf=>decide ((v:Int)∈f.V))=(((fs.take i).any λf=>decide ((v:Int)∈f.V))||decide ((v:Int)∈(fs.getD i Ah).V)):=by
    rw[zBl fs i k2,List.any_append];simp
   generalize fs.getD i Ah=f at*;obtain⟨V,R,W⟩:=f;have hix:=rindex_c V _ v rfl (by simp only at hsf;omega);have hge:=ixI_ge V v;generalize ixI V v=x at*;generalize (fs.take i).any (λf=>decide ((v:Int)∈f.V))=b at*;focus
    refine zB<|vAu<|vT ((i:Int)<↑(Aa fs))<|vKB<|zA rfl<|vrT 2<|vsp 20 (b) (λhc=>?_)<|λhc=>?_;subst hc;refine vrT 10<|vnil<|zD<|vN<|zA rfl<|vr 3 (i6 (↑i+1))<|vnil<|zC ?_;rotate_left;subst hc;refine vr 3 (ix ↑i ↑(Aa fs) (Ae rwD fs≠[]))<|vs 23 (AD<|Ag (As (i:Int)*3)<|Ae rwD fs) (AD (Ad (Af iD V) (Aa V)::Ad (Af rowV R) (Aa R)::Ad (Af iD<|natI W) (Aa<|natI W)::Ae rwD (Ag (i+1) fs))) (hd:=by simp(disch:=omega) only[Az,A3,A4,hg2])<|vr 3 (True/\0<Aa (Ad (Af iD V) (Aa V)::Ad (Af rowV R) (Aa R)::Ad (Af iD<|natI W) (Aa<|natI W)::Ae rwD (Ag (i+1) fs)))<|vc hix<|vrT 3<|vnil<|zD<|vN<|zA rfl<|vr 3 (i6 (↑i+1))<|vnil<|zC ?_;rotate_left
   ·refine⟨i+1,by omega,by omega,?_⟩;rw[htk,Bool.true_or];refine vk 0
   have hge2:decide ((v:Int)∈V)=decide (x>=0):=decide_eq_decide.2 hge.symm;refine⟨i+1,by omega,by omega,?_⟩;rw[htk,Bool.false_or,hge2];refine vk 0
  rw [AK k2];focus
   refine zB<|vAu<|vF ((i:Int)<↑(Aa fs))<|vZ2<|vAe<|zAa (t:=!List.any fs λ(f:Rn)=>decide ((v:Int)∈Rn.V f)) (by kernel_rfl) (λhc=>?_)<|λhc=>?_;simp only[BD]at hc;refine vAe<|zK<|zL<|zG<|zG<|zL<|zG<|vre (True) (Aq<|B1 Ac) (.inr rfl) ?_;rotate_left;simp only[BN]at hc;refine zJ<|zD<|vN<|zA rfl<|vr 3 (i6 (↑v+1))<|vnil<|zC ?_;rotate_left
  ·rw[show covP n fs=Ac from zYj h3 (by simpa using hc)]
  refine⟨v+1,⟨by omega,λj hj=>?_⟩,by omega,?_⟩
  ·rcases Aw j v with h|h
   ·exact h2 j h
   obtain rfl:j=v:=by omega
   simpa using hc
  refine vk 0
 refine zB<|vAu<|vF ((v:Int)<(n:Int))<|vZ2<|vAe<|zK<|vre (True) (Aq<|B1 Ab) (.inr rfl) ?_;rw[show covP n fs=Ab from zFf λj hj=>h2 j (by omega)]
set_option maxHeartbeats 4000000 in
theorem wrong_c(n keep:Nat)(fs:List Rn)(hn:n<=8)(hk:keep<4294967296)(hl:fs.length<=1000)(hs:∀f∈fs,Rsz f):Pure Ar 8 [iD (n:Nat),u32D keep, .row (fs.flatMap rwD) fs.length] [] (iD (zDi n keep fs)):=by
 have w1:=zDt keep (v:=n) (by omega);have w2:=zN3 (n:=n) (by omega);have ewr:zDi n keep fs=if keep>>>n≠0 then 3 else if errL n fs≠0 then errL n fs else if covP n fs then 0 else 22:=by
  unfold zDi;rw[Az];by_cases h:keep>>>n≠0
  ·rw[if_pos (.inr (.inr h)),if_pos h]
  rw[if_neg (by intro k;rcases k with k|k|k<;>first|omega|exact h k),if_neg h]
 generalize keep>>>n=kk at*;have hcov:=covered_c n fs (by omega) hl λf hf=>(hs f hf).v;refine zH zCf mixed Tryz.func8 rfl ?_;focus
  refine vAu<|zB<|vA<|vw 14 [] [(2,Ac),(6,Ac),(9,Ab)] (decide ((n:Int)<0)=Ac/\decide ((n:Int)>(32:Int))=Ac/\decide ((n:Int)<(32:Int))=Ab/\u6 (n:Int)/\(0:Int)<=(n:Int))<|vs 22 (Aq<|Ax Av<|Bu (keep:Int) ((2:Int)^min (As (n:Int)) 32)) (dig kk) (hd:=by simp(disch:=omega) only[Az,w1])<|veT<|zAa (t:=(kk:Int)!=(0:Int)) (by kernel_rfl) (λhc=>?_)<|λhc=>?_;simp only[bne_iff_ne]at hc;refine vAe<|zK<|zG<|vre (True) (Aq<|Ax AY 3) (.inr rfl) ?_;rotate_left;simp only[bne_eq_false_iff_eq]at hc;refine vK<|zB<|vAe<|zF ?_;rotate_left
 ·rw[ewr,if_pos (by omega)]
 refine zQ (λ(i:Nat)=>fr 45 [(0,iD n),(2,Ad (Ae rwD fs)<|Aa fs),(7,iD i)]) (λ(i:Nat)=>[]) (λi=>fs.length-i) (λ(i:Nat)=>i<=fs.length/\∀j,j<i->chkR n (fs.getD j Ah)=0) 0 ?_ ?_ ?_
 ·exact⟨by omega,λj h=>by omega⟩
 ·refine vk 0
 rintro i ⟨h1,h2⟩;rcases Aw i fs.length with h3|h3
 ·have hm:=zAx fs Ah i h3;have hg2:=zA9 zDv fs i h3;have hle:=zB5 zDv fs i h3;have hne:=zCb zDv (by decide) fs;have hsz:=hs _ hm;have hat:=zMe h2 h3;generalize hff:fs.getD i Ah=f at*;obtain⟨V,R,W⟩:=f;have hch:=rcheck_c n V R (natI W) (by have:=hsz.v;simp only at this;omega) (by have:=hsz.r;simp only at this;omega);rw[AR]at hch;by_cases e0:chk n V R W.length=0
  ·rw[e0]at hch;refine zB<|vAu<|vT ((i:Int)<↑(Aa fs))<|vKB<|vA<|vr 5 (ix ↑i ↑(Aa fs) (Ae rwD fs≠[])/\3<=Aa (Ag (i*3)<|Ae rwD fs))<|vs 36 (Ak<|Al 3<|Ag (i*3)<|Ae rwD fs) (Ak<|rwD<|Rn.mk V R W) (hd:=by simp(disch:=omega) only[hg2])<|vc hch<|veT<|vAe<|vf<|zJ<|zD<|vN<|zA rfl<|vr 3 (i6 (↑i+1))<|vnil<|zC<|⟨i+1,⟨by omega,λj hj=>?_⟩,by omega,?_⟩
   ·rcases Aw j i with h|h
    ·exact h2 j h
    obtain rfl:j=i:=by omega
    rw[hff];exact e0
   refine vk 0
  have hat2:errL n fs=chk n V R W.length:=hat e0;generalize chk n V R W.length=e at*;refine zB<|vAu<|vT ((i:Int)<↑(Aa fs))<|vKB<|vA<|vr 5 (ix ↑i ↑(Aa fs) (Ae rwD fs≠[])/\3<=Aa (Ag (i*3)<|Ae rwD fs))<|vs 36 (Ak<|Al 3<|Ag (i*3)<|Ae rwD fs) (Ak<|rwD<|Rn.mk V R W) (hd:=by simp(disch:=omega) only[hg2])<|vc hch<|veT<|vAe<|zD2 (t:=e !=(0:Int)) (by kernel_rfl) (by simpa using by omega)<|vAe<|zK<|zL<|zG<|zG<|zL<|zG<|vre (True) (Aq<|Ax AY e) (.inr rfl) ?_;rw[ewr,if_neg (by omega),if_pos (by omega),hat2]
 have h0:=zRt λj hj=>h2 j (by omega);generalize covP n fs=cv at*;focus
  refine zB<|vAu<|vF ((i:Int)<↑(Aa fs))<|vZ2<|zB<|vA<|vrT 2<|vc hcov<|veT<|zAa (t:=!cv) (by kernel_rfl) (λhc=>?_)<|λhc=>?_;simp only[BD]at hc;refine vAe<|zK<|zG<|vre (True) (Aq<|Ax AY 22) (.inr rfl) ?_;rotate_left;simp only[BN]at hc;refine vK<|vAe<|zK<|vre (True) (q2_) (.inr rfl) ?_;rotate_left
 ·rw[ewr,if_neg (by omega),if_neg (by omega),if_neg (by simpa using hc)]
 rw[ewr,if_neg (by omega),if_neg (by omega),if_pos (by simpa using hc)]
end
def ddp:List Va->List Va
 |[]=>[]
 |a::l=>if a∈ddp l then ddp l else a::ddp l
theorem zMj:∀{l:List Va}{a:Va},a∈ddp l↔a∈l
 |[],a=>by simp[ddp]
 | b::l,a=>by
  rw[ddp];split
  ·rename_i h;rw[zMj,Bo];constructor
   ·exact .inr
   rintro(rfl|h2)
   ·exact zMj.1 h
   exact h2
  rw[Bo,Bo,zMj]
theorem zCy:∀l:List Va,(ddp l).Nodup
 |[]=>by simp[ddp]
 |b::l=>by
  rw[ddp];split
  ·exact zCy l
  rename_i h;exact List.nodup_cons.2 ⟨h,zCy l⟩
def domP(fs:List Rn):List Va:=ddp (fs.flatMap λf=>f.R.flatten)
theorem domP_mem{fs:List Rn}{f:Rn}(hf:f∈fs){x:Rw}(hx:x∈f.R){a:Va}(ha:a∈x):a∈domP fs:=
 zMj.2 (List.mem_flatMap.2 ⟨f,hf,List.mem_flatten.2 ⟨x,hx,ha⟩⟩)
theorem domP_ok{fs:List Rn}(hv:∀f∈fs,∀x∈f.R,∀a∈x,Vi a)(hk:∀f∈fs,∀x∈f.R,x.all vok=Ab):Okv (domP fs):=λa ha=>by
 obtain⟨f,hf,h1⟩:=List.mem_flatMap.1 (zMj.1 ha);obtain⟨x,hx,h2⟩:=List.mem_flatten.1 h1;have h3:=hv f hf x hx a h2;have h4:=Bb.1 (hk f hf x hx) a h2;refine⟨h4,?_⟩;obtain⟨k1,k2,k3⟩:=h3;simp only[inK]at k1 k2;refine⟨⟨k1.1,k1.2⟩,⟨k2.1,k2.2⟩,?_⟩;unfold vok at h4;split at h4
 ·have:a.str=[]:=by simpa using h4
  rw[this];simp
 split at h4
 ·simp only[Bn,decide_eq_true_eq]at h4;omega
 cases h4
def toFa(f:Rn):Fa Nat:=⟨f.V.map As,f.R.zip f.W⟩
theorem zXz(R:List Rw)(W:List Nat)(h:R.length=W.length):(R.zip W).map (·.1)=R:=List.map_fst_zip (by omega)
theorem zXy(R:List Rw)(W:List Nat)(h:R.length=W.length):(R.zip W).map (·.2)=W:=List.map_snd_zip (by omega)
structure Tofa(Dm:List Va)(f:Rn):Prop where
 c:rnC f=faAc (toFa f)
 w:rwD f=rfAc (toFa f)
 ok:FOk rcmp Dm (toFa f)
 r:rz (toFa f)<=11
 v:vz (toFa f)<=10001
 A:f.V=intL (toFa f).A
theorem zW2{l:List Nat}{b:Nat}(h:∀w∈l,w<=b):l.sum<=l.length*b:=by
 induction l with
 |nil=>simp
 |cons a l ih=>
  have h1:=h a (BF ..);have h2:=ih λw hw=>h w (Bq _ hw);rw[List.sum_cons,A8,Nat.succ_mul];omega
theorem tofa{n:Int}{Dm:List Va}{f:Rn}(hn:n<=32)(h:chkR n f=0)(hs:Rsm f)(hd:∀x∈f.R,∀a∈x,a∈Dm):Tofa Dm f:=by
 obtain⟨V,R,W⟩:=f;obtain⟨A,hA,hfit⟩:=zC9 h;have hA:V=intL A:=hA;subst hA;have eA:((intL A).map λz=>iD z)=nsD A:=by simp[intL]
 have hm:R.length=W.length:=hfit.m;have z1:=zXz R W hm;have z2:=zXy R W hm;have zl:(R.zip W).length=R.length:=by rw[<-z1,AR,z1]
 have tA:(intL A).map As=A:=zCa A;have et:toFa ⟨intL A,R,W⟩=⟨A,R.zip W⟩:=by unfold toFa;simp only[tA]
 have hR:R.length<=10:=hs.r;refine⟨?_,?_,?_,?_,?_,?_⟩
 ·rw[et];show[Ad ((intL A).map λz=>iD z) (intL A).length, .row (R.map rowV) R.length, .row (W.map natD) W.length]=[.row (nsD A) A.length, .row (((R.zip W).map (·.1)).map rowV) (R.zip W).length, .row (((R.zip W).map (·.2)).map natD) (R.zip W).length];rw[eA,z1,z2,zl,AR,hm]
 ·rw[et];show[Ad ((intL A).map λz=>iD z) (intL A).length, .row (R.map rowV) R.length, .row ((natI W).map λz=>iD z) (natI W).length]=[.row (nsD A) A.length, .row (((R.zip W).map (·.1)).map rowV) (R.zip W).length, .row (nsD ((R.zip W).map (·.2))) (R.zip W).length];rw[eA,zJp,z1,z2,zl,AR,AR,hm]
 ·rw[et];have hmem:∀p∈R.zip W,p.1∈R:=λp hp=>by rw[<-z1];exact AE.2 ⟨p,hp,rfl⟩
  refine⟨⟨hfit.asc,λv hv=>by have:=hfit.lt v hv;omega⟩,λp hp=>hfit.len p.1 (hmem p hp),?_,λp hp a ha=>hd p.1 (hmem p hp) a ha⟩
  have:=hfit.srt
  rw[<-z1]at this;exact List.pairwise_map.1 this
 ·rw[et];unfold rz;simp only[zl];omega
 ·rw[et];unfold vz;simp only[z2];have h1:=zW2 (l:=W) (b:=1000) hs.b;omega
 rw[et]
theorem zGg{n:Int}{fs:List Rn}(hn:n<=32)(h:errL n fs=0)(hs:∀f∈fs,Rsm f):∀f∈fs,Tofa (domP fs) f:=λf hf=>
 tofa hn (zD6 h f hf) (hs f hf) λx hx a ha=>domP_mem hf hx ha
theorem zK4{n:Int}{fs:List Rn}(h:errL n fs=0)(hv:∀f∈fs,∀x∈f.R,∀a∈x,Vi a):Okv (domP fs):=
 domP_ok hv λf hf x hx=>by
  obtain⟨A,hA,hfit⟩:=zC9 (zD6 h f hf);exact hfit.vok x hx
theorem zZ9{Dm:List Va}:∀{fs:List Rn},(∀f∈fs,Tofa Dm f)->fs.flatMap rnC=(fs.map toFa).flatMap faAc/\fs.flatMap rwD=(fs.map toFa).flatMap rfAc
 |[],_=>⟨rfl,rfl⟩
 |f::fs,h=>by
  obtain⟨h1,h2⟩:=zZ9 λg hg=>h g (Bq _ hg);have h3:=h f (BF ..);constructor
  ·rw[BV,h1,h3.c];rfl
  rw[BV,h2,h3.w];rfl
theorem zSu{α:Type}{z:α->Nat}{b:Nat}:∀{l:List α},(∀a∈l,z a<=b)->pz z l<=b^l.length
 |[],_=>by simp[pz]
 |a::l,h=>by
  rw[zBj,A8,Nat.pow_succ,Nat.mul_comm];exact Nat.mul_le_mul (zSu λc hc=>h c (Bq _ hc)) (h a (BF ..))
theorem sizes{Dm:List Va}{fs:List Rn}(hl:fs.length<=4)(h:∀f∈fs,Tofa Dm f):2*pz rz (fs.map toFa)<=900000/\2*pz vz (fs.map toFa)<=4000000000000000000:=by
 have h1:=zSu (z:=rz) (b:=11) (l:=fs.map toFa) λa ha=>by
  obtain⟨f,hf,rfl⟩:=AE.1 ha;exact(h f hf).r
 have h2:=zSu (z:=vz) (b:=10001) (l:=fs.map toFa) λa ha=>by
  obtain⟨f,hf,rfl⟩:=AE.1 ha;exact(h f hf).v
 rw[AR]at h1 h2;have h3:11^fs.length<=11^4:=Ba (by omega) hl;have h4:10001^fs.length<=10001^4:=Ba (by omega) hl;have e1:11^4=14641:=by decide
 have e2:10001^4=10004000600040001:=by decide
 omega
theorem zWk{Dm:List Va}{n:Nat}{fs:List Rn}(hc:covP n fs=Ab)(h:∀f∈fs,Tofa Dm f):∀v,v<n->∃f∈fs.map toFa,v∈f.A:=λv hv=>by
 unfold covP at hc;rw[Bb]at hc
 have:=hc v (by simpa using hv)
 rw[BR]at this;obtain⟨f,h1,h2⟩:=this;refine⟨toFa f,AE.2 ⟨f,h1,rfl⟩,?_⟩;rw[(h f h1).A]at h2;exact zGs.1 (by simpa using h2)
section
set_option maxRecDepth 4096
theorem Rsm.z{f:Rn}(h:Rsm f):Rsz f:=⟨by have:=h.v;omega,by have:=h.r;omega⟩
theorem zHp{n keep:Nat}{fs:List Rn}(h:zDi n keep fs=0):n<=32/\keep>>>n=0/\errL n fs=0/\covP n fs=true:=by
 unfold zDi at h;rw[Az]at h;split at h
 ·cases h
 rename_i h1;simp only[not_or,Classical.not_not]at h1;split at h
 ·omega
 rename_i h2;split at h
 ·rename_i h3;exact⟨by omega,h1.2.2,by omega,h3⟩
 cases h
structure Mg(n keep:Nat)(fs:List Rn)(m:Fa Nat):Prop where
 e:m=refS rcmp Sn (refP rcmp Sn (zB6 Sn) (fs.map toFa)) ((AB n).filter λv=>!keep.testBit v)
 ok:FOk rcmp (domP fs) m
 r:rz m<=900000
 v:vz m<=4000000000000000000
 A:∀v,v∈m.A↔v<n/\keep.testBit v=Ab
 p:Pure Ar 26 [cntD,iD (n:Nat),u32D keep, .row (fs.flatMap rnC) fs.length] [] (.tup [faA m,iD 0])
theorem zV7{n keep:Nat}{fs:List Rn}(hn:n<=8)(hk:keep<4294967296)(hl:fs.length<=4)(hs:∀f∈fs,Rsm f)(hv:∀f∈fs,∀x∈f.R,∀a∈x,Vi a)(h0:zDi n keep fs=0):∃m,Mg n keep fs m:=by
 obtain⟨_,_,h1,h2⟩:=zHp h0;have ht:=zGg (by omega) h1 hs;have hD:=zK4 h1 hv;obtain⟨c1,c2⟩:=zZ9 ht;obtain⟨s1,s2⟩:=sizes hl ht;have hcv:=zWk h2 ht;have hok:∀g∈fs.map toFa,FOk rcmp (domP fs) g:=λg hg=>by
  obtain⟨f,hf,rfl⟩:=AE.1 hg;exact(ht f hf).ok
 have hlt:∀g∈fs.map toFa,∀v∈g.A,v<n:=λg hg v hgv=>by
  obtain⟨f,hf,rfl⟩:=AE.1 hg;obtain⟨A,hA,hfit⟩:=zC9 (zD6 h1 f hf);have e:=(ht f hf).A;have:(v:Int)∈f.V:=by rw[e];exact zGs.2 hgv
  rw[hA]at this
  have:=hfit.lt v (zGs.1 this)
  omega
 have hck:=zNw n keep fs hn hk (by omega) λf hf=>(hs f hf).z;rw[h0,c1]at hck;have hln:(fs.map toFa).length=fs.length:=by simp
 have hEn:((AB n).filter λv=>!keep.testBit v).Nodup:=List.nodup_range.filter _;have hEc:∀v∈(AB n).filter (λv=>!keep.testBit v),∃f∈fs.map toFa,v∈f.A:=λv h=>hcv v (by have:=(A2.1 h).1;simpa using this);have hm:=zNi hD (zCy _) n keep (fs.map toFa) hn hk hok (by omega) s1 s2 hcv (by rw[hln];exact hck);have he:=zV6 (pop:=popN) (S:=Sn) rcw (zCy _) hEn (.refl _) hok hEc;have hA:=zZd (pop:=popN) (S:=Sn) rcw (zCy _) hEn hok hEc;rw[hln]at hm;rw[<-c1]at hm;have z1:=zVo (S:=Sn) (z:=rz) (zEt (c:=rcmp) Sn) (fs.map toFa) (zB6 Sn);have z2:=zVo (S:=Sn) (z:=vz) (zMb (c:=rcmp)) (fs.map toFa) (zB6 Sn);have z3:=zVm (S:=Sn) (z:=rz) (zPw (c:=rcmp) Sn) ((AB n).filter λv=>!keep.testBit v) (refP rcmp Sn (zB6 Sn) (fs.map toFa));have z4:=zVm (S:=Sn) (z:=vz) (λv f=>Nat.le_of_eq (zTa (c:=rcmp) v f)) ((AB n).filter λv=>!keep.testBit v) (refP rcmp Sn (zB6 Sn) (fs.map toFa));have h8:rz (zB6 Sn)=2:=rfl;have h9:vz (zB6 Sn)=2:=rfl;rw[h8]at z1;rw[h9]at z2;rw[he]at hm hA;refine⟨_,rfl,?_,by omega,by omega,λv=>?_,hm
  ⟩
 ·exact zSq rcw _ _ (zSr rcw _ _ zF2 hok)
 rw[hA];constructor
 ·rintro⟨⟨f,hf,h3⟩,h4⟩
  have:=hlt f hf v h3
  refine⟨this,?_⟩;simpa[this]using h4
 rintro⟨h3,h4⟩;exact⟨hcv v h3,by simp[h4]⟩
end
section
attribute [local irreducible] seqW awp zAe zAh zAb Weak updS zAs retL Pure Acts rP setP setQ cP nP fr
set_option maxRecDepth 4096
abbrev exV(n:Int):Va:=⟨1,n,[]⟩
theorem zKq(n:Int):Pure Ar 28 [iD n] [] (.agg [iD 1,iD n,strD []]):=by
 refine zH zCf mixed Tryz.func28 rfl<|vAu<|vA<|ve (((1=1/\1<=3/\1=1/\2<=3/\True)/\Ab=Ab)/\Ac=Ac/\Ab=Ab/\3=3/\3<=3)<|zK<|vret (3<=3)<|.inr rfl
abbrev exA(o:Nat):Rn:=⟨[0,1],[[exV 1,exV 1],[exV 1,exV 2]],[o,o]⟩
abbrev exB(o:Nat):Rn:=⟨[1,2],[[exV 1,exV 5],[exV 2,exV 5],[exV 2,exV 6]],[o,o,o]⟩
abbrev exF(o:Nat):List Rn:=[exA o,exB o]
abbrev zM2(a b:Int):D:= .row [iD 1,iD a,strD [],iD 1,iD b,strD []] 2
abbrev exDA:D:= .agg [.row [iD 0,iD 1] 2, .row [zM2 1 1,zM2 1 2] 2, .row [iD 1,iD 1] 2]
abbrev exDB:D:= .agg [.row [iD 1,iD 2] 2, .row [zM2 1 5,zM2 2 5,zM2 2 6] 3, .row [iD 1,iD 1,iD 1] 3]
def Te:Par:=⟨λ_=>Ac,λ_ _=>AH,λ_=>Ac,λ_=>Ac,λt=>t==110⟩
theorem Te_ok:zCe Ar Te:=by intro t n f h;cases h
theorem example_c:Pure Ar 24 [] [] (.tup [exDA,exDB]):=by
 refine zH Te_ok mixed Tryz.func24 rfl<|vAu<|vA<|vr 1 ((1=1/\1<=2/\1=1/\2<=2/\True)/\0<1/\1=1/\2<=16777216/\2<=9223372036854775807)<|vc (zKq 1)<|vc (zKq 1)<|vr 1 ((3=3/\3<=6/\3=3/\6<=6/\True)/\0<3/\3=3/\6<=16777216/\2<=9223372036854775807)<|vc (zKq 1)<|vc (zKq 2)<|ve (((3=3/\3<=6/\3=3/\6<=6/\True)/\0<3/\3=3/\6<=16777216/\2<=9223372036854775807)/\((1=1/\1<=2/\1=1/\2<=2/\True)/\0<1/\1=1/\2<=16777216/\2<=9223372036854775807)/\((1=1/\1<=2/\1=1/\2<=2/\True)/\0<1/\1=1/\2<=16777216/\2<=9223372036854775807)/\((1=1/\1<=3/\1=1/\2<=3/\1=1/\3<=3/\True)/\Ab=Ab)/\Ac=Ac/\Ab=Ab/\3=3/\3<=3)<|zB<|zXt [0,1,2,3,4,5,6,7,8,9,10,11,12,13] [(14,[(1,8),(4,9),(7,10),(10,11),(11,12),(12,13),(13,100000)],[15])] (by kernel_rfl) rfl ?_;refine vr 2 (3<=3/\(1=1/\1<=2/\1=1/\2<=2/\True)/\0<1/\1=1/\2<=16777216/\2<=9223372036854775807)<|vc (zKq 1)<|vc (zKq 5)<|vr 1 ((3=3/\3<=6/\3=3/\6<=6/\True)/\0<3/\3=3/\6<=16777216/\2<=9223372036854775807)<|vc (zKq 2)<|vc (zKq 5)<|vr 1 ((3=3/\3<=6/\3=3/\6<=6/\True)/\0<3/\3=3/\6<=16777216/\2<=9223372036854775807)<|vc (zKq 2)<|vc (zKq 6)<|vr 4 (((3=3/\3<=6/\3=3/\6<=6/\True)/\0<3/\3=3/\6<=16777216/\2<=9223372036854775807)/\((1=1/\1<=3/\1=1/\2<=3/\1=1/\3<=3/\True)/\0<1/\1=1/\3<=16777216/\3<=9223372036854775807)/\((1=1/\1<=3/\1=1/\2<=3/\1=1/\3<=3/\True)/\0<1/\1=1/\3<=16777216/\3<=9223372036854775807)/\(1=1/\1<=3/\1=1/\2<=3/\1=1/\3<=3/\True)/\Ab=Ab)<|vnil<|st_item rfl rfl (by kernel_rfl)<|vr 1 (Ac=Ac/\Ab=Ab/\3=3/\3<=3)<|vnil ?_;refine st_late (C:=((1=1/\1<=2/\1=1/\2<=2/\True)/\0<1/\1=1/\2<=16777216/\2<=9223372036854775807)/\An (Ai 8 0 2 2 Ab)=An (Ai 8 0 2 2 Ab)/\eqDL [iD 1,iD 2] [iD 1,iD 2]/\3=3/\1=1/\Ab=Ab/\Am=Am/\((3=3/\3<=6/\3=3/\6<=6/\True)/\0<3/\3=3/\6<=16777216/\2<=9223372036854775807)/\An (Ai 9 0 2 6 Ab)=An (Ai 9 0 2 6 Ab)/\eqDL [iD 1,iD 1,Aq (AJ (bs [])),iD 1,iD 5,Aq (AJ (bs []))] [iD 1,iD 1,Aq (AJ (bs [])),iD 1,iD 5,Aq (AJ (bs []))]/\107=107/\3=3/\Ab=Ab/\Am=Am/\((3=3/\3<=6/\3=3/\6<=6/\True)/\0<3/\3=3/\6<=16777216/\2<=9223372036854775807)/\An (Ai 10 0 2 6 Ab)=An (Ai 10 0 2 6 Ab)/\eqDL [iD 1,iD 2,Aq (AJ (bs [])),iD 1,iD 5,Aq (AJ (bs []))] [iD 1,iD 2,Aq (AJ (bs [])),iD 1,iD 5,Aq (AJ (bs []))]/\107=107/\3=3/\Ab=Ab/\Am=Am/\((3=3/\3<=6/\3=3/\6<=6/\True)/\0<3/\3=3/\6<=16777216/\2<=9223372036854775807)/\An (Ai 11 0 2 6 Ab)=An (Ai 11 0 2 6 Ab)/\eqDL [iD 1,iD 2,Aq (AJ (bs [])),iD 1,iD 6,Aq (AJ (bs []))] [iD 1,iD 2,Aq (AJ (bs [])),iD 1,iD 6,Aq (AJ (bs []))]/\107=107/\3=3/\Ab=Ab/\Am=Am/\((1=1/\1<=3/\1=1/\2<=3/\1=1/\3<=3/\True)/\0<1/\1=1/\3<=16777216/\3<=9223372036854775807)/\An (Ai 12 0 3 3 Ab)=An (Ai 12 0 3 3 Ab)/\eqDL [Ai 9 0 2 6 Ab,Ai 10 0 2 6 Ab,Ai 11 0 2 6 Ab] [Ai 9 0 2 6 Ab,Ai 10 0 2 6 Ab,Ai 11 0 2 6 Ab]/\110=110/\1=1/\Ab=Ab/\Kd.sh=Kd.sh/\((1=1/\1<=3/\1=1/\2<=3/\1=1/\3<=3/\True)/\0<1/\1=1/\3<=16777216/\3<=9223372036854775807)/\An (Ai 13 0 3 3 Ab)=An (Ai 13 0 3 3 Ab)/\eqDL [iD 1,iD 1,iD 1] [iD 1,iD 1,iD 1]/\3=3/\1=1/\Ab=Ab/\Am=Am/\((1=1/\1<=3/\1=1/\2<=3/\1=1/\3<=3/\True)/\Ab=Ab)/\An (Ak [Ai 8 0 2 2 Ab,Ai 12 0 3 3 Ab,Ai 13 0 3 3 Ab])=An (Ak [Ai 8 0 2 2 Ab,Ai 12 0 3 3 Ab,Ai 13 0 3 3 Ab])) (by kernel_rfl) ⟨⟨⟨(by kernel_rfl),⟨(by omega),⟨(by kernel_rfl),⟨(by omega),trivial⟩⟩⟩⟩,(by omega)⟩,(by kernel_rfl),rfl,(by kernel_rfl),(by kernel_rfl),(by kernel_rfl),(by kernel_rfl),⟨⟨(by kernel_rfl),⟨(by omega),⟨(by kernel_rfl),⟨(by omega),trivial⟩⟩⟩⟩,(by omega)⟩,(by kernel_rfl),rfl,(by kernel_rfl),(by kernel_rfl),(by kernel_rfl),(by kernel_rfl),⟨⟨(by kernel_rfl),⟨(by omega),⟨(by kernel_rfl),⟨(by omega),trivial⟩⟩⟩⟩,(by omega)⟩,(by kernel_rfl),rfl,(by kernel_rfl),(by kernel_rfl),(by kernel_rfl),(by kernel_rfl),⟨⟨(by kernel_rfl),⟨(by omega),⟨(by kernel_rfl),⟨(by omega),trivial⟩⟩⟩⟩,(by omega)⟩,(by kernel_rfl),rfl,(by kernel_rfl),(by kernel_rfl),(by kernel_rfl),(by kernel_rfl),⟨⟨(by kernel_rfl),⟨(by omega),⟨(by kernel_rfl),⟨(by omega),⟨(by kernel_rfl),⟨(by omega),trivial⟩⟩⟩⟩⟩⟩,(by omega)⟩,(by kernel_rfl),rfl,(by kernel_rfl),(by kernel_rfl),(by kernel_rfl),(by kernel_rfl),⟨⟨(by kernel_rfl),⟨(by omega),⟨(by kernel_rfl),⟨(by omega),⟨(by kernel_rfl),⟨(by omega),trivial⟩⟩⟩⟩⟩⟩,(by omega)⟩,(by kernel_rfl),rfl,(by kernel_rfl),(by kernel_rfl),(by kernel_rfl),(by kernel_rfl),⟨⟨(by kernel_rfl),⟨(by omega),⟨(by kernel_rfl),⟨(by omega),⟨(by kernel_rfl),⟨(by omega),trivial⟩⟩⟩⟩⟩⟩,(by kernel_rfl)⟩,(by kernel_rfl)⟩ (by kernel_rfl) ?_;refine vr 1 (Ac=Ac/\Ab=Ab/\3=3/\3<=3)<|vnil<|seqI_nil<|vN<|zK<|vret (3<=3/\3<=3)<|.inr rfl
abbrev exCA(o:Nat):List D:=[.row [iD 0,iD 1] 2, .row [zM2 1 1,zM2 1 2] 2, .row [natD o,natD o] 2]
abbrev exCB(o:Nat):List D:=[.row [iD 1,iD 2] 2, .row [zM2 1 5,zM2 2 5,zM2 2 6] 3, .row [natD o,natD o,natD o] 3]
theorem cntA_c(o:Nat)(ho:o=1):Pure Ar 25 [exDA] [] (.agg (exCA o)):=by
 have h:=zTt (exA o) (by simp) (by simp[ho]);have e:rawD (rnR (exA o))=exDA:=by subst ho;rfl
 rw[e]at h;exact h
theorem cntB_c(o:Nat)(ho:o=1):Pure Ar 25 [exDB] [] (.agg (exCB o)):=by
 have h:=zTt (exB o) (by simp) (by simp[ho]);have e:rawD (rnR (exB o))=exDB:=by subst ho;rfl
 rw[e]at h;exact h
theorem exF_s(o:Nat)(ho:o=1):∀f∈exF o,Rsm f:=by
 subst ho;intro f hf;rcases Bo.1 hf with rfl|hf
 ·exact⟨by decide,by decide,by decide,by decide⟩
 rcases Bo.1 hf with rfl|hf
 ·exact⟨by decide,by decide,by decide,by decide⟩
 cases hf
theorem exF_v(o:Nat)(ho:o=1):∀f∈exF o,∀x∈f.R,∀a∈x,Vi a:=by
 have hv:∀n:Int,inK .i64 n->Vi (exV n):=λn hn=>⟨by simp[inK],hn,by simp⟩;intro f hf x hx a ha;have:a=exV 1\/a=exV 2\/a=exV 5\/a=exV 6:=by
  simp only[exF,Bo,BW,or_false]at hf;rcases hf with rfl|rfl
  ·simp only[Bo,BW,or_false]at hx;rcases hx with rfl|rfl<;>simp only[Bo,BW,or_false]at ha<;>rcases ha with rfl|rfl<;>simp
  simp only[Bo,BW,or_false]at hx;rcases hx with rfl|rfl|rfl<;>simp only[Bo,BW,or_false]at ha<;>rcases ha with rfl|rfl<;>simp
 rcases this with rfl|rfl|rfl|rfl<;>exact hv _ (by simp[inK])
theorem exM(o t:Nat)(ho:o=1)(ht:t=2):Pure Ar 26 [cntD,iD 3,u32D 4, .row (exCA o++exCB o) 2] [] (.tup [.agg [.row [iD 2] 1, .row [.row [iD 1,iD 5,strD []] 1, .row [iD 1,iD 6,strD []] 1] 2, .row [natD t,natD o] 2],iD 0]):=by
 obtain⟨m,h⟩:=zV7 (n:=3) (keep:=4) (fs:=exF o) (by decide) (by decide) (by simp) (exF_s o ho) (exF_v o ho) (by subst ho;kernel_rfl);have e:m=⟨[2],[([exV 5],t),([exV 6],o)]⟩:=by rw[h.e];subst ho ht;kernel_rfl
 have hp:=h.p;rw[e]at hp;exact hp
theorem exM0(o t:Nat)(ho:o=1)(ht:t=3):Pure Ar 26 [cntD,iD 3,u32D 0, .row (exCA o++exCB o) 2] [] (.tup [faA ⟨[],[([],t)]⟩,iD 0]):=by
 obtain⟨m,h⟩:=zV7 (n:=3) (keep:=0) (fs:=exF o) (by decide) (by decide) (by simp) (exF_s o ho) (exF_v o ho) (by subst ho;kernel_rfl);have e:m=⟨[],[([],t)]⟩:=by rw[h.e];subst ho ht;kernel_rfl
 have hp:=h.p;rw[e]at hp;exact hp
theorem exT(o t:Nat)(ho:o=1)(ht:t=3):Pure Ar 11 [cntD,iD 3, .row (exCA o++exCB o) 2] [] (.tup [natD t,iD 0]):=zX5 _ _ _ _ (exM0 o t ho ht)
theorem exS(o t:Nat)(ho:o=1)(ht:t=2):Pure Ar 27 [.agg [.row [iD 2] 1, .row [.row [iD 1,iD 5,strD []] 1, .row [iD 1,iD 6,strD []] 1] 2, .row [natD t,natD o] 2], .agg [.row [iD 2] 1, .row [.row [iD 1,iD 5,strD []] 1, .row [iD 1,iD 6,strD []] 1] 2, .row [iD 2,iD 1] 2]] [] (bD Ab):=by
 have h:=same_c [2] [([exV 5],t),([exV 6],o)] (by simp) (by simp) (by simp) (by subst ho ht;decide);have e:isD [([exV 5],t),([exV 6],o)]=[iD 2,iD 1]:=by subst ho ht;rfl
 unfold rfD rfC at h;rw[e]at h;exact h
set_option maxHeartbeats 4000000 in
theorem zMr:Pure Ar 6 [] [] (bD Ab):=by
 obtain⟨o,ho⟩:∃o:Nat,o=1:=⟨1,rfl⟩;obtain⟨t,ht⟩:∃o:Nat,o=2:=⟨2,rfl⟩;obtain⟨u,hu⟩:∃o:Nat,o=3:=⟨3,rfl⟩;have hof:=of_c u (by omega);have e3:Aq (.int .u64 (u:Int))= .val (.int .u64 3):=by rw[hu];rfl
 rw[e3]at hof;have hcm:=zRj u u (Sm.of (by omega)) (Sm.of (by omega));have e0:cmpD (u:Int) (u:Int)=0:=by rcases zCj (u:Int) u with h|h|h<;>omega
 rw[e0]at hcm;have h1:=cntA_c o ho;have h2:=cntB_c o ho;have h3:=exM o t ho ht;have h4:=exT o u ho hu;have h5:=exS o t ho ht;refine zH zCf mixed Tryz.func6 rfl<|vAu<|vA<|vc (example_c)<|ve (0<2/\1<2/\(Ac=Ac/\Ab=Ab/\3=3/\3<=3)/\Ac=Ac/\Ab=Ab/\3=3/\3<=3)<|zB<|vd [0,1,2,3,4,5,6,7,8,9,10,11,12]<|vr 3 ((True/\Ab=Ab)/\3<=3)<|vc (h1)<|vr 1 (3<=3)<|vc (h2)<|vr 1 ((3=3/\3<=6/\3=3/\6<=6/\True)/\0<3/\3=3/\6<=16777216/\2<=9223372036854775807)<|vc (h4)<|ve (0<2/\1<2)<|zB<|vd [0,1,2,3,4,5,6,7,8,9,10,11,12,13]<|vr 3 ((True/\Ab=Ab)/\3<=3)<|vc (h1)<|vr 1 (3<=3)<|vc (h2)<|vr 1 ((3=3/\3<=6/\3=3/\6<=6/\True)/\0<3/\3=3/\6<=16777216/\2<=9223372036854775807)<|vc (h3)<|ve (0<2/\1<2/\Ac=Ac/\Ab=Ab/\3=3/\3<=3)<|zB<|vd [0,1,2,3,4,5,6,7,8,9,10,11,12,13,14,15,16,17,18,19,20,21,22,23,24]<|vr 8 (True/\True)<|vc (hof)<|vc (hcm)<|vr 5 (True/\3<=3/\(1=1/\1<=1/\True)/\0<1/\1=1/\1<=16777216/\1<=9223372036854775807)<|vc (zKq 5)<|vr 1 ((3=3/\3<=3/\True)/\0<3/\3=3/\3<=16777216/\1<=9223372036854775807)<|vc (zKq 6)<|vr 4 (((3=3/\3<=3/\True)/\0<3/\3=3/\3<=16777216/\1<=9223372036854775807)/\((1=1/\1<=2/\1=1/\2<=2/\True)/\0<1/\1=1/\2<=16777216/\2<=9223372036854775807)/\((1=1/\1<=2/\1=1/\2<=2/\True)/\0<1/\1=1/\2<=16777216/\2<=9223372036854775807)/\(1=1/\1<=3/\1=1/\2<=3/\1=1/\3<=3/\True)/\Ab=Ab)<|vc (h5)<|veT<|zK<|vret (True)<|.inr rfl
end
section
set_option maxRecDepth 4096
section
variable {α β γ : Type} (g : α → β)
theorem mp_mp(h:β->γ)(f:Fa α):(f.mp g).mp h=f.mp λx=>h (g x):=by
 unfold AX mpL;rw[Bf];rfl
theorem mp_id(f:Fa α):f.mp (λx=>x)=f:=by
 obtain⟨A,l⟩:=f;unfold AX mpL;show Fa.mk A (l.map λp=>(p.1,p.2))=_;rw[show(λp:Rw×α=>(p.1,p.2))=id from rfl,B0]
theorem mp_ok{c:Rw->Rw->Int}{Dm:List Va}{f:Fa α}(h:FOk c Dm f):FOk c Dm (f.mp g):=
 ⟨h.asc,λp hp=>by obtain⟨q,hq,rfl⟩:=AE.1 hp;exact h.len q hq,List.pairwise_map.2 h.srt,λp hp=>by obtain⟨q,hq,rfl⟩:=AE.1 hp;exact h.dom q hq⟩
theorem mp_rz(f:Fa α):rz (f.mp g)=rz f:=by
 unfold rz AX mpL;rw[AR]
end
theorem rn_len{n:Int}{f:Rn}(h:chkR n f=0):f.R.length=f.W.length:=by
 obtain⟨A,hA,hfit⟩:=zC9 h;exact hfit.m
theorem zWp{Dm:List Va}{f:Rn}(h:Tofa Dm f)(hl:f.R.length=f.W.length){β:Type}(g:Nat->β)(V:β->List D):[Ad (f.V.map λz=>iD z) f.V.length, .row (f.R.map rowV) f.R.length, .row (f.W.flatMap λx=>V (g x)) f.W.length]=[.row (nsD ((toFa f).mp g).A) ((toFa f).mp g).A.length, .row ((((toFa f).mp g).l.map (·.1)).map rowV) ((toFa f).mp g).l.length, .row ((((toFa f).mp g).l.map (·.2)).flatMap V) ((toFa f).mp g).l.length]:=by
 have hc:=h.c;have h1:Ad (f.V.map λz=>iD z) f.V.length= .row (nsD (toFa f).A) (toFa f).A.length:=(List.cons.inj hc).1;have e1:(((toFa f).mp g).l.map (·.1))=f.R:=by
  show Af _ (Af _ (f.R.zip f.W))=_;rw[Bf];exact zXz f.R f.W hl
 have e2:(((toFa f).mp g).l.map (·.2))=f.W.map g:=by
  show Af _ (Af _ (f.R.zip f.W))=_;conv=>rhs;rw[<-zXy f.R f.W hl]
  rw[Bf,Bf];rfl
 have e3:((toFa f).mp g).l.length=f.W.length:=by rw[<-AR (f:=λp:Rw×β=>p.2),e2,AR]
 rw[e1,e2,e3,Ce,hl,h1];rfl
@[irreducible] def Mz:Nat:=1000
theorem Mz_eq:Mz=1000:=by unfold Mz;rfl
theorem mp_kz{f:Fa Nat}{e:Nat}(h:∀p∈f.l,p.2<=e):kz (f.mp An)<=2^e:=by
 refine Ba (by omega) (zSl.2 λp hp=>?_);obtain⟨q,hq,rfl⟩:=AE.1 hp;exact h q hq
theorem flatK{Dm:List Va}:∀{fs:List Rn},(∀f∈fs,Tofa Dm f/\f.R.length=f.W.length)->fs.flatMap rnCK=((fs.map toFa).map (AX An)).flatMap zAd
 |[],_=>rfl
 |f::fs,h=>by
  obtain⟨h1,h2⟩:=h f (BF ..);have e:rnCK f=zAd ((toFa f).mp An):=zWp h1 h2 An ckD;rw[BV,flatK λg hg=>h g (Bq _ hg),e];rfl
theorem flatP{Dm:List Va}:∀{fs:List Rn},(∀f∈fs,Tofa Dm f/\f.R.length=f.W.length)->fs.flatMap rnCP=((fs.map toFa).map (AX (λx=>(x,An x)))).flatMap zAc
 |[],_=>rfl
 |f::fs,h=>by
  obtain⟨h1,h2⟩:=h f (BF ..);have e:rnCP f=zAc ((toFa f).mp (λx=>(x,An x))):=zWp h1 h2 (λx=>(x,An x)) cpD;rw[BV,flatP λg hg=>h g (Bq _ hg),e];rfl
theorem b10001:10001<=2^14:=by decide
theorem zVd{fs:List Rn}(hs:∀f∈fs,Rsm f):∀f∈fs,∀p∈(toFa f).l,p.2<=Mz:=λf hf p hp=>by
 rw[Mz_eq];exact(hs f hf).b _ (List.of_mem_zip hp).2
section
variable {n : Nat} {fs : List Rn} (hn : n ≤ 8) (hl : fs.length ≤ 4) (hs : ∀ f ∈ fs, Rsm f) (hv : ∀ f ∈ fs, ∀ x ∈ f.R, ∀ a ∈ x, Vi a) (h0 : zDi n 0 fs = 0)
include hn hl hs hv h0
theorem totK:Pure Ar 13 [trpD,iD (n:Nat), .row (fs.flatMap rnCK) fs.length] [] (.tup [.agg (ckD (((zDx popN rcmp Sk ((fs.map toFa).map (AX An)) ((AB n).filter λv=>!(0:Nat).testBit v)).l.map (·.2)).headD AH)),iD 0]):=by
 obtain⟨_,_,h1,h2⟩:=zHp h0;have ht:=zGg (by omega) h1 hs;have hD:=zK4 h1 hv;have hmm:∀f∈fs,Tofa (domP fs) f/\f.R.length=f.W.length:=λf hf=>⟨ht f hf,rn_len (zD6 h1 f hf)⟩;have hcv:=zWk h2 ht;have hok:∀g∈(fs.map toFa).map (AX An),FOk rcmp (domP fs) g:=λg hg=>by
  obtain⟨b,hb,rfl⟩:=AE.1 hg;obtain⟨f,hf,rfl⟩:=AE.1 hb;exact mp_ok _ (ht f hf).ok
 have hck:=zTz n 0 fs hn (by omega) (by omega) λf hf=>(hs f hf).z;rw[h0,flatK hmm]at hck;have hln:((fs.map toFa).map (AX An)).length=fs.length:=by simp
 have s1:=zSu (z:=rz) (b:=11) (l:=(fs.map toFa).map (AX An)) λa ha=>by
  obtain⟨b,hb,rfl⟩:=AE.1 ha;obtain⟨f,hf,rfl⟩:=AE.1 hb;rw[mp_rz];exact(ht f hf).r
 have s2:=zSu (z:=kz) (b:=2^Mz) (l:=(fs.map toFa).map (AX An)) λa ha=>by
  obtain⟨b,hb,rfl⟩:=AE.1 ha;obtain⟨f,hf,rfl⟩:=AE.1 hb;exact mp_kz (zVd hs f hf)
 rw[hln]at s1 s2;have s3:11^fs.length<=11^4:=Ba (by omega) hl;have e1:11^4=14641:=by decide
 have s4:2*pz kz ((fs.map toFa).map (AX An))<=Bz:=by
  rw[<-Nat.pow_mul]at s2;have s5:2*2^(Mz*fs.length)=2^(Mz*fs.length+1):=by rw[Nat.pow_succ,Nat.mul_comm]
  have s7:Mz*fs.length<=Mz*4:=B2 _ hl;have s6:2^(Mz*fs.length+1)<=Bz:=Ba (by omega) (by rw[Ez_eq];have:=Mz_eq;omega);exact Au (B2 2 s2) (s5▸s6)
 have hm:=zS4 hD (zCy _) n 0 _ hn (by omega) hok (by omega) (by omega) s4 (λv hv=>by
  obtain⟨f,hf,h3⟩:=hcv v hv;exact⟨_,AE.2 ⟨f,hf,rfl⟩,h3⟩) (by rw[hln];exact hck)
 rw[hln,<-flatK hmm]at hm;exact total_cK _ _ _ _ hm
theorem totP:Pure Ar 10 [prdD,iD (n:Nat), .row (fs.flatMap rnCP) fs.length] [] (.tup [.agg (cpD (((zDx popN rcmp Sp ((fs.map toFa).map (AX (λx=>(x,An x)))) ((AB n).filter λv=>!(0:Nat).testBit v)).l.map (·.2)).headD (0,AH))),iD 0])/\okP (((zDx popN rcmp Sp ((fs.map toFa).map (AX (λx=>(x,An x)))) ((AB n).filter λv=>!(0:Nat).testBit v)).l.map (·.2)).headD (0,AH)):=by
 obtain⟨_,_,h1,h2⟩:=zHp h0;have ht:=zGg (by omega) h1 hs;have hD:=zK4 h1 hv;have hmm:∀f∈fs,Tofa (domP fs) f/\f.R.length=f.W.length:=λf hf=>⟨ht f hf,rn_len (zD6 h1 f hf)⟩;have hcv:=zWk h2 ht;have hok:∀g∈(fs.map toFa).map (AX (λx=>(x,An x))),FOk rcmp (domP fs) g:=λg hg=>by
  obtain⟨b,hb,rfl⟩:=AE.1 hg;obtain⟨f,hf,rfl⟩:=AE.1 hb;exact mp_ok _ (ht f hf).ok
 have hck:=zTy n 0 fs hn (by omega) (by omega) λf hf=>(hs f hf).z;rw[h0,flatP hmm]at hck;have hln:((fs.map toFa).map (AX (λx=>(x,An x)))).length=fs.length:=by simp
 have s1:=zSu (z:=rz) (b:=11) (l:=(fs.map toFa).map (AX (λx=>(x,An x)))) λa ha=>by
  obtain⟨b,hb,rfl⟩:=AE.1 ha;obtain⟨f,hf,rfl⟩:=AE.1 hb;rw[mp_rz];exact(ht f hf).r
 have s2:=zSu (z:=qz) (b:=2^(14+Mz)) (l:=(fs.map toFa).map (AX (λx=>(x,An x)))) λa ha=>by
  obtain⟨b,hb,rfl⟩:=AE.1 ha;obtain⟨f,hf,rfl⟩:=AE.1 hb;have e1:((toFa f).mp (λx=>(x,An x))).mp AZ=toFa f:=by rw[mp_mp];exact mp_id _
  have e2:((toFa f).mp (λx=>(x,An x))).mp AL=(toFa f).mp some:=by rw[mp_mp]
  unfold qz;rw[e1,e2,Nat.pow_add];exact Nat.mul_le_mul (Au (zGg (by omega) (zHp h0).2.2.1 hs f hf).v b10001) (mp_kz (zVd hs f hf))
 rw[hln]at s1 s2;have s3:11^fs.length<=11^4:=Ba (by omega) hl;have e1:11^4=14641:=by decide
 have s4:2*pz qz ((fs.map toFa).map (AX (λx=>(x,An x))))<=Bz:=by
  rw[<-Nat.pow_mul]at s2;have s5:2*2^((14+Mz)*fs.length)=2^((14+Mz)*fs.length+1):=by rw[Nat.pow_succ,Nat.mul_comm]
  have s7:(14+Mz)*fs.length<=(14+Mz)*4:=B2 _ hl;have s6:2^((14+Mz)*fs.length+1)<=Bz:=Ba (by omega) (by rw[Ez_eq];have:=Mz_eq;omega);exact Au (B2 2 s2) (s5▸s6)
 have hm:=zS3 hD (zCy _) n 0 _ hn (by omega) hok (by omega) (by omega) s4 (λv hv=>by
  obtain⟨f,hf,h3⟩:=hcv v hv;exact⟨_,AE.2 ⟨f,hf,rfl⟩,h3⟩) (by rw[hln];exact hck)
 rw[hln,<-flatP hmm]at hm;refine⟨total_cP _ _ _ _ hm,?_⟩;have hEn:((AB n).filter λv=>!(0:Nat).testBit v).Nodup:=List.nodup_range.filter _;have hEc:∀v∈(AB n).filter (λv=>!(0:Nat).testBit v),∃f∈(fs.map toFa).map (AX (λx=>(x,An x))),v∈f.A:=λv h=>by
  obtain⟨f,hf,h3⟩:=hcv v (by have:=(A2.1 h).1;simpa using this);exact⟨_,AE.2 ⟨f,hf,rfl⟩,h3⟩
 rw[zV6 (pop:=popN) (S:=Sp) rcw (zCy _) hEn (.refl _) hok hEc];have z2:=zVo (S:=Sp) (z:=qz) (zPx (c:=rcmp)) ((fs.map toFa).map (AX (λx=>(x,An x)))) (zB6 Sp);have z4:=zVm (S:=Sp) (z:=qz) (zZ2 (c:=rcmp)) ((AB n).filter λv=>!(0:Nat).testBit v) (refP rcmp Sp (zB6 Sp) ((fs.map toFa).map (AX (λx=>(x,An x)))));have h9:qz (zB6 Sp)<=2:=by decide
 have hall:=qz_ok (Au z4 (Au z2 (Au (A6 _ h9) s4)));generalize refS rcmp Sp _ _=m at hall⊢;match hm:m.l with
 |[]=>exact zokP
 |p::l=>exact hall p (by rw[hm];exact BF ..)
theorem totN:Pure Ar 11 [cntD,iD (n:Nat), .row (fs.flatMap rnC) fs.length] [] (.tup [natD (((zDx popN rcmp Sn (fs.map toFa) ((AB n).filter λv=>!(0:Nat).testBit v)).l.map (·.2)).headD 0),iD 0]):=by
 obtain⟨_,_,h1,h2⟩:=zHp h0;have ht:=zGg (by omega) h1 hs;have hD:=zK4 h1 hv;obtain⟨c1,c2⟩:=zZ9 ht;obtain⟨s1,s2⟩:=sizes hl ht;have hcv:=zWk h2 ht;have hok:∀g∈fs.map toFa,FOk rcmp (domP fs) g:=λg hg=>by
  obtain⟨f,hf,rfl⟩:=AE.1 hg;exact(ht f hf).ok
 have hln:(fs.map toFa).length=fs.length:=by simp
 have hck:=zNw n 0 fs hn (by omega) (by omega) λf hf=>(hs f hf).z;rw[h0,c1]at hck;have hm:=zNi hD (zCy _) n 0 (fs.map toFa) hn (by omega) hok (by omega) s1 s2 hcv (by rw[hln];exact hck);rw[hln,<-c1]at hm;exact zX5 _ _ _ _ hm
end
theorem pair_fst(fs:List (Fa Nat))(E:List Nat):(((zDx popN rcmp Sp (fs.map (AX λx=>(x,An x))) E).l.map (·.2)).headD (0,AH)).1=((zDx popN rcmp Sn fs E).l.map (·.2)).headD 0:=by
 rw[<-zZb (g:=AZ),zV8 popN hm1,Bf];congr 4;conv=>rhs;rw[<-B0 fs]
 exact BG λf _=>by
  show((f.mp _).mp _)=f;rw[mp_mp];exact mp_id f
theorem pair_snd(fs:List (Fa Nat))(E:List Nat):(((zDx popN rcmp Sp (fs.map (AX λx=>(x,An x))) E).l.map (·.2)).headD (0,AH)).2=((zDx popN rcmp Sk (fs.map (AX An)) E).l.map (·.2)).headD none:=by
 rw[<-zZb (g:=AL),zV8 popN hm2,Bf];congr 4;exact BG λf _=>by
  show((f.mp _).mp _)=f.mp An;rw[mp_mp]
end
section
attribute [local irreducible] seqW awp zAe zAh zAb Weak updS zAs retL Pure Acts rP setP setQ cP nP fr
set_option maxRecDepth 4096
theorem raws_rn(fs:List Rn):(fs.map rnR).flatMap rawC=fs.flatMap rwD:=by rw[Ce]
section
variable (n : Int) (cs : List D) (k : Nat)
theorem zQ8(b:Bool)(hb:b=Ac\/n<0\/8<n)(hfew:Pure Ar 7 [.row cs k] [] (bD b)):Pure Ar 3 [iD n, .row cs k] [] (bD Ab):=by
 cases b
 ·refine zH zCf mixed B3 rfl<|vAu<|zB<|vA<|vc (zMr)<|veT<|vf<|vK<|zB<|vA<|vrT 1<|vc (hfew)<|veT<|vt<|vAe<|zK<|zG<|vret (True)<|.inr rfl
 have hb:n<0\/8<n:=by simpa using hb
 refine zH zCf mixed B3 rfl ?_;by_cases h0:n<0
 ·refine vAu<|zB<|vA<|vc (zMr)<|veT<|vf<|vK<|zB<|vA<|vrT 1<|vc (hfew)<|vew [] [(7,Ab)] (decide (n<0)=Ab)<|vt<|vAe<|zK<|zG<|vret (True)<|.inr rfl
 refine vAu<|zB<|vA<|vc (zMr)<|veT<|vf<|vK<|zB<|vA<|vrT 1<|vc (hfew)<|vew [] [(7,Ac),(11,Ab)] (decide (n<0)=Ac/\decide (n>(8:Int))=Ab)<|vt<|vAe<|zK<|zG<|vret (True)<|.inr rfl
theorem pairsW_c(h0:0<=n)(h8:n<=8)(e:Int)(he:e≠0)(hfew:Pure Ar 7 [.row cs k] [] (bD Ab))(hw:Pure Ar 8 [iD n,u32D 0, .row cs k] [] (iD e)):Pure Ar 3 [iD n, .row cs k] [] (bD Ab):=by
 refine zH zCf mixed B3 rfl<|vAu<|zB<|vA<|vc (zMr)<|veT<|vf<|vK<|zB<|vA<|vrT 1<|vc (hfew)<|vw 12 [] [(7,Ac),(11,Ac)] (decide (n<0)=Ac/\decide (n>(8:Int))=Ac)<|vc (hw)<|veT<|zD2 (t:=e !=(0:Int)) (by kernel_rfl) (by simpa using by omega)<|vAe<|zK<|zG<|vret (True)<|.inr rfl
end
theorem rnP_snoc(l:List Rn)(f:Rn):(l++[f]).flatMap rnCP=l.flatMap rnCP++rnCP f:=by simp
theorem rnK_snoc(l:List Rn)(f:Rn):(l++[f]).flatMap rnCK=l.flatMap rnCK++rnCK f:=by simp
set_option maxHeartbeats 8000000 in
theorem zYw(n:Nat)(h8:n<=8)(fs:List Rn)(hl:fs.length<=4)(hs:∀f∈fs,Rsm f)(p:Nat×Option Nat)(hok:okP p)
  (hfew:Pure Ar 7 [.row (fs.flatMap rwD) fs.length] [] (bD Ab))(hw:Pure Ar 8 [iD (n:Nat),u32D 0, .row (fs.flatMap rwD) fs.length] [] (iD 0))
  (hco:Pure Ar 12 [.row (fs.flatMap rwD) fs.length] [] (.row (fs.flatMap rnC) fs.length))
  (hP:Pure Ar 10 [prdD,iD (n:Nat), .row (fs.flatMap rnCP) fs.length] [] (.tup [.agg (cpD p),iD 0]))
  (hN:Pure Ar 11 [cntD,iD (n:Nat), .row (fs.flatMap rnC) fs.length] [] (.tup [natD p.1,iD 0]))
  (hK:Pure Ar 13 [trpD,iD (n:Nat), .row (fs.flatMap rnCK) fs.length] [] (.tup [.agg (ckD p.2),iD 0])):Pure Ar 3 [iD (n:Nat), .row (fs.flatMap rwD) fs.length] [] (bD Ab):=by
 refine zH zCf mixed B3 rfl<|vAu<|zB<|vA<|vc (zMr)<|veT<|vf<|vK<|zB<|vA<|vrT 1<|vc (hfew)<|vw 12 [] [(7,Ac),(11,Ac)] (decide ((n:Int)<0)=Ac/\decide ((n:Int)>(8:Int))=Ac)<|vc (hw)<|veT<|vf<|vK<|vA<|ve ((True/\Ab=Ab)/\(True/\Ab=Ab)/\((1=1/\1<=2/\1=1/\2<=2/\True)/\Ab=Ab)/\Ac=Ac/\Ab=Ab/\2=2/\2<=2)<|vAe<|vAe<|zB<|vAe<|zF<|zA2 (λ(i:Nat)(a:List Rn)=>fr 164 [(0,iD (n:Int)),(1,Ad (Ae rwD fs)<|Aa fs),(4,bD Ac),(5,Aj 0 0),(6,Ai 1 0 (Aa a) (Aa a*3) Ab),(7,Ai 2 0 (Aa a) (Aa a*3) Ab),(8,iD (i:Int))]) (λ(i:Nat)(a:List Rn)=>[⟨[cntD,trpD],36,0,Ac,Ac,.plain⟩,fsBP<|a.flatMap rnCP,fsBK<|a.flatMap rnCK]) (λi a=>fs.length-i) (λ(i:Nat)(a:List Rn)=>i<=fs.length/\a=fs.take i) 0 [] ?_ ?_ ?_
 ·exact⟨by omega,rfl⟩
 ·refine vk 1
 rintro i a ⟨h1,h2⟩;have la:a.length<=1000:=by rw[h2];simp;omega
 have caP:(a.flatMap rnCP).length=a.length*3:=zCc zHu a;have caK:(a.flatMap rnCK).length=a.length*3:=zCc zHv a;rcases Aw i fs.length with h3|h3
 ·have hm:=zAx fs Ah i h3;have hg2:=fl_at zDv fs i h3;have hle:=zB5 zDv fs i h3;have hne:=zCb zDv (by decide) fs;have htk:=zBl fs i h3;rw[<-h2]at htk;have hsm:=hs _ hm;generalize fs.getD i Ah=f at*;obtain⟨V,R,W⟩:=f;have hW:=hsm.w;have hWb:=hsm.b;simp only at hW hWb;have erw:rwD ⟨V,R,W⟩=[.row (V.map λz=>iD z) V.length, .row (R.map rowV) R.length, .row (nsD W) W.length]:=by
   show[_,_,Ad ((natI W).map λz=>iD z) (natI W).length]=_;rw[zJp,AR]
  rw[erw]at hg2;refine zB<|vAu<|vT ((i:Int)<↑(Aa fs))<|vKB<|zB<|vd [0,1,2,3,5,6,7,8,4,9,10,11,12]<|vr 3 (ix ↑i ↑(Aa fs) (Ae rwD fs≠[]))<|vs 51 (AD<|Ag (As (i:Int)*3)<|Ae rwD fs) (AD (Ad (Af (λ(z:Int)=>iD z) V) (Aa V)::Ad (Af rowV R) (Aa R)::Ad (nsD W) (Aa W)::Ae rwD (Ag (i+1) fs))) (hd:=by simp(disch:=omega) only[Az,A3,A4,hg2])<|vr 4 (True/\ix ↑i ↑(Aa fs) (Ae rwD fs≠[]))<|vs 56 (AD<|Ag (As (i:Int)*3)<|Ae rwD fs) (AD (Ad (Af (λ(z:Int)=>iD z) V) (Aa V)::Ad (Af rowV R) (Aa R)::Ad (nsD W) (Aa W)::Ae rwD (Ag (i+1) fs))) (hd:=by simp(disch:=omega) only[Az,A3,A4,hg2])<|ve (True/\0<Aa (Ad (Af (λ(z:Int)=>iD z) V) (Aa V)::Ad (Af rowV R) (Aa R)::Ad (nsD W) (Aa W)::Ae rwD (Ag (i+1) fs))/\0<Aa (Ad (Af rowV R) (Aa R)::Ad (nsD W) (Aa W)::Ae rwD (Ag (i+1) fs))/\((1=1/\1<=3/\1=1/\2<=3/\True)/\Ab=Ab)/\Ac=Ac/\Ab=Ab/\3=3/\3<=3)<|zB<|vd [0,1,2,3,5,6,7,8,4,9,10,11,12]<|vr 3 (ix ↑i ↑(Aa fs) (Ae rwD fs≠[]))<|vs 62 (AD<|Ag (As (i:Int)*3)<|Ae rwD fs) (AD (Ad (Af (λ(z:Int)=>iD z) V) (Aa V)::Ad (Af rowV R) (Aa R)::Ad (nsD W) (Aa W)::Ae rwD (Ag (i+1) fs))) (hd:=by simp(disch:=omega) only[Az,A3,A4,hg2])<|vr 4 (True/\ix ↑i ↑(Aa fs) (Ae rwD fs≠[]))<|vs 67 (AD<|Ag (As (i:Int)*3)<|Ae rwD fs) (AD (Ad (Af (λ(z:Int)=>iD z) V) (Aa V)::Ad (Af rowV R) (Aa R)::Ad (nsD W) (Aa W)::Ae rwD (Ag (i+1) fs))) (hd:=by simp(disch:=omega) only[Az,A3,A4,hg2]) ?_;refine vr 6 (True/\0<Aa (Ad (Af (λ(z:Int)=>iD z) V) (Aa V)::Ad (Af rowV R) (Aa R)::Ad (nsD W) (Aa W)::Ae rwD (Ag (i+1) fs))/\0<Aa ((q5_ R)::Ad (nsD W) (Aa W)::Ae rwD (Ag (i+1) fs))/\((1=1/\1<=3/\1=1/\2<=3/\True)/\Ab=Ab)/\Ac=Ac/\Ab=Ab/\3=3/\3<=3)<|vnil<|zC<|vnn (fr 164 [(0,iD n),(1,Ad (Ae rwD fs)<|Aa fs),(4,bD Ac),(5,Aj 0 0),(6,Ai 1 0 (Aa a) (Aa a*3) Ab),(7,Ai 2 0 (Aa a) (Aa a*3) Ab),(8,iD i),(9,Aj 3 0),(10,Aj 4 0),(60,Ad (Ae rwD fs)<|Aa fs),(61,iD i),(62,AD (Ad (Af (λ(z:Int)=>iD z) V) (Aa V)::Ad (Af rowV R) (Aa R)::Ad (nsD W) (Aa W)::Ae rwD (Ag (i+1) fs))),(63,AD (Ad (Af (λ(z:Int)=>iD z) V) (Aa V)::Ad (Af rowV R) (Aa R)::Ad (nsD W) (Aa W)::Ae rwD (Ag (i+1) fs))),(64,Ad (Af (λ(z:Int)=>iD z) V)<|Aa V),(65,Ad (Ae rwD fs)<|Aa fs),(66,iD i),(67,AD (Ad (Af (λ(z:Int)=>iD z) V) (Aa V)::Ad (Af rowV R) (Aa R)::Ad (nsD W) (Aa W)::Ae rwD (Ag (i+1) fs))),(68,AD ((q5_ R)::Ad (nsD W) (Aa W)::Ae rwD (Ag (i+1) fs))),(69,(q5_ R)),(70,Ak [Ad (Af (λ(z:Int)=>iD z) V)<|Aa V,(q5_ R),nl])]) [Ao [cntD,trpD] (36:TypeId) 0 Ac Ac Am,fsBP<|Ae rnCP a,fsBK<|Ae rnCK a,Ao [Ad (Af (λ(z:Int)=>iD z) V)<|Aa V,(q5_ R),nl] 45 0 Ac Ac Am,Ao [Ad (Af (λ(z:Int)=>iD z) V)<|Aa V,(q5_ R),nl] 48 0 Ac Ac Am]<|zAw ((Bp (j:=3) (i:=2) (ej:=fB1P (.row (V.map λz=>iD z) V.length) (.row (R.map rowV) R.length) nl) (zEe []) (by kernel_rfl) rfl rfl rfl).trans<|Bp (j:=4) (i:=2) (ej:=fB1K (.row (V.map λz=>iD z) V.length) (.row (R.map rowV) R.length) nl) (zGc []) (by kernel_rfl) rfl rfl rfl) ?_;refine zB<|vAu<|zF<|zQ (λ(k:Nat)=>fr 164 [(0,iD n),(1,Ad (Ae rwD fs)<|Aa fs),(4,bD Ac),(5,Aj 0 0),(6,Ai 1 0 (Aa a) (Aa a*3) Ab),(7,Ai 2 0 (Aa a) (Aa a*3) Ab),(8,iD i),(9,Aj 3 0),(10,Aj 4 0),(11,iD k)]) (λ(k:Nat)=>[⟨[cntD,trpD],36,0,Ac,Ac,.plain⟩,fsBP<|a.flatMap rnCP,fsBK<|a.flatMap rnCK,fB1P (.row (V.map λz=>iD z) V.length) (.row (R.map rowV) R.length)<|.osl 5 0 k (k*3) Ab,fB1K (.row (V.map λz=>iD z) V.length) (.row (R.map rowV) R.length)<|.osl 6 0 k (k*2) Ab,zEe ((W.take k).flatMap λx=>cpD (x,An x)),zGc ((W.take k).flatMap λx=>ckD (An x))]) (λk=>W.length-k) (λ(k:Nat)=>k<=W.length) 0 ?_ ?_ ?_
  ·omega
  ·refine vk 7
  rintro k k1;have hcP:((W.take k).flatMap λx=>cpD (x,An x)).length=k*3:=by rw[zCc λx=>zAt (x,An x),Br,Nat.min_eq_left k1]
  have hcK:((W.take k).flatMap λx=>ckD (An x)).length=k*2:=by rw[zCc λx=>zAv (An x),Br,Nat.min_eq_left k1]
  rcases Aw k W.length with k2|k2
  ·have hneW:nsD W≠[]:=zX;have hx:=zAi W k k2;have hm2:=zBv W k k2;have hb:=hWb _ hm2;have e0:W.take (k+1)=W.take k++[W.getD k 0]:=by
    rw[BO k2,AF,AQ k2];rfl
   have eP:((W.take (k+1)).flatMap λx=>cpD (x,An x))=((W.take k).flatMap λx=>cpD (x,An x))++[natD (W.getD k 0),bD Ac,natD (W.getD k 0)]:=by rw[e0,BK,List.flatMap_singleton];rfl
   have eK:((W.take (k+1)).flatMap λx=>ckD (An x))=((W.take k).flatMap λx=>ckD (An x))++[bD Ac,natD (W.getD k 0)]:=by rw[e0,BK,List.flatMap_singleton];rfl
   generalize W.getD k 0=w at*;have hof:=of_c w (by omega);have m1:=zN3 (n:=w) (by omega);refine zB<|vAs<|vr 4 (ix ↑i ↑(Aa fs) (Ae rwD fs≠[]))<|vs 74 (AD<|Ag (As (i:Int)*3)<|Ae rwD fs) (AD (Ad (Af (λ(z:Int)=>iD z) V) (Aa V)::Ad (Af rowV R) (Aa R)::Ad (nsD W) (Aa W)::Ae rwD (Ag (i+1) fs))) (hd:=by simp(disch:=omega) only[Az,A3,A4,hg2])<|ve (True/\0<Aa (Ad (nsD W) (Aa W)::Ae rwD (Ag (i+1) fs)))<|vT ((k:Int)<↑(Aa W))<|vKB<|vA<|vr 3 (ix ↑i ↑(Aa fs) (Ae rwD fs≠[]))<|vs 83 (AD<|Ag (As (i:Int)*3)<|Ae rwD fs) (AD (Ad (Af (λ(z:Int)=>iD z) V) (Aa V)::Ad (Af rowV R) (Aa R)::Ad (nsD W) (Aa W)::Ae rwD (Ag (i+1) fs))) (hd:=by simp(disch:=omega) only[Az,A3,A4,hg2])<|vr 4 (True/\0<Aa (Ad (nsD W) (Aa W)::Ae rwD (Ag (i+1) fs))/\ix ↑k ↑(Aa W) (nsD W≠[]))<|vp 87 k (nsD W)<|vr 1 (0<Aa (Ag k<|nsD W))<|vsh 88 hx<|vr 1 (u6 (w:Int))<|vc hof<|veT<|vA<|ve (True/\0<1/\((1=1/\2<=2/\True)/\Ab=Ab)/\((1=1/\1<=3/\2=2/\3<=3/\True)/\Ab=Ab)/\((3=3/\3<=3/\True)/\0<3/\3=3/\3<=16777216/\1<=9223372036854775807)/\(A0 (zEe<|Ae (λ(x:Nat)=>cpD (x,An x))<|Al k W)=Ab/\Aa (AI<|zEe<|Ae (λ(x:Nat)=>cpD (x,An x))<|Al k W)=k*3/\k*3=k*3/\AS (zEe<|Ae (λ(x:Nat)=>cpD (x,An x))<|Al k W)=56/\AT (zEe<|Ae (λ(x:Nat)=>cpD (x,An x))<|Al k W)=3/\3=3/\0<3/\0<56/\56=56/\(k+1)*56<=140737488355328/\3=3/\AU (AA<|zEe<|Ae (λ(x:Nat)=>cpD (x,An x))<|Al k W)=Ac/\(Ac=Ac\/AV (AA<|zEe<|Ae (λ(x:Nat)=>cpD (x,An x))<|Al k W)=Ab))/\True/\Ac=Ac/\Ab=Ab/\1=1/\3<=3)<|zA rfl<|vr 8 (True/\0<1/\((1=1/\2<=2/\True)/\Ab=Ab)/\((2=2/\2<=2/\True)/\0<2/\2=2/\2<=16777216/\1<=9223372036854775807)/\(Ab=Ab/\Aa (Ae (λ(x:Nat)=>ckD (An x))<|Al k W)=k*2/\k*2=k*2/\54=54/\2=2/\2=2/\0<2/\0<32/\54=54/\(k+1)*32<=140737488355328/\2=2/\AU Am=Ac/\(Ac=Ac\/AV Am=Ab))/\True/\Ac=Ac/\Ab=Ab/\1=1/\3<=3)<|vnil<|zD<|vN<|zA rfl<|vr 3 (i6 (↑k+1))<|vnil<|zC<|⟨k+1,by omega,by omega,?_⟩;rw[eP,eK];refine vk 7
  obtain rfl:k=W.length:=by omega
  rw[BZ]at hcP hcK⊢;refine zB<|vAs<|vr 4 (ix ↑i ↑(Aa fs) (Ae rwD fs≠[]))<|vs 74 (AD<|Ag (As (i:Int)*3)<|Ae rwD fs) (AD (Ad (Af (λ(z:Int)=>iD z) V) (Aa V)::Ad (Af rowV R) (Aa R)::Ad (nsD W) (Aa W)::Ae rwD (Ag (i+1) fs))) (hd:=by simp(disch:=omega) only[Az,A3,A4,hg2])<|ve (True/\0<Aa (Ad (nsD W) (Aa W)::Ae rwD (Ag (i+1) fs)))<|vF ((Aa W:Int)<↑(Aa W))<|vY2<|zC<|vnn (fr 164 [(0,iD n),(1,Ad (Ae rwD fs)<|Aa fs),(4,bD Ac),(5,Aj 0 0),(6,Ai 1 0 (Aa a) (Aa a*3) Ab),(7,Ai 2 0 (Aa a) (Aa a*3) Ab),(8,iD i),(9,Aj 3 0),(10,Aj 4 0),(11,iD<|Aa W),(78,bD<|decide ((Aa W:Int)<(Aa W:Int)))]) [Ao [cntD,trpD] (36:TypeId) 0 Ac Ac Am,fsBP<|Ae rnCP a,fsBK<|Ae rnCK a,fB1P (Ad (Af (λ(z:Int)=>iD z) V)<|Aa V) (Ad (Af rowV R)<|Aa R)<|Ai 5 0 (Aa W) (Aa W*3) Ab,fB1K (Ad (Af (λ(z:Int)=>iD z) V)<|Aa V) (Ad (Af rowV R)<|Aa R)<|Ai 6 0 (Aa W) (Aa W*2) Ab,zEe<|Ae (λ(x:Nat)=>cpD (x,An x)) W,zGc<|Ae (λ(x:Nat)=>ckD (An x)) W] ?_;have hfP:((W.flatMap λx=>cpD (x,An x)).drop 0).take (W.length*3)=W.flatMap λx=>cpD (x,An x):=by rw[AM,AK (by omega)]
  have hfK:((W.flatMap λx=>ckD (An x)).drop 0).take (W.length*2)=W.flatMap λx=>ckD (An x):=by rw[AM,AK (by omega)]
  refine zAw ((Bw (j:=3) (i:=2) (d:= .osl 5 0 W.length (W.length*3) Ab) (x:= .row (W.flatMap λx=>cpD (x,An x)) W.length) (ks:=[5]) rfl rfl rfl rfl (by show An (Ad (((W.flatMap λx=>cpD (x,An x)).drop 0).take (W.length*3)) W.length,[5])=_;rw[hfP]) (by decide)).trans<|Bw (j:=4) (i:=2) (d:= .osl 6 0 W.length (W.length*2) Ab) (x:= .row (W.flatMap λx=>ckD (An x)) W.length) (ks:=[6]) rfl rfl rfl rfl (by show An (Ad (((W.flatMap λx=>ckD (An x)).drop 0).take (W.length*2)) W.length,[6])=_;rw[hfK]) (by decide)) ?_;refine vAs<|ve (3<=3/\((3=3/\3<=3/\True)/\0<3/\3=3/\3<=16777216/\1<=9223372036854775807)/\A0 (fsBP<|Ae rnCP a)=Ab/\Aa (AI<|fsBP<|Ae rnCP a)=Aa a*3/\Aa a*3=Aa a*3/\AS (fsBP<|Ae rnCP a)=45/\AT (fsBP<|Ae rnCP a)=3/\3=3/\0<3/\0<72/\45=45/\(Aa a+1)*72<=140737488355328/\3=3/\AU (AA<|fsBP<|Ae rnCP a)=Ac/\(Ac=Ac\/AV (AA<|fsBP<|Ae rnCP a)=Ab))<|zA rfl<|vr 5 (3<=3/\((3=3/\3<=3/\True)/\0<3/\3=3/\3<=16777216/\1<=9223372036854775807)/\Ab=Ab/\Aa (Ae rnCK a)=Aa a*3/\Aa a*3=Aa a*3/\48=48/\3=3/\3=3/\0<3/\0<72/\48=48/\(Aa a+1)*72<=140737488355328/\3=3/\AU Am=Ac/\(Ac=Ac\/AV Am=Ab))<|vnil<|zD<|vN<|zA rfl<|vr 3 (i6 (↑i+1))<|vnil<|zC<|⟨i+1,a++[⟨V,R,W⟩],⟨by omega,htk.symm⟩,by omega,?_⟩;rw[rnP_snoc,rnK_snoc,len_sn];refine vk 3
 rw[AK (by omega)]at h2;subst h2;have ht1:=zBs zHu a _ rfl;have ht2:=zBs zHv a _ rfl;obtain⟨p1,p2⟩:=p;have hcm:=zRj p1 p1 hok.1 hok.1;have e0:cmpD (p1:Int) (p1:Int)=0:=by rcases zCj (p1:Int) p1 with h|h|h<;>omega
 rw[e0]at hcm;have heq:=tequal_c p2 hok.2;refine zB<|vAu<|vF ((i:Int)<↑(Aa a))<|vZ2<|vA<|vr 4 (2<=2)<|vcl [AG 36<|Ak [AG 29<|Ak [],AG 30<|Ak []],iD n,Ad (Al (Aa a*3)<|Ag 0<|AI<|fsBP<|Ae rnCP a)<|Aa a] [AG 36<|Ak [AG 29<|Ak [],AG 30<|Ak []],iD n,Ad (Ae rnCP a)<|Aa a] (LeL.of_eq (by simp(disch:=omega) only[AM,ht1])) (by exact hP)<|ve (0<2/\1<2/\Ac=Ac/\Ab=Ab/\3=3/\3<=3)<|vA<|vr 4 (True/\Ab=Ab)<|vc hco<|vc hN<|ve (0<2/\1<2)<|vA<|vr 4 (True/\Ab=Ab)<|vcl [AG 30<|Ak [],iD n,Ad (Al (Aa a*3)<|Ag 0<|AI<|fsBK<|Ae rnCK a)<|Aa a] [AG 30<|Ak [],iD n,Ad (Ae rnCK a)<|Aa a] (LeL.of_eq (by simp(disch:=omega) only[AM,ht2])) (by exact hK)<|ve (0<2/\1<2/\Ac=Ac/\Ab=Ab/\2=2/\2<=2)<|vA<|vr 14 (True/\True/\True/\True/\0<3)<|vc hcm<|vr 7 (True/\(True/\Ab=Ab)/\True/\2<=2/\2<=2)<|vc heq<|veT<|zK<|vret (True)<|.inr rfl
theorem pairs_c(n:Int)(l:List Raw)(hn:inK .i64 n)(hl:∀f∈l,RawOk f):Pure Ar 3 [iD n, .row (l.flatMap rawC) l.length] [] (bD Ab):=by
 have hfew:=few_c l;by_cases hf:fewP l=Ab;case neg=>
  rw[Bool.not_eq_true]at hf;rw[hf]at hfew;exact zQ8 n _ _ Ac (.inl rfl) hfew
 rw[hf]at hfew;by_cases h8:n<0\/8<n
 ·exact zQ8 n _ _ Ab (.inr h8) hfew
 obtain⟨hl4,fs,rfl,hs⟩:=fewP_rn hf;rw[AR]at hl4;have hvv:∀f∈fs,∀x∈f.R,∀a∈x,Vi a:=λf hf=>(hl (rnR f) (AE.2 ⟨f,hf,rfl⟩)).r;rw[raws_rn,AR]at hfew⊢;have hco:=counts_c fs (by omega) hs;obtain⟨N,rfl⟩:∃N:Nat,n=N:=⟨n.toNat,by omega⟩;have hN:N<=8:=by omega
 have hw:=wrong_c N 0 fs hN (by decide) (by omega) λf hf=>(hs f hf).z;by_cases e0:zDi N 0 fs=0;case neg=>exact pairsW_c N _ _ (by omega) (by omega) _ e0 hfew hw
 rw[e0]at hw;obtain⟨hP,hok⟩:=totP hN hl4 hs hvv e0;have hQ:=totN hN hl4 hs hvv e0;have hK:=totK hN hl4 hs hvv e0;rw[<-pair_fst]at hQ;rw[<-pair_snd]at hK;exact zYw N hN fs hl4 hs _ hok hfew hw hco hP hQ hK
end
end Go.Proofs.YtmfamhoopjeaiaaGreatDoor
