/- Texts of this claim, joined. -/
import Derived.Test.YthmfohpkimflhaaGreatDoorQ03
import Derived.Lib.SlicesCompact
set_option linter.unusedVariables false
set_option linter.unusedSimpArgs false
namespace Go.Proofs.YthmfohpkimflhaaGreatDoor
open _root_.List renaming length->Aa,map->Ad,drop->Ag,flatMap->Ah,take->Ai,mem_map->Am,length_map->An,getD_eq_getElem?_getD->Ao,getElem?_eq_getElem->Ar,range->As,replicate->AF,drop_zero->AJ,mem_filter->AL,cons_append->AM,getD->AN,mem_cons->AO,nil_append->AP,take_of_length_le->AQ,length_cons->AR,length_take->AS,mem_range->AT,length_append->AV,mem_cons_self->AW,all_eq_true->AY,mem_singleton->A0,take_length->A3,set->A7,map_append->Bb,pairwise_cons->Bd,mem_cons_of_mem->Bj,getElem_mem->Bl,take_succ_eq_append_getElem->Bm,length_drop->Bn,any_eq_true->Bp,filter_cons->Bq,mem_append->Br,mem_flatMap->Bt,length_filter_le->Bv,map_map->By,filter_append->BB,getElem?_map->BE,range_succ->BF,drop_eq_getElem_cons->BK,flatMap_append->BL,foldl_append->BP,pairwise_map->BQ,length_nil->BR,idxOf_lt_length_iff->BS,map_congr_left->BT,getElem_of_mem->BU,mem_of_find?_eq_some->BX,mem_append_left->BZ,nodup_cons->B2,flatMap_map->B3,Pairwise->B4,getElem_idxOf->B6,flatMap_singleton->B7,find?_eq_none->B8,append_nil->Ce,mem_append_right->Cg,length_range->Ck,getElem?_take->Cl,flatMap_cons->Cn,mem_of_mem_drop->Cv,getElem_take->Cy,map_replicate->Cz,map_cons->CA,replicate_succ->CB,pairwise_iff_getElem->CF,length_singleton->CG,append_assoc->CH,findIdx?_cons->CK,take_append_drop->CL,map_take->CM,drop_length->CO,getElem?_append_left->CQ,getElem?_append_right->CR,exists_mem_of_ne_nil->CS,take_append_of_le_length->CT
open _root_.Bool renaming true->Ab,false->Ac,and_eq_true->Ba,or_eq_true->Bc,eq_iff_iff->BD,false_or->Ch,not_eq_true'->Cx,not_true->CC,false_eq_true->CD
open D renaming row->Ae,osl->Ak,agg->Aq,val->Ay,ptr->AB,own->AC
open _root_.Inhabited renaming default->Af
open _root_.Int renaming toNat->Aj,toNat_natCast->Au
open _root_.Go.Proofs.Tryz renaming prog->Al,func8->BY
open _root_.Nat renaming lt_or_ge->Ap,le_trans->AE,le_refl->AU,testBit_and->AZ,testBit_or->A2,mul_one->A_,pow_le_pow_right->Bo,eq_of_testBit_eq->Bs,testBit_two_pow->Bu,le_mul_of_pos_right->Bw,zero_testBit->BC,zero_le->BG,testBit_two_pow_sub_one->BO,two_pow_pos->BV,lt_of_lt_of_le->BW,mul_le_mul_right->B0,succ->B5,testBit_lt_two_pow->B9,eq_zero_or_pos->B_,sub_zero->Ca,min_eq_left->Cd,add_sub_cancel->Cf,mul_le_mul_left->Ci,zero_add->Cj,exists_testBit_of_ne_zero->CJ,lt_trichotomy->CN,testBit_two_pow_mul_add->CU
open Bk renaming mk->Av,cells->AG,kd->AI,ty->A8,sz->A9,arr->Bi,fz->Bx
open _root_.Option renaming some->Aw,none->A1,getD_some->B1
open Value renaming int->Ax,string->Cr
open Kd renaming plain->Az,isMap->A4,isSh->A5
open IntKind renaming u32->AA,i64->AX,wrap->A6
open _root_.Prod renaming fst->AD,snd->AK
open _root_.BitVec renaming ofInt->AH,toNat->Bh
open Lib renaming compact->Bf,keeps->BA,compareBytes->BM,compactUpTo->CE
open _root_.ByteArray renaming size->Bg,data->Cu
open _root_.Classical renaming byContradiction->BH,propDecidable->BI
open Va renaming mk->BJ
open Cs renaming desc->BN
open _root_.Array renaming getD->Cb
open _root_.UInt8 renaming lt_iff_toNat_lt->Cc,toNat->Ct
open TypeInfo renaming desc->Co,mk->Cp
open TypeDesc renaming int->Cq
section
open Go.RowKit
attribute [local irreducible] seqW awp zV zY zR Weak updS zZ retL Pure Acts rP setP setQ cP nP fr
set_option maxRecDepth 4096
theorem zJi(l:List (Fa Bool)):(l.flatMap zAd).length=l.length*3:=zDc zAx l
theorem zX4(v:Nat)(fs:List (Fa Bool))(k:Nat)(h:k<fs.length):zGi v (fs.take (k+1))=zGi v (fs.take k)++(if v∈(fs.getD k Af).A then[fs.getD k Af]else[])/\zEz v (fs.take (k+1))=zEz v (fs.take k)++(if v∈(fs.getD k Af).A then[]else[fs.getD k Af]):=by
 rw[zAs fs k h];unfold zGi zEz;rw[BB,BB];constructor<;>congr 1<;>by_cases hc:v∈(fs.getD k Af).A<;>simp[Bq,hc]
theorem zP4(l:List (Fa Bool))(f:Fa Bool):(l++[f]).flatMap zAd=l.flatMap zAd++zAd f:=by simp
section
variable {Dm : List Va}
set_option maxHeartbeats 8000000 in
theorem zSa(hD:Okv Dm)(fs:List (Fa Bool))(v:Nat)(hf:∀f∈fs,FOk rcmp Dm f)(hl:fs.length<=500)(hr:pz rz fs<=900000)(hz:pz bz fs<=Bz)(hv:∃f∈fs,v∈f.A)(hv32:v<32):
  Pure Al 91 [booD, .row (fs.flatMap zAd) fs.length,iD (v:Nat)] [] (.row ((elim rcmp Sb v fs).flatMap zAd) (elim rcmp Sb v fs).length):=by
 have hg:∀f∈fs,GofB Dm f:=λf h=>⟨hf f h,AE (zWh zLe h) hr,AE (zWh zMn h) hz⟩;refine zH zY8 mixed Tryz.func91 rfl<|zB<|zA rfl<|v0s<|veT<|zB<|zA rfl<|veT<|zB<|zB<|zA rfl<|veT<|zG<|zBd (λ(k:Nat)(a:List (Fa Bool))(b:List (Fa Bool))=>fr 65 [(0,booD),(2,iD (v:Int)),(6,nl),(7,Ak 0 0 (Aa a) (Aa a*3) Ab),(8,Ak 1 0 (Aa b) (Aa b*3) Ab),(14,Ae (Ah zAd fs)<|Aa fs),(15,iD (Aa fs:Int)),(16,iD (k:Int))]) (λ(k:Nat)(a:List (Fa Bool))(b:List (Fa Bool))=>[fsBB<|a.flatMap zAd,fsBB<|b.flatMap zAd]) (λk a b=>fs.length-k) (λ(k:Nat)(a:List (Fa Bool))(b:List (Fa Bool))=>k<=fs.length/\a=zGi v (fs.take k)/\b=zEz v (fs.take k)) 0 [] [] ?_ ?_ ?_
 ·exact⟨by omega,rfl,rfl⟩
 ·refine vk 0
 rintro k a b ⟨h1,ha,hb⟩;rcases Ap k fs.length with h2|h2
 ·have hmf:=zAc fs Af k h2;have hg2:=zJx zAx fs k h2;have hle:=zD2 zAx fs k h2;have hne2:=zD1 zAx (by decide) fs;have hAf:=(hf _ hmf).asc;have nAf:=zB0 hAf;have sA:=zJg (fs.getD k Af).A _ rfl (by omega) hAf.2 (zAh (fs.getD k Af).l) (zAp (fs.getD k Af).l) (fs.getD k Af).l.length (fs.getD k Af).l.length;have hma:=zDb hAf.2;have w1:=zSp hma v;have w2:=bit_w hma v;rw[zBu]at w1 w2;have w3:=zEu (msk (fs.getD k Af).A) hv32;obtain⟨u1,u2⟩:=zX4 v fs k h2;rw[<-ha]at u1;rw[<-hb]at u2;have la:a.length<=500:=by rw[ha];exact AE (Bv _ _) (by simp;omega)
  have lb:b.length<=500:=by rw[hb];exact AE (Bv _ _) (by simp;omega)
  have ca:=zJi a;have cb:=zJi b;generalize fs.getD k Af=f at*;focus
   refine zB<|zA rfl<|v0s<|veT<|zB<|vT ((k:Int)<(Aa fs:Int))<|zK<|zC<|zD<|zB<|zG<|zB<|zA rfl<|vr 2 (ix (k:Int) (Aa fs:Int) (Ah zAd fs≠[])/\3<=Aa (Ag (k*3)<|Ah zAd fs))<|vs 19 (Aq<|Ai 3<|Ag (k*3)<|Ah zAd fs) (Aq<|zAd f) (hd:=by simp(disch:=omega) only[hg2])<|ve (Ac=Ac/\Ab=Ab/\3=3/\3<=3)<|zB<|zA rfl<|vr 1 (3<=3)<|vc (sA)<|vr 2 ((0:Int)<=(v:Int))<|vs 23 (Ay<|Ax AA<|Int.fdiv (↑(msk<|Fa.A f):Int) ((2:Int)^min (Aj (v:Int)) 32)) (dig (msk (Fa.A f)>>>v)) (hd:=by simp(disch:=omega) only[Au,w3])<|vrT 1<|vs 24 (Ay<|Ax AA<|A6 AA (↑(Bh (AH 32 (↑(msk (Fa.A f)>>>v):Int)&&&AH 32 (1:Int))):Int)) (dig<|Bh (AH 32 (↑(msk (Fa.A f)>>>v):Int)&&&AH 32 (1:Int))) (hd:=by simp(disch:=omega) only[zA1])<|vrT 1<|vs 25 (bD ((↑(Bh (AH 32 (↑(msk (Fa.A f)>>>v):Int)&&&AH 32 (1:Int))):Int)==(1:Int))) (bD<|decide (v∈Fa.A f)) (hd:=by simp(disch:=omega) only[w1])<|veT<|vcD (v∈Fa.A f) (λhc=>?_)<|λhc=>?_;refine zA rfl<|vr 5 (3<=3/\((3=3/\3<=3/\True)/\0<3/\3=3/\3<=16777216/\1<=9223372036854775807)/\Bi (fsBB<|Ah zAd a)=Ab/\Aa (AG<|fsBB<|Ah zAd a)=Aa a*3/\Aa a*3=Aa a*3/\A8 (fsBB<|Ah zAd a)=133/\A9 (fsBB<|Ah zAd a)=3/\3=3/\0<3/\0<72/\133=133/\(Aa a+1)*72<=140737488355328/\3=3/\A4 (AI<|fsBB<|Ah zAd a)=Ac/\(Ac=Ac\/A5 (AI<|fsBB<|Ah zAd a)=Ab))<|vnil<|zE<|zC<|zD<|zA rfl<|vr 2 (i6 ((k:Int)+(1:Int)))<|vnil<|zC ?_;rotate_left;refine zA rfl<|vr 5 (3<=3/\((3=3/\3<=3/\True)/\0<3/\3=3/\3<=16777216/\1<=9223372036854775807)/\Bi (fsBB<|Ah zAd b)=Ab/\Aa (AG<|fsBB<|Ah zAd b)=Aa b*3/\Aa b*3=Aa b*3/\A8 (fsBB<|Ah zAd b)=133/\A9 (fsBB<|Ah zAd b)=3/\3=3/\0<3/\0<72/\133=133/\(Aa b+1)*72<=140737488355328/\3=3/\A4 (AI<|fsBB<|Ah zAd b)=Ac/\(Ac=Ac\/A5 (AI<|fsBB<|Ah zAd b)=Ab))<|vnil<|zE<|zC<|zD<|zA rfl<|vr 2 (i6 ((k:Int)+(1:Int)))<|vnil<|zC ?_;rotate_left
  ·rw[if_pos hc]at u1 u2;rw[Ce]at u2;refine⟨k+1,a++[f],b,⟨by omega,u1.symm,u2.symm⟩,by omega,?_⟩;rw[zP4,zLx];refine vk 2
  rw[if_neg hc]at u1 u2;rw[Ce]at u1;refine⟨k+1,a,b++[f],⟨by omega,u1.symm,u2.symm⟩,by omega,?_⟩;rw[zP4,zLx];refine vk 2
 rw[AQ (by omega)]at ha hb;have hperm:=zD6 v fs;rw[<-ha,<-hb]at hperm;have hpr:=zTd rz hperm;have hpv:=zTd bz hperm;have hmem:=λf=>hperm.mem_iff (a:=f);have hvin:∀f∈a,v∈f.A:=λf h=>by
  rw[ha,zGi,AL]at h;simpa using h.2
 have hlen:=hperm.length_eq;rw[AV]at hlen;cases a with
 |nil=>
  exfalso;obtain⟨f,h5,h6⟩:=hv;have:f∈zGi v fs:=AL.2 ⟨h5,by simpa using h6⟩;rw[<-ha]at this;simp at this
 | cons p ws=>
  have hel:elim rcmp Sb v fs=b++[fsum rcmp Sb v (zC3 rcmp Sb p ws b)]:=by
   unfold elim;rw[<-ha,<-hb]
  rw[hel];clear hel ha hb hv;have h0:((p::ws).flatMap zAd).take 3=zAd p:=rfl;have hfa:=zEm zAx (p::ws) (ws.length+1) rfl;have hfb:=zEm zAx b _ rfl;refine zB<|zA rfl<|v0s<|veT<|zB<|vF ((k:Int)<(Aa fs:Int))<|zS<|zM<|zM<|zQ rfl<|zC<|zD<|zB<|zA rfl<|vr 5 (((0:Int)<=(0:Int)/\(0:Int)<(↑(Aa ws+1):Int))/\3<=Aa (Ag 0<|AG<|fsBB<|Ah zAd (p::ws))/\Ac=Ac/\Ab=Ab/\3=3/\3<=3)<|vnil<|zC<|vnn (fr 65 [(0,booD),(2,iD (v:Int)),(6,nl),(7,Ak 0 0 (Aa (p::ws)) (Aa (p::ws)*3) Ab),(8,Ak 1 0 (Aa b) (Aa b*3) Ab),(11,AC 2 0),(14,Ae (Ah zAd fs)<|Aa fs),(15,iD (Aa fs:Int)),(16,iD (k:Int)),(17,bD<|decide ((k:Int)<(Aa fs:Int))),(35,Ak 0 0 (Aa ws+1) ((Aa ws+1)*3) Ab),(36,AC 0 0),(37,Aq [Ae (nsD<|Fa.A p)<|Aa<|Fa.A p,Ae (zAh<|Fa.l p)<|Aa<|Fa.l p,Ae (zAp<|Fa.l p)<|Aa<|Fa.l p])]) [fsBB<|Ah zAd (p::ws),fsBB<|Ah zAd b,Av [Ae (nsD<|Fa.A p)<|Aa<|Fa.A p,Ae (zAh<|Fa.l p)<|Aa<|Fa.l p,Ae (zAp<|Fa.l p)<|Aa<|Fa.l p] 133 0 Ac Ac Az] ?_;clear h1 h2 hperm;refine zCc (((Weak.osr (s:=7) (k:=0) (off:=0) (n:=ws.length+1) (m:=(ws.length+1)*3) (wh:=Ab) (cs:=(p::ws).flatMap zAd) (by kernel_rfl) (by exact(show Aw (Ae ((((p::ws).flatMap zAd).drop 0).take ((ws.length+1)*3)) (ws.length+1),[0])=_ by rw[AJ,hfa]))).trans (Weak.osr (s:=8) (k:=1) (off:=0) (n:=b.length) (m:=b.length*3) (wh:=Ab) (cs:=b.flatMap zAd) (by kernel_rfl) (by exact(show Aw (Ae (((b.flatMap zAd).drop 0).take (b.length*3)) b.length,[1])=_ by rw[AJ,hfb])))).trans<|Weak.leS (s:=7) (d':= .row ((p::ws).flatMap zAd) (ws.length+1)) (by kernel_rfl)<|LeD.osr_row 0 0 (ws.length+1) ((ws.length+1)*3) Ab<|(p::ws).flatMap zAd) ?_;have hs1:((p::ws).flatMap zAd).drop 3=ws.flatMap zAd:=rfl;have hs2:(ws.flatMap zAd).take (ws.length*3)=ws.flatMap zAd:=zEm zAx ws _ rfl;have hwl:ws.length<=500:=by simp only[AR]at hlen;omega
  refine zB<|zB<|zA rfl<|v0s<|vr 2 ((0:Int)<=(1:Int)/\True/\True/\0<3/\1<=Aa ws+1/\Aa ws+1<=Aa ws+1/\Aa ws+1=Aa ws+1)<|vs 39 (Ae (Ai ((Aa ws+1-1)*3)<|Ag 3<|Ah zAd (p::ws)) (Aa ws+1-1)) (Ae (Ah zAd ws)<|Aa ws) (hd:=by simp(disch:=omega) only[Cf,hs1,hs2])<|veT<|zG ?_;have hp1:=hf p ((hmem p).1 (by simp));have hws:∀f∈ws,f∈fs:=λf h=>(hmem f).1 (BZ _ (Bj _ h));have hbs:∀f∈b,f∈fs:=λf h=>(hmem f).1 (Cg _ h);have b1:rz p*pz rz ws<=900000:=by
   rw[zRa,zCl]at hpr;exact AE (Bw _ (zJs zLe b)) (by omega)
  have b2:bz p*pz bz ws<=Bz:=by
   rw[zRa,zCl]at hpv;exact AE (Bw _ (zJs zMn b)) (by omega)
  refine zBd (λ(t:Nat)(A:List Nat)(l:List (Rw×Bool))=>fr 65 [(0,booD),(2,iD (v:Int)),(6,nl),(7,Ae (Ah zAd (p::ws)) (Aa ws+1)),(8,D.osr 1 0 (Aa b) (Aa b*3) Ab<|Ah zAd b),(11,AC 2 0),(39,Ae (Ah zAd ws)<|Aa ws),(40,iD (Aa ws:Int)),(41,iD (t:Int))]) (λ(t:Nat)(A:List Nat)(l:List (Rw×Bool))=>[⟨(p::ws).flatMap zAd,133,3,Ab,Ab,.plain⟩,⟨b.flatMap zAd,133,3,Ab,Ab,.plain⟩,fB1B (.row (nsD A) A.length) (.row (zAh l) l.length)<|.row (zAp l) l.length]) (λt A l=>ws.length-t) (λ(t:Nat)(A:List Nat)(l:List (Rw×Bool))=>t<=ws.length/\zC3 rcmp Sb ⟨A,l⟩ (ws.drop t) b=zC3 rcmp Sb p ws b/\FOk rcmp Dm ⟨A,l⟩/\rz (⟨A,l⟩:Fa Bool)*pz rz (ws.drop t)<=900000/\bz (⟨A,l⟩:Fa Bool)*pz bz (ws.drop t)<=Bz/\v∈A) 0 p.A p.l ?_ ?_ ?_
  ·exact⟨by omega,rfl,hp1,b1,b2,hvin p (by simp)⟩
  ·refine vk 3
  rintro t A l ⟨t1,t2,t3,t4,t5,t6⟩;rcases Ap t ws.length with t7|t7
  ·have hmf:=zAc ws Af t t7;have hg2:=zJx zAx ws t t7;have hle:=zD2 zAx ws t t7;have hne2:=zD1 zAx (by decide) ws;have hdr:ws.drop t=ws.getD t Af::ws.drop (t+1):=by
    rw[BK t7,Ao,Ar t7];rfl
   rw[hdr]at t2 t4 t5;rw[zCl,<-Nat.mul_assoc]at t4 t5;have q1:rz (⟨A,l⟩:Fa Bool)*rz (ws.getD t Af)<=900000:=AE (Bw _ (zJs zLe _)) t4;have q2:bz (⟨A,l⟩:Fa Bool)*bz (ws.getD t Af)<=Bz:=AE (Bw _ (zJs zMn _)) t5;have gA:GofB Dm ⟨A,l⟩:=⟨t3,AE (Bw _ (zLe _)) q1,AE (Bw _ (zMn _)) q2⟩;have hmul:=zJw hD ⟨A,l⟩ (ws.getD t Af) (ws.drop (t+1)++b) gA (hg _ (hws _ hmf)) (λo ho=>by
    rcases Br.1 ho with h|h
    ·exact hg _ (hws _ (Cv h))
    exact hg _ (hbs _ h)) (by rw[AV,Bn];simp only[AR]at hlen;omega) q1
   have r1:=zTv (c:=rcmp) Sb ⟨A,l⟩ (ws.getD t Af) (ws.drop (t+1)++b);have r2:=zTw (c:=rcmp) ⟨A,l⟩ (ws.getD t Af) (ws.drop (t+1)++b);have r3:=zP0 (S:=Sb) rcw t3 (hf _ (hws _ hmf)) (ws.drop (t+1)++b);have r4:=AE (B0 (pz rz (ws.drop (t+1))) r1) t4;have r5:=AE (B0 (pz bz (ws.drop (t+1))) r2) t5;have r6:v∈(fmul rcmp Sb ⟨A,l⟩ (ws.getD t Af) (ws.drop (t+1)++b)).A:=zFf.2 ⟨hv32, .inl t6⟩;rw[zC3]at t2;have hcc:=concat_cB ((ws.drop (t+1)).flatMap zAd) (b.flatMap zAd) (ws.drop (t+1)).length b.length (zJi _) (zJi _) (by rw[Bn];simp only[AR]at hlen;omega) (by simp only[AR]at hlen;omega) (λ_ _=>trivial);rw[<-BL,<-AV]at hcc;have hsl:((p::ws).flatMap zAd).drop ((t+2)*3)=(ws.drop (t+1)).flatMap zAd:=by
    rw[zTy zAx];rfl
   have hsn:ws.length+1-(t+2)=(ws.drop (t+1)).length:=by rw[Bn];omega
   have hst:=zEm zAx (ws.drop (t+1)) _ rfl;generalize ws.getD t Af=f at*;generalize fmul rcmp Sb ⟨A,l⟩ f (ws.drop (t+1)++b)=q at*;obtain⟨A',l'⟩:=q;have cast2:(t:Int)+2=((t+2:Nat):Int):=by omega
   refine zB<|zA rfl<|v0s<|veT<|zB<|vT ((t:Int)<(Aa ws:Int))<|zK<|zC<|zD<|zB<|zG<|zB<|zA rfl<|vr 3 (ix (t:Int) (Aa ws:Int) (Ah zAd ws≠[])/\3<=Aa (Ag (t*3)<|Ah zAd ws))<|vs 45 (Aq<|Ai 3<|Ag (t*3)<|Ah zAd ws) (Aq<|zAd f) (hd:=by simp(disch:=omega) only[hg2])<|ve (Ac=Ac/\Ab=Ab/\3=3/\3<=3)<|vd [0,3,4,5,6,7,1,2,8,9,10,11]<|vr 5 (i6 ((t:Int)+(2:Int))/\(0:Int)<=(↑(t+2):Int)/\True/\True/\0<3/\Aj (↑(t+2):Int)<=Aa ws+1/\Aa ws+1<=Aa ws+1/\Aa ws+1=Aa ws+1)<|vs 52 (Ae (Ai ((Aa ws+1-Aj (↑(t+2):Int))*3)<|Ag (Aj (↑(t+2):Int)*3)<|Ah zAd (p::ws)) (Aa ws+1-Aj (↑(t+2):Int))) (Ae (Ah zAd<|Ag (t+1) ws)<|Aa<|Ag (t+1) ws) (hd:=by simp(disch:=omega) only[Au,hst,hsl,hsn])<|vr 4 (3<=3/\3<=3/\(1=1/\1<=2/\1=1/\2<=2/\True)/\0<1/\1=1/\2<=16777216/\2<=9223372036854775807)<|vc (hcc)<|vc (hmul)<|vr 1 (Bx (fB1B (Ae (nsD A)<|Aa A) (Ae (zAh l)<|Aa l)<|Ae (zAp l)<|Aa l)=Ac/\Ab=Ab/\3=3/\3<=3)<|vnil<|zE<|zC<|zD<|zA rfl<|vr 2 (i6 ((t:Int)+(1:Int)))<|vnil<|zC<|⟨t+1,A',l',⟨by omega,t2,r3,r4,r5,r6⟩,by omega,?_⟩;refine vk 3
  rw[List.drop_of_length_le t7]at t2 t4 t5;simp only[pz,List.foldr_nil,A_,zC3]at t2 t4 t5;have hsum:=zX8 hD ⟨A,l⟩ ⟨t3,t4,t5⟩ v t6;rw[<-t2,zP4,zLx];have cb:=zJi b;generalize fsum rcmp Sb v ⟨A,l⟩=q at*;obtain⟨A',l'⟩:=q;have ht:(b.flatMap zAd++zAd ⟨A',l'⟩).take ((b.length+1)*3)=b.flatMap zAd++zAd ⟨A',l'⟩:=AQ (by rw[AV,cb];show _+3<=_;omega);refine zB<|zA rfl<|v0s<|veT<|zB<|vF ((t:Int)<(Aa ws:Int))<|zS<|zM<|zM<|zQ rfl<|zC<|zD<|zB<|zA rfl<|vr 4 (3<=3)<|vc (hsum)<|ve (((3=3/\3<=3/\True)/\0<3/\3=3/\3<=16777216/\1<=9223372036854775807)/\Bi (Av (Ah zAd b) 133 3 Ab Ab Az)=Ab/\Aa (Ah zAd b)=Aa b*3/\Aa b*3=Aa b*3/\A8 (Av (Ah zAd b) 133 3 Ab Ab Az)=133/\A9 (Av (Ah zAd b) 133 3 Ab Ab Az)=3/\3=3/\0<3/\0<72/\133=133/\(Aa b+1)*72<=140737488355328/\3=3/\A4 (AI<|Av (Ah zAd b) 133 3 Ab Ab Az)=Ac/\(Ac=Ac\/A5 (AI<|Av (Ah zAd b) 133 3 Ab Ab Az)=Ab))<|zJ<|zAu (True) (Ae (Ai ((Aa b+1)*3)<|Ag 0 (Ah zAd b++[Ae (nsD A')<|Aa A',Ae (zAh l')<|Aa l',Ae (zAp l')<|Aa l'])) (Aa b+1)) (Ae (Ah zAd b++zAd (Fa.mk A' l')) (Aa b+1)) (.inr rfl) (by simp(disch:=omega) only[AJ,ht]) rfl
end
section
variable {Dm : List Va}
set_option maxHeartbeats 8000000 in
theorem zTk(hD:Okv Dm)(hDn:Dm.Nodup)(n keep:Nat)(fs:List (Fa Bool))(hn:n<=8)(hk:keep<4294967296)(hf:∀f∈fs,FOk rcmp Dm f)(hl:fs.length<=500)(hr:2*pz rz fs<=900000)(hz:2*pz bz fs<=Bz)
  (hcv:∀v,v<n->∃f∈fs,v∈f.A)(hck:Pure Al 88 [iD (n:Nat),u32D keep, .row (fs.flatMap zAd) fs.length] [] (iD 0)):
  Pure Al 69 [booD,iD (n:Nat),u32D keep, .row (fs.flatMap zAd) fs.length] [] (.tup [faAB (zE4 popN rcmp Sb fs ((As n).filter λv=>!keep.testBit v)),iD 0]):=by
 have hcl:=cloneF_cB (fs.flatMap zAd) fs.length (zJi fs) (by omega);have w2:=zC6 (v:=n) (by omega);have h2n:2^n<=256:=Bo (n:=2) (by omega) hn;have h1n:=Nat.one_le_two_pow (n:=n);have w3:((2^n:Nat):Int)-1=((2^n-1:Nat):Int):=by omega
 have w4:=zAy (n:=2^n-1) (by omega);have w5:=an_keep (n:=n) (by omega) hk;have hEa:Asc ((As n).filter λv=>!keep.testBit v):=⟨(List.pairwise_lt_range (n:=n)).filter _,λv hv=>by have:=(AL.1 hv).1;simp at this;omega⟩;have hEc:∀v∈(As n).filter (λv=>!keep.testBit v),∃f∈fs,v∈f.A:=λv hv=>hcv v (by have:=(AL.1 hv).1;simpa using this);generalize (As n).filter (λv=>!keep.testBit v)=E at*;have w6:=zAy (zDb hEa.2);refine zH (T:=Tc) (zVt _ _ _) mixed Tryz.func69 rfl<|zB<|zA rfl<|v0s<|veT<|zB<|zB<|zA rfl<|vrT 3<|vc (hck)<|veT<|zB<|zA rfl<|veT<|vf<|zK<|zC<|zD<|zB<|zA rfl<|vrT 1<|vc (hcl)<|veT<|zB<|zB<|zA rfl<|vr 2 ((0:Int)<=(n:Int))<|vs 28 (Ay<|Ax AA<|A6 AA ((1:Int)*(2:Int)^min (Aj (n:Int)) 32)) (dig ((2:Nat)^n)) (hd:=by simp(disch:=omega) only[Au,w2])<|vr 1 (u3 ((↑((2:Nat)^n):Int)-(1:Int)))<|vs 29 (Ay<|Ax AA ((↑((2:Nat)^n):Int)-(1:Int))) (dig ((2:Nat)^n-1)) (hd:=by simp(disch:=omega) only[w3])<|vrT 2<|vs 31 (Ay<|Ax AA<|A6 AA (↑(Bh (AH 32 (↑((2:Nat)^n-1):Int)&&&~~~AH 32 (keep:Int))):Int)) (dig<|msk E) (hd:=by simp(disch:=omega) only[w5,w6])<|veT<|zG<|zBd (λ(i:Nat)(L:List (Fa Bool))(F:List Nat)=>fr 68 [(0,booD),(8,AC 0 0),(9,iD 0),(11,Ae (Ah zAd L)<|Aa L),(12,u32D<|msk F)]) (λ(i:Nat)(L:List (Fa Bool))(F:List Nat)=>[fB1B nl nl nl]) (λi L F=>i) (λ(i:Nat)(L:List (Fa Bool))(F:List Nat)=>i=F.length/\Asc F/\(∀v∈F,∃f∈L,v∈f.A)/\(∀f∈L,FOk rcmp Dm f)/\L.length<=500/\2*pz rz L<=900000/\2*pz bz L<=Bz/\zGb popN rcmp Sb F.length L F=zGb popN rcmp Sb E.length fs E) E.length fs E ?_ ?_ ?_
 ·exact⟨rfl,hEa,hEc,hf,hl,hr,hz,rfl⟩
 ·refine vk 1
 rintro i L F ⟨rfl,f1,f2,f3,f4,f5,f6,f7⟩;by_cases hF:F=[]
 ·subst hF;have hL:zGb popN rcmp Sb E.length fs E=L:=f7.symm;have hres:zE4 popN rcmp Sb fs E=zC3 rcmp Sb (zJ3 Sb) L []:=by unfold zE4;rw[hL]
  rw[hres];have m0:msk []=0:=rfl;rw[m0];obtain⟨o,ho⟩:∃o:Bool,o=true:=⟨_,rfl⟩;refine zB<|zB<|zA rfl<|v0s<|veT<|vf<|zS<|zM<|zM<|zQ rfl<|zC<|zD<|zB<|zA rfl<|vr 3 ((True/\0<3/\3=3/\0<=16777216/\0<=9223372036854775807)/\(1=1/\1<=1/\True)/\0<1/\1=1/\1<=16777216/\1<=9223372036854775807)<|vc (bone_c o ho)<|vr 4 (((1=1/\1<=1/\True)/\0<1/\1=1/\1<=16777216/\1<=9223372036854775807)/\((1=1/\2<=3/\1=1/\3<=3/\True)/\Ab=Ab)/\Ac=Ac/\Ab=Ab/\3=3/\3<=3)<|vnil<|zC<|vnn (fr 68 [(0,booD),(8,AC 0 0),(9,iD 0),(11,Ae (Ah zAd L)<|Aa L),(12,u32D 0),(14,AC 4 0),(33,bD Ac),(45,Ak 1 0 0 0 Ab),(46,Ak 2 0 1 1 Ab),(47,D.ifc 129<|Aq []),(48,bD o),(49,Ak 3 0 1 1 Ab),(50,Aq [nl,Ak 2 0 1 1 Ab,Ak 3 0 1 1 Ab])]) [fB1B nl nl nl,Av [] 73 3 Ab Ab Az,Av [Ae [] 0] 29 1 Ab Ac Az,Av [bD o] 4 1 Ab Ac Az,Av [nl,Ak 2 0 1 1 Ab,Ak 3 0 1 1 Ab] 133 0 Ac Ac Az] ?_;clear hck hcl hcv hEa hEc w5 w6 f1 f2 f7 hL hres;refine zCc ((Weak.fzCell (j:=4) (i:=1) (d:= .osl 2 0 1 1 Ab) (x:= .row [.row [] 0] 1) (ks:=[2]) rfl rfl rfl rfl (by exact rfl) (by decide)).trans<|(Weak.fzCell (j:=4) (i:=2) (d:= .osl 3 0 1 1 Ab) (x:= .row [bD o] 1) (ks:=[3]) rfl rfl rfl rfl (by exact rfl) (by decide)).trans<|Weak.leC (j:=4) (i:=0) (d':= .row [] 0) rfl rfl rfl LeD.nil_row) ?_;refine zB<|zB<|zA rfl<|v0s<|veT<|zG ?_;have hu:(zJ3 Sb:Fa Bool)=⟨[],[([],o)]⟩:=by rw[ho];rfl
  have hU:FOk rcmp Dm (⟨[],[([],o)]⟩:Fa Bool):=hu▸zS3;have u1:rz (⟨[],[([],o)]⟩:Fa Bool)=2:=rfl;have u2:bz (⟨[],[([],o)]⟩:Fa Bool)<=2:=by rw[ho];decide
  rw[hu];refine zBd (λ(t:Nat)(A:List Nat)(l:List (Rw×Bool))=>fr 68 [(0,booD),(8,AC 0 0),(9,iD 0),(11,Ae (Ah zAd L)<|Aa L),(14,AC 4 0),(51,Ae (Ah zAd L)<|Aa L),(52,iD (Aa L:Int)),(53,iD (t:Int))]) (λ(t:Nat)(A:List Nat)(l:List (Rw×Bool))=>[fB1B nl nl nl,⟨[],73,3,Ab,Ab,.plain⟩,⟨[.row [] 0],29,1,Ab,Ab,.plain⟩,⟨[bD o],4,1,Ab,Ab,.plain⟩,fB1B (.row (nsD A) A.length) (.row (zAh l) l.length)<|.row (zAp l) l.length]) (λt A l=>L.length-t) (λ(t:Nat)(A:List Nat)(l:List (Rw×Bool))=>t<=L.length/\zC3 rcmp Sb ⟨A,l⟩ (L.drop t) []=zC3 rcmp Sb ⟨[],[([],o)]⟩ L []/\FOk rcmp Dm ⟨A,l⟩/\rz (⟨A,l⟩:Fa Bool)*pz rz (L.drop t)<=900000/\bz (⟨A,l⟩:Fa Bool)*pz bz (L.drop t)<=Bz) 0 [] [([],o)] ?_ ?_ ?_
  ·exact⟨by omega,rfl,hU,by rw[u1];exact f5,AE (B0 _ u2) f6⟩
  ·refine vk 5
  rintro t A l ⟨t1,t2,t3,t4,t5⟩;rcases Ap t L.length with t7|t7
  ·have hmf:=zAc L Af t t7;have hg2:=zJx zAx L t t7;have hle:=zD2 zAx L t t7;have hne2:=zD1 zAx (by decide) L;have hdr:L.drop t=L.getD t Af::L.drop (t+1):=by
    rw[BK t7,Ao,Ar t7];rfl
   rw[hdr]at t2 t4 t5;rw[zCl,<-Nat.mul_assoc]at t4 t5;have q1:rz (⟨A,l⟩:Fa Bool)*rz (L.getD t Af)<=900000:=AE (Bw _ (zJs zLe _)) t4;have q2:bz (⟨A,l⟩:Fa Bool)*bz (L.getD t Af)<=Bz:=AE (Bw _ (zJs zMn _)) t5;have gA:GofB Dm ⟨A,l⟩:=⟨t3,AE (Bw _ (zLe _)) q1,AE (Bw _ (zMn _)) q2⟩;have hg:∀f∈L,GofB Dm f:=λf h=>⟨f3 f h,AE (zWh zLe h) (by omega),AE (zWh zMn h) (by omega)⟩;have hmul:=zJw hD ⟨A,l⟩ (L.getD t Af) (L.drop (t+1)) gA (hg _ hmf) (λo ho=>hg _ (Cv ho)) (by rw[Bn];omega) q1;have r1:=zTv (c:=rcmp) Sb ⟨A,l⟩ (L.getD t Af) (L.drop (t+1));have r2:=zTw (c:=rcmp) ⟨A,l⟩ (L.getD t Af) (L.drop (t+1));have r3:=zP0 (S:=Sb) rcw t3 (f3 _ hmf) (L.drop (t+1));have r4:=AE (B0 (pz rz (L.drop (t+1))) r1) t4;have r5:=AE (B0 (pz bz (L.drop (t+1))) r2) t5;rw[zC3,Ce]at t2;have hsl:(L.flatMap zAd).drop ((t+1)*3)=(L.drop (t+1)).flatMap zAd:=zTy zAx L (t+1);have hsn:L.length-(t+1)=(L.drop (t+1)).length:=by rw[Bn]
   have hst:=zEm zAx (L.drop (t+1)) _ rfl;generalize L.getD t Af=f at*;generalize fmul rcmp Sb ⟨A,l⟩ f (L.drop (t+1))=q at*;obtain⟨A',l'⟩:=q;refine zB<|zA rfl<|v0s<|veT<|zB<|vT ((t:Int)<(Aa L:Int))<|zK<|zC<|zD<|zB<|zG<|zB<|zA rfl<|vr 3 (ix (t:Int) (Aa L:Int) (Ah zAd L≠[])/\3<=Aa (Ag (t*3)<|Ah zAd L))<|vs 57 (Aq<|Ai 3<|Ag (t*3)<|Ah zAd L) (Aq<|zAd f) (hd:=by simp(disch:=omega) only[hg2])<|ve (Ac=Ac/\Ab=Ab/\3=3/\3<=3)<|vd [0,3,4,5,6,1,2,7,8]<|vr 5 (i6 ((t:Int)+(1:Int))/\(0:Int)<=(↑(t+1):Int)/\True/\True/\0<3/\Aj (↑(t+1):Int)<=Aa L/\Aa L<=Aa L/\Aa L=Aa L)<|vs 64 (Ae (Ai ((Aa L-Aj (↑(t+1):Int))*3)<|Ag (Aj (↑(t+1):Int)*3)<|Ah zAd L) (Aa L-Aj (↑(t+1):Int))) (Ae (Ah zAd<|Ag (t+1) L)<|Aa<|Ag (t+1) L) (hd:=by simp(disch:=omega) only[Au,hsl,hsn,hst])<|vr 2 (3<=3/\3<=3)<|vc (hmul)<|vr 1 (Bx (fB1B (Ae (nsD A)<|Aa A) (Ae (zAh l)<|Aa l)<|Ae (zAp l)<|Aa l)=Ac/\Ab=Ab/\3=3/\3<=3)<|vnil<|zE<|zC<|zD<|zA rfl<|vr 2 (i6 ((t:Int)+(1:Int)))<|vnil<|zC<|⟨t+1,A',l',⟨by omega,t2,r3,r4,r5⟩,by omega,?_⟩;refine vk 5
  rw[List.drop_of_length_le t7]at t2;simp only[zC3]at t2;rw[<-t2];refine zB<|zA rfl<|v0s<|veT<|zB<|vF ((t:Int)<(Aa L:Int))<|zS<|zM<|zM<|zQ rfl<|zC<|zD<|zB<|zA rfl<|ve (3<=3/\Ac=Ac/\Ab=Ab/\3=3/\3<=3)<|zJ<|vret (3<=3)<|.inr rfl
 have hm:=zMl popN L hF;have hch:=zVh L F f1 hF (λf h=>(f3 f h).asc) (by omega);have hv32:=f1.2 _ hm.1;have hel:=zSa hD L (zBw popN L F) f3 f4 (by omega) (by omega) (f2 _ hm.1) hv32;have hmn:=msk_ne hF;have x1:=zC6 hv32;have x2:=an_less f1 hv32;have x3:=zAy (zDb (zPs f1 (zBw popN L F)).2);have hz1:=elim_z (c:=rcmp) (S:=Sb) (z:=rz) (zTv Sb) (fsum_rz Sb) (zBw popN L F) L;have hz2:=elim_z (c:=rcmp) (S:=Sb) (z:=bz) zTw fsum_bz (zBw popN L F) L;have hlen:=elim_len (c:=rcmp) (S:=Sb) (zBw popN L F) L;have hA:=elim_A (c:=rcmp) (S:=Sb) (fs:=L) (λf h=>(f3 f h).asc.2) (zBw popN L F);have hok:=elim_ok (S:=Sb) rcw f3 (zBw popN L F);have hll:=zW0 f1.nd hm.1;have hla:=zPs f1 (zBw popN L F);have hmg:zGb popN rcmp Sb F.length L F=zGb popN rcmp Sb (less F (zBw popN L F)).length (elim rcmp Sb (zBw popN L F) L) (less F (zBw popN L F)):=by
  rw[<-hll];rfl
 have hcm:=hm.1;generalize zBw popN L F=v at*;generalize elim rcmp Sb v L=L' at*;refine zB<|zB<|zA rfl<|v0s<|veT<|zDo (t:=(↑(msk F):Int)!=(0:Int)) (by kernel_rfl) (by simpa using by omega)<|zK<|zC<|zD<|zG<|zB<|zA rfl<|vrT 2<|vc (hch)<|veT<|zB<|zA rfl<|vrT 3<|vc (hel)<|veT<|zA rfl<|vr 3 ((0:Int)<=(v:Int))<|vs 43 (Ay<|Ax AA<|A6 AA ((1:Int)*(2:Int)^min (Aj (v:Int)) 32)) (dig ((2:Nat)^v)) (hd:=by simp(disch:=omega) only[Au,x1])<|vrT 1<|vs 44 (Ay<|Ax AA<|A6 AA (↑(Bh (AH 32 (↑(msk F):Int)&&&~~~AH 32 (↑((2:Nat)^v):Int))):Int)) (dig<|msk<|less F v) (hd:=by simp(disch:=omega) only[x3,x2])<|vrT 1<|vnil<|zE<|zC<|⟨(less F v).length,L',less F v,⟨rfl,hla,λw hw=>(hA w).2 ⟨f2 w (zDv.1 hw).1,(zDv.1 hw).2⟩,hok,by omega,by omega,by omega,by rw[<-hmg];exact f7⟩,by omega,?_⟩;refine vk 1
end
end
section
open Go.RowKit
attribute [local irreducible] seqW awp zV zY zR Weak updS zZ retL Pure Acts rP setP setQ cP nP fr
set_option maxRecDepth 4096
set_option maxRecDepth 4096
abbrev fcRB(V:List Int)(R:List Rw)(W:List D)(m:Nat):D:= .agg [.row (V.map λz=>iD z) V.length, .row (R.map rowV) R.length, .row W m]
set_option maxHeartbeats 4000000 in
theorem check_cB (n : Int) (V : List Int)(R:List Rw)(W:List D)(m:Nat)(hV:V.length<=1000000)(hR:R.length<=1000000):
    Pure Al 121 [iD n,fcRB V R W m] [] (iD (chk n V R m)):=by
  refine zH Tq_ok mixed Tryz.func121 rfl<|zB<|zA rfl<|v0s<|veT<|zB<|zB<|zA rfl<|ve (True/\0<3)<|zG<|zP (λ(i:Nat)=>fr 94 [(0,iD n),(3,AC 0 0),(13,Ae (Ad (λ(z:Int)=>iD z) V)<|Aa V),(14,iD (Aa V:Int)),(15,iD (i:Int))]) (λ(i:Nat)=>[fB1B (.row (V.map λz=>iD z) V.length) (.row (R.map rowV) R.length)<|.row W m]) (λi=>V.length-i) (λ(i:Nat)=>i<=V.length/\∀j,j<i->zGz n V j=Ab) 0 ?_ ?_ ?_
  ·exact⟨by omega,λj h=>by omega⟩
  ·refine vk 1
  rintro i ⟨h1,h2⟩;rcases Ap i V.length with h3|h3
  · have hne:(V.map λz=>iD z)≠[]:=zAa
    have hx:=zBq V i h3;by_cases hs:zGz n V i=Ab
    · have hs2:=hs
      simp only[zGz,Ba,Bc,decide_eq_true_eq]at hs2;obtain⟨s1,s2,s3⟩:=hs2;rcases i with _|k
      · rw[AJ]at hx
        refine zB<|zA rfl<|v0s<|veT<|zB<|vT ((↑(0:Nat):Int)<(Aa V:Int))<|zK<|zC<|zD<|zB<|zG<|zB<|zA rfl<|vr 3 (ix (↑(0:Nat):Int) (Aa V:Int) (Ad (λ(z:Int)=>iD z) V≠[])/\0<Aa (Ad (λ(z:Int)=>iD z) V))<|vsh 19 hx<|veT<|zB<|zA rfl<|vew [] [(2,Ac),(7,Ac)] (decide (AN V 0 (0:Int)<0)=Ac/\decide (AN V 0 (0:Int)>=n)=Ac) (vf<|zK<|zE<|zC<|zD<|zA rfl<|vr 2 (i6 ((↑(0:Nat):Int)+(1:Int)))<|vnil<|zC ?_) ⟨(by exact decide_eq_false (by omega)),(by exact decide_eq_false (by omega))⟩;refine⟨1,⟨by omega,λj hj=>?_⟩,by omega,?_⟩
        · obtain rfl:j=0:=by omega
          exact hs
        refine vk 1
      · have hx2:=zBq V k (by omega)
        have s4:V.getD k 0<V.getD (k+1) 0:=by
          rcases s3 with h|h
          ·omega
          exact h
        refine zB<|zA rfl<|v0s<|veT<|zB<|vT ((↑(k+1):Int)<(Aa V:Int))<|zK<|zC<|zD<|zB<|zG<|zB<|zA rfl<|vr 2 (ix (↑(k+1):Int) (Aa V:Int) (Ad (λ(z:Int)=>iD z) V≠[]))<|vp 18 (k+1) (Ad (λ(z:Int)=>iD z) V)<|vr 1 (0<Aa (Ag (k+1)<|Ad (λ(z:Int)=>iD z) V))<|vsh 19 hx<|veT<|zB<|zA rfl<|vw 15 [] [(2,Ac),(7,Ac),(10,Ab)] (decide (AN V (k+1) (0:Int)<0)=Ac/\decide (AN V (k+1) (0:Int)>=n)=Ac/\decide ((↑(k+1):Int)>(0:Int))=Ab/\True/\0<3/\i6 ((↑(k+1):Int)-(1:Int))) (vs 34 (iD ((↑(k+1):Int)-(1:Int))) (iD (k:Int)) (hd:=by simp(disch:=omega) only[pred1])<|vr 1 (ix (k:Int) (Aa V:Int) (Ad (λ(z:Int)=>iD z) V≠[]))<|vp 35 (k) (Ad (λ(z:Int)=>iD z) V)<|vr 1 (0<Aa (Ag k<|Ad (λ(z:Int)=>iD z) V))<|vsh 36 hx2<|veT<|vF (AN V k (0:Int)>=AN V (k+1) (0:Int)) ?_) ⟨(by exact decide_eq_false (by omega)),(by exact decide_eq_false (by omega)),(by exact decide_eq_true (by omega)),trivial,(by omega),(by omega)⟩;refine zK<|zE<|zC<|zD<|zA rfl<|vr 2 (i6 ((↑(k+1):Int)+(1:Int)))<|vnil<|zC<|⟨k+2,⟨by omega,λj hj=>?_⟩,by omega,?_⟩
        · rcases Ap j (k+1)with h|h
          ·exact h2 j h
          · obtain rfl:j=k+1:=by omega
            exact hs
        refine vk 1
    · have hc3:chk n V R m=3:=chk_v h3 (by simpa using hs)
      rw[hc3];rcases i with _|k
      · rw[AJ]at hx
        focus
          refine zB<|zA rfl<|v0s<|veT<|zB<|vT ((↑(0:Nat):Int)<(Aa V:Int))<|zK<|zC<|zD<|zB<|zG<|zB<|zA rfl<|vr 3 (ix (↑(0:Nat):Int) (Aa V:Int) (Ad (λ(z:Int)=>iD z) V≠[])/\0<Aa (Ad (λ(z:Int)=>iD z) V))<|vsh 19 hx<|veT<|zB<|zA rfl<|vrT 3<|vspD 22 (AN V 0 (0:Int)<0) (λhc=>?_)<|λhc=>?_;refine veT<|vt<|zB<|zA rfl<|veT<|zJ<|zN<|zF<|zF<|zN<|zF<|vret (True)<|.inr rfl;refine vrT 5<|vspD 27 (AN V 0 (0:Int)>=n) (λhc=>?_)<|λhc=>?_;refine veT<|vt<|zB<|zA rfl<|veT<|zJ<|zN<|zF<|zF<|zN<|zF<|vret (True)<|.inr rfl;refine veT<|vf<|zK<|zE<|zC<|zD<|zA rfl<|vr 2 (i6 ((↑(0:Nat):Int)+(1:Int)))<|vnil<|zC ?_;rotate_left
        all_goals exact absurd (zS2 (by omega) (by omega) (.inl rfl)) hs
      · have hx2:=zBq V k (by omega)
        focus
          refine zB<|zA rfl<|v0s<|veT<|zB<|vT ((↑(k+1):Int)<(Aa V:Int))<|zK<|zC<|zD<|zB<|zG<|zB<|zA rfl<|vr 2 (ix (↑(k+1):Int) (Aa V:Int) (Ad (λ(z:Int)=>iD z) V≠[]))<|vp 18 (k+1) (Ad (λ(z:Int)=>iD z) V)<|vr 1 (0<Aa (Ag (k+1)<|Ad (λ(z:Int)=>iD z) V))<|vsh 19 hx<|veT<|zB<|zA rfl<|vrT 3<|vspD 22 (AN V (k+1) (0:Int)<0) (λhc=>?_)<|λhc=>?_;refine veT<|vt<|zB<|zA rfl<|veT<|zJ<|zN<|zF<|zF<|zN<|zF<|vret (True)<|.inr rfl;refine vrT 5<|vspD 27 (AN V (k+1) (0:Int)>=n) (λhc=>?_)<|λhc=>?_;refine veT<|vt<|zB<|zA rfl<|veT<|zJ<|zN<|zF<|zF<|zN<|zF<|vret (True)<|.inr rfl;refine vw 7 [] [(10,Ab)] (decide ((↑(k+1):Int)>(0:Int))=Ab/\True/\0<3/\i6 ((↑(k+1):Int)-(1:Int)))<|vs 34 (iD ((↑(k+1):Int)-(1:Int))) (iD (k:Int)) (hd:=by simp(disch:=omega) only[pred1])<|vr 1 (ix (k:Int) (Aa V:Int) (Ad (λ(z:Int)=>iD z) V≠[]))<|vp 35 (k) (Ad (λ(z:Int)=>iD z) V)<|vr 1 (0<Aa (Ag k<|Ad (λ(z:Int)=>iD z) V))<|vsh 36 hx2<|veT<|vcD (AN V k (0:Int)>=AN V (k+1) (0:Int)) (λhc=>?_)<|λhc=>?_;refine zB<|zA rfl<|veT<|zJ<|zN<|zF<|zF<|zN<|zF<|vret (True)<|.inr rfl;refine zK<|zE<|zC<|zD<|zA rfl<|vr 2 (i6 ((↑(k+1):Int)+(1:Int)))<|vnil<|zC ?_;rotate_left
        all_goals exact absurd (zS2 (by omega) (by omega) (.inr (by simp only[Cf];omega))) hs
  have hv:=zGl (p:=zGz n V) (n:=V.length) λj hj=>h2 j (by omega);by_cases hlm:R.length=m;case neg=>
    rw[chk_l hv hlm];refine zB<|zA rfl<|v0s<|veT<|zB<|vF ((i:Int)<(Aa V:Int))<|zS<|zM<|zM<|zQ rfl<|zC<|zD<|zB<|zB<|zA rfl<|ve (True/\0<2/\True/\0<1/\True)<|zDo (t:=(Aa R:Int)!=(m:Int)) (by kernel_rfl) (by simpa using by omega)<|zB<|zA rfl<|veT<|zJ<|zF<|vret (True)<|.inr rfl
  refine zB<|zA rfl<|v0s<|veT<|zB<|vF ((i:Int)<(Aa V:Int))<|zS<|zM<|zM<|zQ rfl<|zC<|zD<|zB<|zB<|zA rfl<|ve (True/\0<2/\True/\0<1/\True)<|zGh (t:=(Aa R:Int)!=(m:Int)) (by kernel_rfl) (by simpa using by omega)<|zK<|zC<|zD<|zB<|zB<|zA rfl<|ve (True/\0<2)<|zG<|zP (λ(i:Nat)=>fr 94 [(3,AC 0 0),(50,Ae (Ad rowV R)<|Aa R),(51,iD (Aa R:Int)),(52,iD (i:Int))]) (λ(i:Nat)=>[fB1B (.row (V.map λz=>iD z) V.length) (.row (R.map rowV) R.length)<|.row W m]) (λi=>R.length-i) (λ(i:Nat)=>i<=R.length/\∀j,j<i->j<R.length->decide ((R.getD j []).length=V.length)=Ab) 0 ?_ ?_ ?_
  ·exact⟨by omega,λj h=>by omega⟩
  ·refine vk 1
  clear h1 h2 h3 i;rintro i ⟨h1,h2⟩;rcases Ap i R.length with h3|h3
  · have hne:R.map rowV≠[]:=zAa
    have hx:=zBj R i h3;have hca:=chk_a hv hlm h3;generalize hg:R.getD i []=r at*;focus
      refine zB<|zA rfl<|v0s<|veT<|zB<|vT ((i:Int)<(Aa R:Int))<|zK<|zC<|zD<|zB<|zG<|zB<|zA rfl<|vr 1 (ix (i:Int) (Aa R:Int) (Ad rowV R≠[]))<|vp 54 (i) (Ad rowV R)<|vr 1 (0<Aa (Ag i<|Ad rowV R))<|vsh 55 hx<|veT<|zB<|zA rfl<|ve (True/\0<3/\True)<|zAr (t:=(Aa r:Int)!=(Aa V:Int)) (by kernel_rfl) (λhc=>?_)<|λhc=>?_;simp only[bne_iff_ne]at hc;refine zB<|zA rfl<|veT<|zJ<|zN<|zF<|zF<|zN<|zF<|vre (True) (Ay<|Ax AX (6:Int)) (.inr rfl) ?_;rotate_left;simp only[bne_eq_false_iff_eq]at hc;refine zK<|zE<|zC<|zD<|zA rfl<|vr 2 (i6 ((i:Int)+(1:Int)))<|vnil<|zC ?_;rotate_left
    ·rw[hca (by omega)]
    · refine⟨i+1,⟨by omega,λj hj hjl=>?_⟩,by omega,?_⟩
      · rcases Ap j i with h|h
        ·exact h2 j h hjl
        · obtain rfl:j=i:=by omega
          rw[hg];exact decide_eq_true (by omega)
      refine vk 1
  have ha:=zKy (p:=λx:Rw=>decide (x.length=V.length)) (d:=[]) h3 h2;have hl:∀x∈R,x.length<=1000000000:=λx hx=>by
    have:=of_decide_eq_true (AY.1 ha x hx)
    omega
  refine zB<|zA rfl<|v0s<|veT<|zB<|vF ((i:Int)<(Aa R:Int))<|zS<|zM<|zM<|zQ rfl<|zC<|zD<|zB<|zB<|zA rfl<|ve (True/\0<2)<|zG<|zP (λ(i:Nat)=>fr 94 [(3,AC 0 0),(64,Ae (Ad rowV R)<|Aa R),(65,iD (Aa R:Int)),(66,iD (i:Int))]) (λ(i:Nat)=>[fB1B (.row (V.map λz=>iD z) V.length) (.row (R.map rowV) R.length)<|.row W m]) (λi=>R.length-i) (λ(i:Nat)=>i<=R.length/\∀j,j<i->j<R.length->(R.getD j []).all vok=Ab) 0 ?_ ?_ ?_
  ·exact⟨by omega,λj h=>by omega⟩
  ·refine vk 1
  clear h1 h2 h3 i;rintro i ⟨h1,h2⟩;rcases Ap i R.length with h3|h3
  · have hne:R.map rowV≠[]:=zAa
    have hx:=zBj R i h3;have hco:=chk_o hv hlm ha h3;have hlr:=hl _ (zAc R [] i h3);generalize hg:R.getD i []=r at*;focus
      refine zB<|zA rfl<|v0s<|veT<|zB<|vT ((i:Int)<(Aa R:Int))<|zK<|zC<|zD<|zB<|zG<|zB<|zA rfl<|vr 1 (ix (i:Int) (Aa R:Int) (Ad rowV R≠[]))<|vp 68 (i) (Ad rowV R)<|vr 1 (0<Aa (Ag i<|Ad rowV R))<|vsh 69 hx<|veT<|zB<|zA rfl<|vrT 1<|vc (zWb r _ rfl (by omega))<|veT<|zAr (t:=!List.all r vok) (by kernel_rfl) (λhc=>?_)<|λhc=>?_;simp only[Cx]at hc;refine zB<|zA rfl<|veT<|zJ<|zN<|zF<|zF<|zN<|zF<|vre (True) (Ay<|Ax AX (4:Int)) (.inr rfl) ?_;rotate_left;simp only[Bool.not_eq_false']at hc;refine zK<|zE<|zC<|zD<|zA rfl<|vr 2 (i6 ((i:Int)+(1:Int)))<|vnil<|zC ?_;rotate_left
    ·rw[hco (by simpa using hc)]
    · refine⟨i+1,⟨by omega,λj hj hjl=>?_⟩,by omega,?_⟩
      · rcases Ap j i with h|h
        ·exact h2 j h hjl
        · obtain rfl:j=i:=by omega
          rw[hg];simpa using hc
      refine vk 1
  have ho:=zKy (p:=λx:Rw=>x.all vok) (d:=[]) h3 h2;refine zB<|zA rfl<|v0s<|veT<|zB<|vF ((i:Int)<(Aa R:Int))<|zS<|zM<|zM<|zQ rfl<|zC<|zD<|zB<|zB<|zA rfl<|veT<|zG<|zP (λ(k:Nat)=>fr 94 [(3,AC 0 0),(11,iD ((k:Int)+(1:Int)))]) (λ(k:Nat)=>[fB1B (.row (V.map λz=>iD z) V.length) (.row (R.map rowV) R.length)<|.row W m]) (λk=>R.length-k) (λ(k:Nat)=>k<=R.length/\∀j,j<=k->j<R.length->zPj R j=Ab) 0 ?_ ?_ ?_
  · exact ⟨by omega, fun j h _ => by obtain rfl:j=0:=by omega
                                     rfl⟩
  ·refine vk 1
  clear h1 h2 h3 i;rintro k ⟨h1,h2⟩;rcases Ap (k+1) R.length with h3|h3
  · have hne:R.map rowV≠[]:=zAa
    have hx:=zBj R (k+1) h3;have hx0:=zBj R k (by omega);have hcs:=chk_s hv hlm ha ho h3;have hst:zPj R (k+1)=decide (rcmp (R.getD k []) (R.getD (k+1) [])<0):=by simp[zPj]
    have hcm:=zEd (R.getD k []) (R.getD (k+1) []) _ _ rfl rfl (hl _ (zAc R [] k (by omega))) (hl _ (zAc R [] (k+1) h3));generalize R.getD (k+1) []=r at*;generalize R.getD k []=r0 at*;focus
      refine zB<|zB<|zA rfl<|v0s<|ve (True/\0<2)<|vT ((↑(k+1):Int)<(Aa R:Int))<|zK<|zC<|zD<|zB<|zG<|zB<|vd [0,2,3,6,8,1,4,5,7,9,10,11,12]<|vr 3 (True/\i6 ((↑(k+1):Int)-(1:Int)))<|vs 84 (iD ((↑(k+1):Int)-(1:Int))) (iD (k:Int)) (hd:=by simp(disch:=omega) only[pred1])<|vr 4 (True/\0<2/\ix (k:Int) (Aa R:Int) (Ad rowV R≠[]))<|vp 85 (k) (Ad rowV R)<|vr 1 (0<Aa (Ag k<|Ad rowV R))<|vsh 86 hx0<|vr 2 (0<2/\ix (↑(k+1):Int) (Aa R:Int) (Ad rowV R≠[]))<|vp 90 (k+1) (Ad rowV R)<|vr 1 (0<Aa (Ag (k+1)<|Ad rowV R))<|vsh 91 hx<|vc (hcm)<|veT<|vcD (rcmp r0 r>=(0:Int)) (λhc=>?_)<|λhc=>?_;refine zB<|zA rfl<|veT<|zJ<|zN<|zF<|zF<|zN<|zF<|vre (True) (Ay<|Ax AX (16:Int)) (.inr rfl) ?_;rotate_left;refine zK<|zE<|zC<|zD<|zA rfl<|vr 3 (i6 ((↑(k+1):Int)+(1:Int)))<|vnil<|zC ?_;rotate_left
    ·rw[hcs (by rw[hst];exact decide_eq_false (by omega))]
    · refine⟨k+1,⟨by omega,λj hj hjl=>?_⟩,by omega,?_⟩
      · rcases Ap j (k+1)with h|h
        ·exact h2 j (by omega) hjl
        · obtain rfl:j=k+1:=by omega
          rw[hst];exact decide_eq_true (by omega)
      refine vk 1
  rw[chk_0 hv hlm ha ho (zGl λj hj=>h2 j (by omega) hj)];refine zB<|zB<|zA rfl<|v0s<|ve (True/\0<2)<|vF ((k:Int)+(1:Int)<(Aa R:Int))<|zS<|zM<|zM<|zQ rfl<|zC<|zD<|zB<|zA rfl<|veT<|zJ<|vret (True)<|.inr rfl
end
section
open Go.RowKit
structure Rn where
 V:List Int
 R:List Rw
 W:List Nat
 deriving Inhabited
def chkR(n:Int)(f:Rn):Int:=chk n f.V f.R f.W.length
def errL(n:Int):List Rn->Int
 |[]=>0
 |f::fs=>if chkR n f≠0 then chkR n f else errL n fs
def covP(n:Nat)(fs:List Rn):Bool:=(As n).all λv=>fs.any λf=>decide ((v:Int)∈f.V)
def zGu(n:Int)(keep:Nat)(fs:List Rn):Int:=if n<0\/32<n\/keep>>>n.toNat≠0 then 3 else if errL n fs≠0 then errL n fs else if covP n.toNat fs then 0 else 22
theorem errL_at{n:Int}:∀{fs:List Rn}{i:Nat},(∀j,j<i->chkR n (fs.getD j Af)=0)->i<fs.length->chkR n (fs.getD i Af)≠0->errL n fs=chkR n (fs.getD i Af)
 |[],i,_,h,_=>by simp at h
 |f::fs,0,_,_,h=>by
  grind [chkR,errL]
 |f::fs,i+1,hb,hi,h=>by
  have h0:chkR n f=0:=hb 0 (by omega);rw[errL,if_neg (by omega)];exact errL_at (fs:=fs) (i:=i) (λj hj=>hb (j+1) (by omega)) (by simpa using hi) h
theorem errL_0{n:Int}:∀{fs:List Rn},(∀j,j<fs.length->chkR n (fs.getD j Af)=0)->errL n fs=0
 |[],_=>rfl
 |f::fs,h=>by
  have h0:chkR n f=0:=h 0 (by simp);rw[errL,if_neg (by omega)];exact errL_0 (fs:=fs) λj hj=>h (j+1) (by simpa using hj)
theorem zXf{n:Int}:∀{fs:List Rn},errL n fs=0->∀f∈fs,chkR n f=0
 |[],_,f,h=>by simp at h
 | g::fs,h,f,hf=>by
  rw[errL]at h;split at h
  ·grind
  rename_i k;rcases AO.1 hf with rfl|hf
  ·omega
  exact zXf h f hf
def covM(fs:List Rn):Nat:=fs.foldl (λm f=>m|||msk (f.V.map Aj)) 0
theorem zXj:∀(fs:List Rn)(m v:Nat),(fs.foldl (λm f=>m|||msk (f.V.map Aj)) m).testBit v=(m.testBit v||fs.any λf=>decide (v∈f.V.map Aj))
 |[],m,v=>by simp
 |f::fs,m,v=>by rw[List.foldl_cons,zXj fs,A2,zBu,List.any_cons,Bool.or_assoc]
theorem covM_lt:∀(fs:List Rn)(m:Nat),m<4294967296->(∀f∈fs,∀v∈f.V.map Aj,v<32)->fs.foldl (λm f=>m|||msk (f.V.map Aj)) m<4294967296
 |[],m,h,_=>h
 |f::fs,m,h,hf=>covM_lt fs _ (zJ5 h (zDb (hf f (AW ..)))) λg hg=>hf g (Bj _ hg)
theorem mem_intL{A:List Nat}{v:Nat}:((v:Int)∈intL A)↔v∈A:=by
 grind
theorem zM0(A:List Nat):(intL A).map Aj=A:=by
 simp[intL,Function.comp_def]
theorem covM_eq(n:Nat)(fs:List Rn)(hf:∀f∈fs,∃A:List Nat,f.V=intL A/\∀v∈A,v<n):covM fs=2^n-1↔covP n fs=true:=by
 have hb:∀v,(covM fs).testBit v=fs.any λf=>decide ((v:Int)∈f.V):=λv=>by
  unfold covM;rw[zXj,BC,Ch,BD,Bp,Bp];grind
 unfold covP;rw[AY];constructor
 ·intro h v hv;rw[<-hb,h,BO];simpa using hv
 intro h;refine Bs λv=>?_;rw[hb,BO];by_cases hv:v<n
 ·simp_all
 grind
end
section
open Go.RowKit
attribute [local irreducible] seqW awp zV zY zR Weak updS zZ retL Pure Acts rP setP setQ cP nP fr
set_option maxRecDepth 4096
abbrev rnC(f:Rn):List D:=[.row (f.V.map λz=>iD z) f.V.length, .row (f.R.map rowV) f.R.length, .row (f.W.map natD) f.W.length]
structure Rsz(f:Rn):Prop where
 v:f.V.length<=1000
 r:f.R.length<=1000
abbrev rnCB(f:Rn):List D:=[.row (f.V.map λz=>iD z) f.V.length, .row (f.R.map rowV) f.R.length, .row (f.W.map λx=>bD (g0 x)) f.W.length]
theorem zN7(f:Rn):(rnCB f).length=3:=rfl
set_option maxHeartbeats 4000000 in
theorem zVg(n keep:Nat)(fs:List Rn)(hn:n<=8)(hk:keep<4294967296)(hl:fs.length<=1000)(hs:∀f∈fs,Rsz f):Pure Al 88 [iD (n:Nat),u32D keep, .row (fs.flatMap rnCB) fs.length] [] (iD (zGu n keep fs)):=by
 have w1:=zEu keep (v:=n) (by omega);have w2:=zC6 (v:=n) (by omega);have h2n:2^n<=256:=Bo (n:=2) (by omega) hn;have h1n:=Nat.one_le_two_pow (n:=n);have w3:((2^n:Nat):Int)-1=((2^n-1:Nat):Int):=by omega
 have w4:=zAy (n:=2^n-1) (by omega);have ewr:zGu n keep fs=if keep>>>n≠0 then 3 else if errL n fs≠0 then errL n fs else if covP n fs then 0 else 22:=by
  unfold zGu;rw[Au];by_cases h:keep>>>n≠0
  ·rw[if_pos (.inr (.inr h)),if_pos h]
  rw[if_neg (by intro k;rcases k with k|k|k<;>first|omega|exact h k),if_neg h]
 generalize keep>>>n=kk at*;refine zH Tq_ok mixed Tryz.func88 rfl ?_;focus
  refine zB<|zA rfl<|v0s<|veT<|zB<|zB<|zA rfl<|vw 10 [] [(2,Ac),(6,Ac)] (decide ((n:Int)<0)=Ac/\decide ((n:Int)>(32:Int))=Ac/\(0:Int)<=(n:Int))<|vs 20 (Ay<|Ax AA<|Int.fdiv (keep:Int) ((2:Int)^min (Aj (n:Int)) 32)) (dig kk) (hd:=by simp(disch:=omega) only[Au,w1])<|veT<|zAr (t:=(kk:Int)!=(0:Int)) (by kernel_rfl) (λhc=>?_)<|λhc=>?_;simp only[bne_iff_ne]at hc;refine zB<|zA rfl<|veT<|zJ<|zF<|vre (True) (Ay<|Ax AX (3:Int)) (.inr rfl) ?_;rotate_left;simp only[bne_eq_false_iff_eq]at hc;refine zK<|zC<|zD<|zB<|zA rfl<|veT<|zB<|zB<|zA rfl<|veT<|zG ?_;rotate_left
 ·rw[ewr,if_pos (by omega)]
 have hcu:∀i,covM (fs.take i)<4294967296\/¬∀j,j<i->chkR n (fs.getD j Af)=0:=λi=>by
  by_cases h:∀j,j<i->chkR n (fs.getD j Af)=0
  ·refine .inl (covM_lt (fs.take i) 0 (by omega) λf hf v hv=>?_);obtain⟨j,hj,rfl⟩:=List.mem_iff_getElem.1 hf;have hj2:j<i/\j<fs.length:=by rw[AS]at hj;omega
   have:=h j hj2.1
   rw[Ao,Ar hj2.2,B1]at this;obtain⟨A,hA,hfit⟩:=zVf this;rw[Cy,hA,show A.map (λv:Nat=>(v:Int))=intL A from rfl,zM0]at hv
   have:=hfit.lt v hv
   omega
  exact .inr h
 refine zP (λ(i:Nat)=>fr 45 [(0,iD (n:Int)),(7,u32D<|covM<|Ai i fs),(23,Ae (Ah rnCB fs)<|Aa fs),(24,iD (Aa fs:Int)),(25,iD (i:Int))]) (λ(i:Nat)=>[]) (λi=>fs.length-i) (λ(i:Nat)=>i<=fs.length/\∀j,j<i->chkR n (fs.getD j Af)=0) 0 ?_ ?_ ?_
 ·exact⟨by omega,λj h=>by omega⟩
 ·refine vk 0
 rintro i ⟨h1,h2⟩;have hcl:=(hcu i).resolve_right (λh=>h h2);rcases Ap i fs.length with h3|h3
 ·have hm:=zAc fs Af i h3;have hg2:=zJx zN7 fs i h3;have hle:=zD2 zN7 fs i h3;have hne:=zD1 zN7 (by decide) fs;have hsz:=hs _ hm;have hat:=errL_at h2 h3;have htk:covM (fs.take (i+1))=covM (fs.take i)|||msk ((fs.getD i Af).V.map Aj):=by
   rw[zAs fs i h3];unfold covM;rw[BP];rfl
  generalize hff:fs.getD i Af=f at*;obtain⟨V,R,W⟩:=f;have hch:=check_cB n V R (W.map λx=>bD (g0 x)) W.length (by have:=hsz.v;simp only at this;omega) (by have:=hsz.r;simp only at this;omega);by_cases e0:chk n V R W.length=0
  ·obtain⟨A,hA,hfit⟩:=zVf e0;have hA:V=intL A:=hA;subst hA;rw[e0]at hch;have eA:(intL A).map (λz=>iD z)=nsD A:=by simp[intL]
   have eL:(intL A).length=A.length:=by simp
   have hv32:∀v∈A,v<32:=λv hv=>by have:=hfit.lt v hv;omega
   have nA:A.length<=1000:=by have:=hsz.v;simp only[eL]at this;exact this
   have sA:=zJg A _ rfl nA hv32 (R.map rowV) (W.map λx=>bD (g0 x)) R.length W.length;rw[zM0]at htk;have w5:=zJ9 hcl (zDb hv32);have w6:=zAy (zJ5 hcl (zDb hv32));simp only[rnCB,eA,eL]at hg2;simp only[fcRB,eA,eL]at hch;refine zB<|zA rfl<|v0s<|veT<|zB<|vT ((i:Int)<(Aa fs:Int))<|zK<|zC<|zD<|zB<|zG<|zB<|zA rfl<|vr 2 (ix (i:Int) (Aa fs:Int) (Ah rnCB fs≠[])/\3<=Aa (Ag (i*3)<|Ah rnCB fs))<|vs 28 (Aq<|Ai 3<|Ag (i*3)<|Ah rnCB fs) (Aq [Ae (nsD A)<|Aa A,Ae (Ad rowV R)<|Aa R,Ae (Ad (λ(x:Nat)=>bD (g0 x)) W)<|Aa W]) (hd:=by simp(disch:=omega) only[hg2])<|ve (Ac=Ac/\Ab=Ab/\3=3/\3<=3)<|zB<|zB<|zA rfl<|vr 2 (3<=3)<|vc (hch)<|veT<|zB<|zA rfl<|veT<|vf<|zK<|zC<|zD<|zA rfl<|vr 2 (3<=3)<|vc (sA)<|vrT 1<|vs 38 (Ay<|Ax AA<|A6 AA (↑(Bh (AH 32 (↑(covM<|Ai i fs):Int)|||AH 32 (↑(msk A):Int))):Int)) (dig (covM (Ai i fs)|||msk A)) (hd:=by simp(disch:=omega) only[w5,w6])<|vrT 1<|vnil<|zE<|zC<|zD<|zA rfl<|vr 2 (i6 ((i:Int)+(1:Int)))<|vnil<|zC<|⟨i+1,⟨by omega,λj hj=>?_⟩,by omega,?_⟩
   ·rcases Ap j i with h|h
    ·exact h2 j h
    obtain rfl:j=i:=by omega
    rw[hff];exact e0
   rw[htk];refine vk 0
  have hat':=hat e0;have hat2:errL n fs=chk n V R W.length:=hat';generalize chk n V R W.length=e at*;refine zB<|zA rfl<|v0s<|veT<|zB<|vT ((i:Int)<(Aa fs:Int))<|zK<|zC<|zD<|zB<|zG<|zB<|zA rfl<|vr 2 (ix (i:Int) (Aa fs:Int) (Ah rnCB fs≠[])/\3<=Aa (Ag (i*3)<|Ah rnCB fs))<|vs 28 (Aq<|Ai 3<|Ag (i*3)<|Ah rnCB fs) (Aq<|rnCB<|Rn.mk V R W) (hd:=by simp(disch:=omega) only[hg2])<|ve (Ac=Ac/\Ab=Ab/\3=3/\3<=3)<|zB<|zB<|zA rfl<|vr 2 (3<=3)<|vc (hch)<|veT<|zB<|zA rfl<|veT<|zDo (t:=e !=(0:Int)) (by kernel_rfl) (by simpa using by omega)<|zB<|zA rfl<|veT<|zJ<|zF<|zN<|zF<|zF<|zN<|zF<|vre (True) (Ay<|Ax AX e) (.inr rfl) ?_;rw[ewr,if_neg (by omega),if_pos (by omega),hat2]
 rw[AQ h3]at hcl⊢;have h0:=errL_0 λj hj=>h2 j (by omega);have hce:=covM_eq n fs λf hf=>by
  obtain⟨A,hA,hfit⟩:=zVf (zXf h0 f hf);exact⟨A,hA,λv hv=>by have:=hfit.lt v hv;omega⟩
 focus
  refine zB<|zA rfl<|v0s<|veT<|zB<|vF ((i:Int)<(Aa fs:Int))<|zS<|zM<|zM<|zQ rfl<|zC<|zD<|zB<|zB<|zA rfl<|vr 3 ((0:Int)<=(n:Int))<|vs 42 (Ay<|Ax AA<|A6 AA ((1:Int)*(2:Int)^min (Aj (n:Int)) 32)) (dig ((2:Nat)^n)) (hd:=by simp(disch:=omega) only[Au,w2])<|vr 1 (u3 ((↑((2:Nat)^n):Int)-(1:Int)))<|vs 43 (Ay<|Ax AA ((↑((2:Nat)^n):Int)-(1:Int))) (dig ((2:Nat)^n-1)) (hd:=by simp(disch:=omega) only[w3])<|veT<|zAr (t:=(↑(covM fs):Int)!=(↑((2:Nat)^n-1):Int)) (by kernel_rfl) (λhc=>?_)<|λhc=>?_;simp only[bne_iff_ne]at hc;refine zB<|zA rfl<|veT<|zJ<|zF<|vre (True) (Ay<|Ax AX (22:Int)) (.inr rfl) ?_;rotate_left;simp only[bne_eq_false_iff_eq]at hc;refine zK<|zC<|zD<|zB<|zA rfl<|veT<|zJ<|vre (True) (Ay<|Ax AX (0:Int)) (.inr rfl) ?_;rotate_left
 ·rw[ewr,if_neg (by omega),if_neg (by omega),if_neg (λh=>by have:=hce.2 h;omega)]
 rw[ewr,if_neg (by omega),if_neg (by omega),if_pos (hce.1 (by omega))]
section
variable (n e : Int) (keep : Nat) (cs : List D) (m : Nat)
theorem total_cB(f:Fa Bool)(hm:Pure Al 69 [booD,iD n,u32D 0, .row cs m] [] (.tup [faAB f,iD 0])):Pure Al 67 [booD,iD n, .row cs m] [] (.tup [bD ((f.l.map (·.2)).headD Ac),iD 0]):=by
 obtain⟨A,l⟩:=f;rcases l with _|⟨p,l⟩
 ·skip;obtain⟨z,hz⟩:∃z:Bool,z=false:=⟨_,rfl⟩;have hr:bD (([]:List (Rw×Bool)).map (·.2)|>.headD Ac)=bD z:=by rw[hz];rfl
  simp only[hr];refine zH (T:=Tc) (zVt _ _ _) mixed Tryz.func67 rfl<|zB<|zA rfl<|v0s<|veT<|zB<|zA rfl<|vrT 3<|vc (hm)<|ve (0<2/\1<2/\Ac=Ac/\Ab=Ab/\3=3/\3<=3)<|zB<|zB<|zA rfl<|veT<|vf<|zK<|zC<|zD<|zB<|zB<|zA rfl<|ve (True/\0<1/\True)<|vt<|zB<|zA rfl<|vrT 1<|vc (bzero_c z hz)<|veT<|zJ<|zF<|vret (True)<|.inr rfl
 skip;show Pure _ _ _ _ (.tup [bD p.2,iD 0]);have hx:(zAp (p::l)).headD .unk=bD p.2:=rfl;have hne:zAp (p::l)≠[]:=by simp
 refine zH (T:=Tc) (zVt _ _ _) mixed Tryz.func67 rfl<|zB<|zA rfl<|v0s<|veT<|zB<|zA rfl<|vrT 3<|vc (hm)<|ve (0<2/\1<2/\Ac=Ac/\Ab=Ab/\3=3/\3<=3)<|zB<|zB<|zA rfl<|veT<|vf<|zK<|zC<|zD<|zB<|zB<|zA rfl<|ve (True/\0<1/\True)<|vEf ((↑(Aa l+1):Int)) ((0:Int))<|zK<|zC<|zD<|zB<|zA rfl<|ve (True/\0<1/\ix (0:Int) (↑(Aa l+1):Int) (zAp (p::l)≠[])/\0<Aa (zAp (p::l)))<|zJ<|vret (True)<|.inr rfl
end
def Nor(ab:List D):Prop:=∀j,zBf j ab=Ac
section
variable (t : Tri) (l p e : Int) (ab : List D) (s : Int) (hab : ab.length = 64) (hno : Nor ab)
end
end
def gal(L:Nat->Bool)(e:Nat):Nat->Nat->Nat->Nat->Nat×Nat×Nat
 |0,low,step,s=>(low,step,s)
 |n+1,low,step,s=>if low+step<e then(if L (low+step)then gal L e n (low+step) (step*2) (s+1)else(low,step,s+1))else(low,step,s)
def bis(L:Nat->Bool):Nat->Nat->Nat->Nat->Nat×Nat
 |0,_,high,s=>(high,s)
 |n+1,low,high,s=>if 1<high-low then(if L (low+(high-low)/2)then bis L n (low+(high-low)/2) high (s+1)else bis L n low (low+(high-low)/2) (s+1))else(high,s)
def sek(L:Nat->Bool)(q e s:Nat):Nat×Nat:=
 if L q then
  let g:=gal L e e q 1 (s+1)
  let h:=min (g.1+g.2.1) e
  bis L e g.1 h g.2.2
 else(q,s+1)
section
open Go.RowKit
attribute [local irreducible] seqW awp zV zY zR Weak updS zZ retL Pure Acts rP setP setQ cP nP fr
set_option maxRecDepth 4096
abbrev fr0:List (Int×Int):=AF 32 (0,0)
end
structure It where
 t:Tri
 l:Nat
 p:Nat
 e:Nat
 fr:List (Int×Int)
 s:Nat
 deriving Inhabited
abbrev vls(t:Tri)(k:Nat):List Va:=(t.getD k Af).1
abbrev fst'(t:Tri)(k:Nat):List Nat:=(t.getD k Af).2
def onI(it:It):Bool:=decide (0<it.l)&&decide (it.p<it.e)
def opI(it:It):It:=match it.l with
 |0=>{it with l:=1,p:=0,e:=szT it.t,fr:=it.fr.set 0 ((it.p:Nat),(it.e:Nat))}
 |k+1=>{it with l:=k+2,p:=(fst' it.t k).getD it.p 0,e:=(fst' it.t k).getD (it.p+1) 0,fr:=it.fr.set (k+1) ((it.p:Nat),(it.e:Nat))}
def upI(it:It):It:={it with l:=it.l-1,p:=(it.fr.getD (it.l-1) (0,0)).1.toNat,e:=(it.fr.getD (it.l-1) (0,0)).2.toNat}
def keyI(it:It):Va:=(vls it.t (it.l-1)).getD it.p Af
def lsI(v:Va)(it:It)(i:Nat):Bool:=decide (vcmp ((vls it.t (it.l-1)).getD i Af) v<0)
def skI(v:Va)(it:It):It:={it with p:=(sek (lsI v it) it.p it.e it.s).1,s:=(sek (lsI v it) it.p it.e it.s).2}
def nxI(it:It):It:={it with p:=it.p+1}
def opAll(ix:List Nat)(its:List It):List It:=ix.foldl (λits i=>its.set i (opI (its.getD i Af))) its
def upAll(ix:List Nat)(its:List It):List It:=ix.foldl (λits i=>its.set i (upI (its.getD i Af))) its
def mtL(ix:List Nat):Nat->List It->Va->Nat->Nat->Nat->List It×Nat×Bool
 |0,its,key,same,k,s=>(its,s,Ab)
 | f+1,its,key,same,k,s=>if same<ix.length then
   if onI (skI key (its.getD (ix.getD (k%ix.length) 0) Af))then
    if vcmp (keyI (skI key (its.getD (ix.getD (k%ix.length) 0) Af))) key=0 then mtL ix f (its.set (ix.getD (k%ix.length) 0) (skI key (its.getD (ix.getD (k%ix.length) 0) Af))) key (same+1) (k+1) (s+1)
    else mtL ix f (its.set (ix.getD (k%ix.length) 0) (skI key (its.getD (ix.getD (k%ix.length) 0) Af))) (keyI (skI key (its.getD (ix.getD (k%ix.length) 0) Af))) 1 (k+1) (s+1)
   else(its.set (ix.getD (k%ix.length) 0) (skI key (its.getD (ix.getD (k%ix.length) 0) Af)),s,Ac)
  else(its,s,Ab)
def gtI(v:Va)(it:It):Nat:=((List.range' it.p (it.e-it.p)).filter λj=>decide (vcmp v ((vls it.t (it.l-1)).getD j Af)<0)).length
def gtA(ix:List Nat)(its:List It)(v:Va):Nat:=(ix.map λi=>gtI v (its.getD i Af)).sum
def msr(ix:List Nat)(its:List It)(key:Va)(same:Nat):Nat:=gtA ix its key*(ix.length+1)+(ix.length-same)
def metJ(ix:List Nat)(its:List It)(s:Nat):List It×Nat×Bool:=
 if onI (its.getD (ix.getD 0 0) Af)then mtL ix (msr ix its (keyI (its.getD (ix.getD 0 0) Af)) 1) its (keyI (its.getD (ix.getD 0 0) Af)) 1 1 s else(its,s,Ac)
structure Js where
 its:List It
 row:List Va
 s:Nat
 ys:List (List Va)
def lpJ(rec:Js->Js)(ix:List Nat)(v:Nat):Nat->Bool->Js->Js
 |f+1,Ab,S=>
  let S1:=rec {S with row:=S.row.set v (keyI (S.its.getD (ix.getD 0 0) Af))}
  let it:=nxI (S1.its.getD (ix.getD 0 0) Af)
  let its2:=S1.its.set (ix.getD 0 0) it
  if onI it then lpJ rec ix v f (metJ ix its2 S1.s).2.2 {S1 with its:=(metJ ix its2 S1.s).1,s:=(metJ ix its2 S1.s).2.1}else{S1 with its:=its2}
 |_,_,S=>S
def extJ(ats:Nat->List Nat):Nat->Nat->Js->Js
 |0,v,S=>{S with s:=S.s+1,ys:=S.ys++[S.row]}
 |m+1,v,S=>
  let its1:=opAll (ats v) S.its
  let r:=metJ (ats v) its1 S.s
  let S2:=lpJ (extJ ats m (v+1)) (ats v) v ((its1.getD ((ats v).getD 0 0) Af).e) r.2.2 {S with its:=r.1,s:=r.2.1}
  {S2 with its:=upAll (ats v) S2.its}
structure LvI(it:It):Prop where
 l1:1<=it.l
 l2:it.l<=it.t.length
 pe:it.p<=it.e
 sib:it.p<it.e->Sib (it.t.drop (it.l-1)) it.p it.e
def has(it:It)(d:Va):Prop:=∃j,it.p<=j/\j<it.e/\(vls it.t (it.l-1)).getD j Af=d
structure Adv(a b:It):Prop where
 t:b.t=a.t
 l:b.l=a.l
 e:b.e=a.e
 fr:b.fr=a.fr
 p:a.p<=b.p
def allHas(ix:List Nat)(its:List It)(d:Va):Prop:=∀i∈ix,has (its.getD i Af) d
structure Met(ix:List Nat)(its:List It)(r:List It×Nat×Bool):Prop where
 len:r.1.length=its.length
 out:∀i,i∉ix->r.1.getD i Af=its.getD i Af
 adv:∀i∈ix,Adv (its.getD i Af) (r.1.getD i Af)
 lv:∀i∈ix,LvI (r.1.getD i Af)
 com:∀d,allHas ix its d↔r.2.2=Ab/\allHas ix r.1 d
 key:r.2.2=Ab->∃c,∀i∈ix,(r.1.getD i Af).p<(r.1.getD i Af).e/\keyI (r.1.getD i Af)=c
def RSr(it:It):List (List Va):=rws (it.t.drop (it.l-1)) it.p it.e
def RS(it:It):List (List Va):=match it.l with
 |0=>rws it.t 0 (szT it.t)
 |k+1=>rws (it.t.drop (k+1)) ((fst' it.t k).getD it.p 0) ((fst' it.t k).getD (it.p+1) 0)
structure Res(a b:It):Prop where
 t:b.t=a.t
 l:b.l=a.l
 p:b.p=a.p
 e:b.e=a.e
 fl:b.fr.length=a.fr.length
 fr:∀j,j<a.l->b.fr.getD j (0,0)=a.fr.getD j (0,0)
structure AtI(d l:Nat)(it:It):Prop where
 tl:it.t.length=d
 ll:it.l=l
 fl:it.fr.length=32
 d32:d<=32
 root:d≠0->Sib it.t 0 (szT it.t)
 lv:0<l->LvI it/\it.p<it.e
structure InI(d l:Nat)(it:It):Prop where
 tl:it.t.length=d
 ll:it.l=l
 fl:it.fr.length=32
 d32:d<=32
 root:d≠0->Sib it.t 0 (szT it.t)
 lv:LvI it
section
variable (n na : Nat) (vs : Nat → List Nat)
def ats(v:Nat):List Nat:=(As na).filter λa=>decide (v∈vs a)
def cnt(a v:Nat):Nat:=((vs a).filter λw=>decide (w<v)).length
def prj(a v:Nat)(y:List Va):List Va:=((vs a).filter λw=>decide (v<=w)).map λw=>y.getD w Af
structure Vok:Prop where
 asc:∀a,a<na->(vs a).Pairwise (· <·)
 lt:∀a,a<na->∀w∈vs a,w<n
 cov:∀v,v<n->∃a,a<na/\v∈vs a
structure AtV(v:Nat)(its:List It):Prop where
 len:its.length=na
 one:∀a,a<na->AtI (vs a).length (cnt vs a v) (its.getD a Af)
structure InV(v:Nat)(its:List It):Prop where
 len:its.length=na
 inn:∀a,a<na->v∈vs a->InI (vs a).length (cnt vs a v+1) (its.getD a Af)
 out:∀a,a<na->v∉vs a->AtI (vs a).length (cnt vs a v) (its.getD a Af)
def Tv(v:Nat)(its:List It)(y:List Va):Prop:=∀a,a<na->if v∈vs a then prj vs a v y∈RSr (its.getD a Af)else prj vs a v y∈RS (its.getD a Af)
variable {n na vs}
end
section
variable {n na : Nat} {vs : Nat → List Nat}
structure ExtP(n na:Nat)(vs:Nat->List Nat)(v:Nat)(S S':Js):Prop where
 len:S'.its.length=na
 res:∀a,a<na->Res (S.its.getD a Af) (S'.its.getD a Af)
 row:S'.row.length=n
 take:S'.row.take v=S.row.take v
 ys:∃J,S'.ys=S.ys++J/\Rsc J/\∀y,y∈J↔(y.length=n/\y.take v=S.row.take v/\∀a,a<na->prj vs a v y∈RS (S.its.getD a Af))
structure LpP(n na:Nat)(vs:Nat->List Nat)(v:Nat)(S S':Js):Prop where
 len:S'.its.length=na
 res:∀a,a<na->v∉vs a->Res (S.its.getD a Af) (S'.its.getD a Af)
 adv:∀a,a<na->v∈vs a->(S'.its.getD a Af).t=(S.its.getD a Af).t/\(S'.its.getD a Af).l=(S.its.getD a Af).l/\(S'.its.getD a Af).fr.length=(S.its.getD a Af).fr.length/\∀j,j<(S.its.getD a Af).l->(S'.its.getD a Af).fr.getD j (0,0)=(S.its.getD a Af).fr.getD j (0,0)
 row:S'.row.length=n
 take:S'.row.take v=S.row.take v
 ys:∃J,S'.ys=S.ys++J/\Rsc J/\∀y,y∈J↔(y.length=n/\y.take v=S.row.take v/\Tv na vs v S.its y)
end
section
open Go.RowKit
structure Lay where
 N:Nat
 na:Nat
 n:Nat
 jb:Nat
 rb:Nat
 tb:Nat
 ab:Nat->Nat
 ib:Nat->Nat
 vs:Nat->List Nat
 cb:Nat
 ch:List Nat
 yb:List (List Va)->Nat->Option Bk
 bs:Nat->Bk
def namB(N:Nat)(b:Bk):Prop:=b.nob=Ab\/∀j,N<=j->zBf j b.cells=Ac
section
variable {L : Lay} {S : Js}
end
theorem zZe{T:Par}{N:Nat}{sl:List D}{st bs:List Bk}(hl:st.length=N)(hn:∀b∈st,namB N b)(hs:∀j∈ownL sl,j<N)(hk:∀k,N<=k->T.keep k=Ac):Weak T sl (st++bs) sl st:=by
 have ht:(st++bs).take N=st:=by rw[<-hl,List.take_left'];rfl
 have:=Weak.cut (T:=T) (sl:=sl) (st:=st++bs) N ?_ hk
 ·rw[ht]at this;exact this
 unfold zJt;simp only[AY,AT,Ba,Cx,Bc];intro i hi;refine⟨zEe sl λj hj=>by have:=hs j hj;omega,λe he=>?_⟩;rw[ht]at he;rcases hn e he with h|h
 ·exact .inl h
 exact .inr (h _ (by omega))
def lts(N:Nat):List Nat->Prop
 |[]=>True
 |j::l=>j<N/\lts N l
theorem lts_mem{N:Nat}:∀{l:List Nat},lts N l->∀j∈l,j<N
 |[],_,j,hj=>by simp at hj
 |i::l,h,j,hj=>by
  rcases AO.1 hj with rfl|hj
  ·exact h.1
  exact lts_mem h.2 j hj
theorem zQn{T:Par}{N:Nat}{sl sl':List D}{st bs:List Bk}(C:Prop)(hl:st.length=N)(hn:∀b∈st,namB N b)(hk:∀k,N<=k->T.keep k=Ac)(hw:Weak T sl (st++bs) sl' (st++bs))(hC:lts N (ownL sl')=C)(hs:C):Weak T sl (st++bs) sl' st:=
 hw.trans (zZe hl hn (lts_mem (hC▸hs)) hk)
structure BdI(it:It):Prop where
 vl:∀k,(vls it.t k).length<=1000000
 fl:∀k,(fst' it.t k).length<=1000001
 fc:∀k,∀c∈fst' it.t k,c<=1000000
 t32:it.t.length<=32
 f32:it.fr.length=32
section
variable {st : List Bk} {k : Nat} {it : It}
end
end
abbrev big:Nat:=100000000000000000
structure MI(ix:List Nat)(na M:Nat)(its:List It)(key:Va)(same k s f:Nat):Prop where
 len:its.length=na
 lt:∀i∈ix,i<na
 lv:∀i∈ix,LvI (its.getD i Af)/\(its.getD i Af).p<(its.getD i Af).e/\(its.getD i Af).e-(its.getD i Af).p<=M
 st:∀i∈ix,(its.getD i Af).s+f*(M+2)<=big
 s1:1<=same
 s2:same<=ix.length
 kf:k+f<=big
 sf:s+f<=big
 ms:msr ix its key same<=f
section
variable {ix : List Nat} {na M : Nat} {its : List It} {key : Va} {same k s f : Nat}
end
section
variable {n na : Nat} {vs : Nat → List Nat}
theorem ats_len(v:Nat):(ats na vs v).length<=na:=by
 grind [ats,AE,Bv]
end
section
open Go.RowKit
structure Mk where
 p:Nat
 n:Nat
 cb:Nat
 A:List (List Nat×List Rw)
 base:Nat->Bk
abbrev atN(a:List Nat×List Rw):List D:=[.row (a.1.map λv=>iD (v:Nat)) a.1.length,iD (a.1.length:Nat), .row (a.2.map rowV) a.2.length]
abbrev Mk.vs(m:Mk)(a:Nat):List Nat:=(m.A.getD a Af).1
abbrev Mk.tr(m:Mk)(a:Nat):Tri:=trieT (m.vs a).length (m.A.getD a Af).2
abbrev it0(t:Tri):It:=⟨t,0,0,0,fr0,0⟩
section
variable {m : Mk} {ix : Nat → List Nat} {al : List Nat} {c : Nat}
structure MOk(m:Mk):Prop where
 bs:∀k,k<m.p->namB m.p (m.base k)
 cb:m.cb<m.p
end
abbrev itS(m:Mk):List It:=(As m.A.length).map λi=>it0 (m.tr i)
abbrev S0(m:Mk):Js:=⟨itS m,AF m.n ⟨0,0,[]⟩,0,[]⟩
structure AOk(m:Mk):Prop where
 n:m.n<=32
 na:m.A.length<=1000
 p:m.p<=50000
 v:Vok m.n m.A.length m.vs
 r:∀a∈m.A,a.2.length<=65536/\(∀r∈a.2,r.length=a.1.length)/\Rsc a.2
structure YbOk(m:Mk)(ch:List Nat)(yb:List (List Va)->Nat->Option Bk):Prop where
 c:∀k∈ch,k<m.p
 cb:m.cb∉ch
 b:∀ys k b,yb ys k=Aw b->k<m.p/\namB m.p b
 z:∀k b,yb [] k=Aw b->b=m.base k
section
variable {m : Mk} {ch : List Nat} {yb : List (List Va) → Nat → Option Bk}
end
end
section
open Go.RowKit
attribute [local irreducible] seqW awp zV zY zR Weak updS zZ retL Pure Acts rP setP setQ cP nP fr
set_option maxRecDepth 4096
def sumS(its:List It):Nat->Nat
 |0=>0
 |i+1=>sumS its i+(its.getD i Af).s
abbrev S1(m:Mk):Js:=extJ (ats m.A.length m.vs) m.n 0 (S0 m)
abbrev S2(m:Mk)(k:Nat):Js:={S1 m with s:=(S1 m).s+sumS (S1 m).its k}
abbrev isD(l:List (Rw×Nat)):List D:=nsD (l.map (·.2))
abbrev rfC(A:List Nat)(l:List (Rw×Nat)):List D:=[.row (nsD A) A.length, .row (rwsD l) l.length, .row (isD l) l.length]
abbrev rfAc(f:Fa Nat):List D:=rfC f.A f.l
section
variable {Dm : List Va}
end
abbrev natI(W:List Nat):List Int:=W.map λw:Nat=>(w:Int)
abbrev rnR(f:Rn):Raw:=⟨f.V,f.R,natI f.W⟩
abbrev rwD(f:Rn):List D:=rawC (rnR f)
structure Rsm(f:Rn):Prop where
 v:f.V.length<=4
 r:f.R.length<=10
 w:f.W.length<=12
 b:∀w∈f.W,w<=1000
end
section
open Go.RowKit
def ddp:List Va->List Va
 |[]=>[]
 |a::l=>if a∈ddp l then ddp l else a::ddp l
theorem zMa:∀{l:List Va}{a:Va},a∈ddp l↔a∈l
 |[],a=>by simp[ddp]
 | b::l,a=>by
  rw[ddp];split
  ·rename_i h;rw[zMa,AO];constructor
   ·exact .inr
   rintro(rfl|h2)
   ·exact zMa.1 h
   exact h2
  rw[AO,AO,zMa]
theorem zFs:∀l:List Va,(ddp l).Nodup
 |[]=>by simp[ddp]
 |b::l=>by
  rw[ddp];split
  ·exact zFs l
  rename_i h;exact B2.2 ⟨h,zFs l⟩
def toFa(f:Rn):Fa Nat:=⟨f.V.map Aj,f.R.zip f.W⟩
structure Tofa(Dm:List Va)(f:Rn):Prop where
 c:rnC f=faAc (toFa f)
 w:rwD f=rfAc (toFa f)
 ok:FOk rcmp Dm (toFa f)
 r:rz (toFa f)<=11
 v:vz (toFa f)<=10001
 A:f.V=intL (toFa f).A
theorem pz_le{α:Type}{z:α->Nat}{b:Nat}:∀{l:List α},(∀a∈l,z a<=b)->pz z l<=b^l.length
 |[],_=>by simp[pz]
 |a::l,h=>by
  rw[zCl,AR,Nat.pow_succ,Nat.mul_comm];exact Nat.mul_le_mul (pz_le λc hc=>h c (Bj _ hc)) (h a (AW ..))
def rn1(f:Rn):Rn:=⟨f.V,f.R,AF f.R.length 1⟩
section
variable {n : Nat} {fs : List Rn} (hn : n ≤ 8) (hl : fs.length ≤ 4) (hs : ∀ f ∈ fs, Rsm f) (h1 : errL n fs = 0) (h2 : covP n fs = true)
include hn hl hs h1 h2
end
end
section
open Go.RowKit
attribute [local irreducible] seqW awp zV zY zR Weak updS zZ retL Pure Acts rP setP setQ cP nP fr
set_option maxRecDepth 4096
abbrev afC(f:Rn):List D:=[.row (f.V.map λz=>iD z) f.V.length,iD (f.V.length:Nat), .row (f.R.map rowV) f.R.length]
abbrev afB(f:Rn):Bk:=⟨afC f,45,0,Ac,Ac, .plain⟩
theorem rep_succ{α:Type}(f:α->D)(a:α)(i:Nat):(AF (i+1) a).map f=(AF i a).map f++[f a]:=by
 rw[List.replicate_succ',Bb];rfl
set_option maxHeartbeats 2000000 in
theorem fromB_c(f:Rn)(hV:f.V.length<=1000)(hR:f.R.length<=1000)(hl:∀r∈f.R,r.length<=2000000):Pure Al 87 [booD, .agg (afC f)] [] (.agg (rnCB (rn1 f))):=by
 obtain⟨V,R,W⟩:=f;simp only at hV hR hl;have hcl:=zYy (V.map λz=>iD z) V.length (by simp) (by omega);have hrr:=rRows_c (V.length:Nat) R (by omega) hl;show Pure _ _ _ [] (.agg [.row (V.map λz=>iD z) V.length, .row (R.map rowV) R.length, .row ((AF R.length 1).map λx=>bD (g0 x)) (AF R.length 1).length]);obtain⟨o,ho⟩:∃o:Bool,o=true:=⟨Ab,rfl⟩;have e1:(AF R.length 1).map (λx=>bD (g0 x))=(AF R.length o).map bD:=by
  rw[Cz,Cz,ho];rfl
 rw[List.length_replicate,e1];have hone:=bone_c o ho;refine zH (T:=Tc) (zVt _ _ _) mixed Tryz.func87 rfl<|vAu<|zB<|vd [0,3,1,2,4,5,6,7,8]<|vr 3 (True/\True/\0<3)<|vc (hcl)<|vr 1 (2<=2)<|vc (hrr)<|vr 3 (((1=1/\1<=3/\1=1/\2<=3/\True)/\Ab=Ab)/\Ac=Ac/\Ab=Ab/\3=3/\3<=3)<|vnil<|zC<|vnn (fr 27 [(0,booD),(3,AC 0 0),(4,AC 1 0),(5,AC 2 0),(6,AC 0 0),(7,Ae (Ad (λ(z:Int)=>iD z) V)<|Aa V),(8,Ae (Ad (λ(z:Int)=>iD z) V)<|Aa V),(9,AC 0 1),(10,Aq [iD (Aa V:Int),Ae (Ad rowV R)<|Aa R]),(11,Ae (Ad rowV R)<|Aa R),(12,Aq [Ae (Ad (λ(z:Int)=>iD z) V)<|Aa V,Ae (Ad rowV R)<|Aa R,nl])]) [Av [Ae (Ad (λ(z:Int)=>iD z) V)<|Aa V,iD (Aa V:Int),Ae (Ad rowV R)<|Aa R] 45 0 Ac Ac Az,Av [nl,nl,nl] 133 0 Ac Ac Az,Av [Ae (Ad (λ(z:Int)=>iD z) V)<|Aa V,Ae (Ad rowV R)<|Aa R,nl] 133 0 Ac Ac Az]<|zCc (Weak.nilC (j:=2) (i:=2) (zDm []) rfl rfl rfl rfl) ?_;refine zB<|vAs<|ve (True/\0<2)<|zG<|zP (λ(i:Nat)=>fr 27 [(0,booD),(4,AC 1 0),(5,AC 2 0),(15,iD<|Aa R),(16,iD i)]) (λ(i:Nat)=>[afB ⟨V,R,W⟩,fB1B nl nl nl,fB1B (.row (V.map λz=>iD z) V.length) (.row (R.map rowV) R.length)<|.osl 3 0 i i Ab,zDm<|(AF i o).map bD]) (λi=>R.length-i) (λ(i:Nat)=>i<=R.length) 0 ?_ ?_ ?_
 ·omega
 ·refine vk 4
 rintro i h1;have hll:((AF i o).map bD).length=i:=by simp
 rcases Ap i R.length with h2|h2
 ·have e0:=rep_succ bD o i;refine vAu<|zB<|vT ((i:Int)<↑(Aa R))<|vKB<|vd [0,2,1,3,4,5,6,7]<|vr 3 (True/\0<1)<|vc hone<|vr 4 (((1=1/\1<=1/\True)/\0<1/\1=1/\1<=16777216/\1<=9223372036854775807)/\(Bi (zDm<|Ad bD<|AF i o)=Ab/\Aa (AG<|zDm<|Ad bD<|AF i o)=i*1/\i=i*1/\A8 (zDm<|Ad bD<|AF i o)=4/\A9 (zDm<|Ad bD<|AF i o)=1/\1=1/\0<1/\0<1/\4=4/\(i+1)*1<=140737488355328/\1=1/\A4 (AI<|zDm<|Ad bD<|AF i o)=Ac/\(Ac=Ac\/A5 (AI<|zDm<|Ad bD<|AF i o)=Ab))/\True/\Ac=Ac/\Ab=Ab/\1=1/\3<=3)<|vb 2 (Av [Ae (Ad (λ(z:Int)=>iD z) V)<|Aa V,Ae (Ad rowV R)<|Aa R,Ak 3 0 (i+1) ((i+1)*1) Ab] 133 0 Ac Ac Az) (Av [Ae (Ad (λ(z:Int)=>iD z) V)<|Aa V,Ae (Ad rowV R)<|Aa R,Ak 3 0 (i+1) (i+1) Ab] 133 0 Ac Ac Az) (hd:=by simp(disch:=omega) only[A_])<|vnil<|zE<|vN<|zA rfl<|vr 2 (i6 (↑i+1))<|vnil<|zC<|⟨i+1,by omega,by omega,?_⟩;rw[e0];refine vk 4
 obtain rfl:i=R.length:=by omega
 have ht:((AF R.length o).map bD).take R.length=(AF R.length o).map bD:=AQ (by simp);refine vAu<|zB<|vF ((Aa R:Int)<↑(Aa R))<|vZ2<|vA<|ve (3<=3/\Ac=Ac/\Ab=Ab/\3=3/\3<=3)<|zJ<|zAu (3<=3) (Aq [Ae (Ad (λ(z:Int)=>iD z) V)<|Aa V,Ae (Ad rowV R)<|Aa R,Ae (Ai (Aa R)<|Ag 0<|AG<|zDm<|Ad bD<|AF (Aa R) o)<|Aa R]) (Aq [Ae (Ad (λ(z:Int)=>iD z) V)<|Aa V,Ae (Ad rowV R)<|Aa R,Ae (Ad bD<|AF (Aa R) o)<|Aa R]) (.inr rfl) (by simp(disch:=omega) only[AJ,ht]) rfl (hc:=by omega)
def okC(x:Option Nat):Prop:=Sm (x.getD 0)
def okP(p:Nat×Option Nat):Prop:=Sm p.1/\okC p.2
end
section
open Go.RowKit
set_option maxRecDepth 4096
abbrev FnK:Type:=List Nat×List (Rw×(Option Nat))
section
variable (A B : List Nat) (lb : List (Rw × (Option Nat))) (ok : Rw → Bool)
variable {A B lb ok}
end
end
section
open Go.RowKit
attribute [local irreducible] seqW awp zV zY zR Weak updS zZ retL Pure Acts rP setP setQ cP nP fr
set_option maxRecDepth 4096
structure FVK(f:FnK):Prop where
 asc:Asc f.1
 len:∀p∈f.2,p.1.length=f.1.length
 vs:∀p∈f.2,∀x∈p.1,Vs x
 sz:f.2.length<=1000000
 sm:∀p∈f.2,okC p.2
 nd:Ndk f.2
end
section
open Go.RowKit
set_option maxRecDepth 4096
structure GofK(Dm:List Va)(f:Fa (Option Nat)):Prop where
 ok:FOk rcmp Dm f
 r:rz f<=900000
 v:kz f<=Bz
section
variable {Dm : List Va} (hD : Okv Dm)
end
abbrev FnP:Type:=List Nat×List (Rw×(Nat×Option Nat))
section
variable (A B : List Nat) (lb : List (Rw × (Nat × Option Nat))) (ok : Rw → Bool)
variable {A B lb ok}
end
end
section
open Go.RowKit
attribute [local irreducible] seqW awp zV zY zR Weak updS zZ retL Pure Acts rP setP setQ cP nP fr
set_option maxRecDepth 4096
structure FVP(f:FnP):Prop where
 asc:Asc f.1
 len:∀p∈f.2,p.1.length=f.1.length
 vs:∀p∈f.2,∀x∈p.1,Vs x
 sz:f.2.length<=1000000
 sm:∀p∈f.2,okP p.2
 nd:Ndk f.2
end
section
open Go.RowKit
set_option maxRecDepth 4096
structure GofP(Dm:List Va)(f:Fa (Nat×Option Nat)):Prop where
 ok:FOk rcmp Dm f
 r:rz f<=900000
 v:qz f<=Bz
section
variable {Dm : List Va} (hD : Okv Dm)
end
section
variable {α β γ : Type} (g : α → β)
theorem mp_ok{c:Rw->Rw->Int}{Dm:List Va}{f:Fa α}(h:FOk c Dm f):FOk c Dm (f.mp g):=
 ⟨h.asc,λp hp=>by obtain⟨q,hq,rfl⟩:=Am.1 hp;exact h.len q hq,BQ.2 h.srt,λp hp=>by obtain⟨q,hq,rfl⟩:=Am.1 hp;exact h.dom q hq⟩
end
@[irreducible] def Mz:Nat:=1000
section
variable {n : Nat} {fs : List Rn} (hn : n ≤ 8) (hl : fs.length ≤ 4) (hs : ∀ f ∈ fs, Rsm f) (hv : ∀ f ∈ fs, ∀ x ∈ f.R, ∀ a ∈ x, Vi a) (h0 : zGu n 0 fs = 0)
include hn hl hs hv h0
end
structure AtOk(n:Nat)(A:List (List Nat×List Rw)):Prop where
 n8:n<=8
 l:A.length<=5
 asc:∀a∈A,a.1.Pairwise (· <·)
 lt:∀a∈A,∀v∈a.1,v<n
 cov:∀v,v<n->∃a∈A,v∈a.1
 srt:∀a∈A,Rsc a.2
 len:∀a∈A,∀r∈a.2,r.length=a.1.length
 few:∀a∈A,a.2.length<=10
 val:∀a∈A,∀r∈a.2,∀v∈r,vok v=Ab/\Vs v
def rnA(a:List Nat×List Rw):Rn:=⟨intL a.1,a.2,[]⟩
abbrev rnAB(a:List Nat×List Rw):List D:=rnCB (rn1 (rnA a))
def valsA(A:List (List Nat×List Rw)):List Va:=ddp (A.flatMap λa=>a.2.flatten)
theorem rnAB_eq(a:List Nat×List Rw):rnAB a=zAd (faT a):=by
 obtain⟨V,R⟩:=a;have e1:((intL V).map λz=>iD z)=nsD V:=by simp[intL]
 have e2:(intL V).length=V.length:=by simp[intL]
 have e3:(R.map λr=>(r,Ab)).map (·.1)=R:=by rw[By];exact List.map_id _
 have e4:((R.map λr=>(r,Ab)).map (·.2)).map bD=(AF R.length 1).map λx=>bD (g0 x):=by
  rw[Cz,By,By];have h:∀R:List Rw,R.map ((bD∘λx:Rw×Bool=>x.2)∘λr=>(r,Ab))=AF R.length (bD (g0 1)):=λR=>by
   induction R with
   |nil=>rfl
   |cons r R ih=>rw[CA,ih,AR,CB];rfl
  exact h R
 show[Ae ((intL V).map λz=>iD z) (intL V).length, .row (R.map rowV) R.length, .row ((AF R.length 1).map λx=>bD (g0 x)) (AF R.length 1).length]=[.row (nsD V) V.length, .row (((R.map λr=>(r,Ab)).map (·.1)).map rowV) (R.map λr=>(r,Ab)).length, .row (((R.map λr=>(r,Ab)).map (·.2)).map bD) (R.map λr=>(r,Ab)).length];rw[e1,e2,e3,e4,An,List.length_replicate]
theorem afC_rnA(a:List Nat×List Rw):afC (rnA a)=atN a:=by
 obtain⟨V,R⟩:=a;have e1:((intL V).map λz=>iD z)=nsD V:=by simp[intL]
 have e2:(intL V).length=V.length:=by simp[intL]
 show[Ae ((intL V).map λz=>iD z) (intL V).length,iD ((intL V).length:Nat),_]=[Ae (nsD V) V.length,iD (V.length:Nat),_];rw[e1,e2];rfl
section
variable {n : Nat} {A : List (List Nat × List Rw)} (h : AtOk n A)
include h
theorem AtOk.fok:∀a∈A,FOk rcmp (valsA A) (faT a):=λa ha=>by
 have hn:=h.n8;refine⟨⟨h.asc a ha,λv hv=>by have:=h.lt a ha v hv;omega⟩,λp hp=>?_,?_,λp hp v hv=>?_⟩
 ·obtain⟨r,hr,rfl⟩:=Am.1 hp;exact h.len a ha r hr
 ·exact BQ.2 (h.srt a ha)
 obtain⟨r,hr,rfl⟩:=Am.1 hp;exact zMa.2 (Bt.2 ⟨a,ha,List.mem_flatten.2 ⟨r,hr,hv⟩⟩)
theorem AtOk.okv:Okv (valsA A):=λv hv=>by
 obtain⟨a,ha,h1⟩:=Bt.1 (zMa.1 hv);obtain⟨r,hr,h2⟩:=List.mem_flatten.1 h1;exact h.val a ha r hr v h2
theorem AtOk.chk:∀a∈A,chkR n (rn1 (rnA a))=0:=λa ha=>by
 have hk:=mp_ok (λ_:Bool=>(0:Nat)) (h.fok a ha);have hc:=chk_ok (n:=n) hk h.okv λv hv=>by have:=h.lt a ha v hv;omega
 have e:((faT a).mp λ_:Bool=>(0:Nat)).l.map (·.1)=a.2:=by
  show(((a.2.map λr=>(r,Ab)).map λp=>(p.1,0)).map (·.1))=_;rw[By,By];exact List.map_id _
 have e2:(((faT a).mp λ_:Bool=>(0:Nat)).l.map (·.2)).length=(AF a.2.length 1).length:=by
  show(((a.2.map λr=>(r,Ab)).map λp=>(p.1,0)).map (·.2)).length=_;simp
 rw[e,e2]at hc;exact hc
theorem AtOk.wrong:zGu n 0 (A.map λa=>rn1 (rnA a))=0:=by
 have hn:=h.n8;have h1:errL n (A.map λa=>rn1 (rnA a))=0:=errL_0 λj hj=>by
  rw[An]at hj;rw[Ao,BE,Ar hj];exact h.chk _ (Bl hj)
 have h2:covP n (A.map λa=>rn1 (rnA a))=true:=by
  unfold covP;rw[AY];intro v hv;obtain⟨a,ha,hva⟩:=h.cov v (AT.1 hv);exact Bp.2 ⟨_,Am.2 ⟨a,ha,rfl⟩,decide_eq_true (mem_intL.2 hva)⟩
 unfold zGu;rw[if_neg (by rw[Au,Nat.zero_shiftRight];omega),if_neg (by rw[h1];exact λk=>k rfl),Au,if_pos h2]
theorem AtOk.wrong1(h0:0<n):zGu n 1 (A.map λa=>rn1 (rnA a))=0:=by
 have hw:=h.wrong;have hn:=h.n8;have e:1>>>n=0:=by
  rw[Nat.shiftRight_eq_div_pow];exact Nat.div_eq_of_lt (BW (by decide:1<2^1) (Bo (by omega) h0))
 unfold zGu at hw⊢;rw[Au]at hw⊢;rw[if_neg (by rw[Nat.zero_shiftRight];omega)]at hw;rw[if_neg (by rw[e];omega)];exact hw
theorem zLu(k:Nat)(hk:k<4294967296)(hw:zGu n k (A.map λa=>rn1 (rnA a))=0):Pure Al 69 [booD,iD (n:Nat),u32D k, .row (A.flatMap rnAB) A.length] [] (.tup [faAB (zE4 popN rcmp Sb (A.map faT) ((As n).filter λv=>!k.testBit v)),iD 0]):=by
 have hn:=h.n8;have hl:=h.l;have e1:(A.map λa=>rn1 (rnA a)).flatMap rnCB=(A.map faT).flatMap zAd:=by
  rw[B3,B3];exact congrArg (λf=>A.flatMap f) (funext rnAB_eq)
 have e2:A.flatMap rnAB=(A.map faT).flatMap zAd:=by
  rw[<-e1,B3]
 have hck:=zVg n k (A.map λa=>rn1 (rnA a)) hn hk (by rw[An];omega) λf hf=>by
  obtain⟨a,ha,rfl⟩:=Am.1 hf;have h3:=zB0 (A:=a.1) ⟨h.asc a ha,λv hv=>by have:=h.lt a ha v hv;omega⟩;have h4:=h.few a ha;refine⟨?_,?_⟩
  ·show(intL a.1).length<=1000;rw[show(intL a.1).length=a.1.length by simp[intL]];omega
  show a.2.length<=1000;omega
 rw[hw,e1,An]at hck;have hok:∀g∈A.map faT,FOk rcmp (valsA A) g:=λg hg=>by
  obtain⟨a,ha,rfl⟩:=Am.1 hg;exact h.fok a ha
 have s1:=pz_le (z:=rz) (b:=11) (l:=A.map faT) λg hg=>by
  obtain⟨a,ha,rfl⟩:=Am.1 hg
  have:=h.few a ha
  unfold rz faT;rw[An];omega
 have s2:=pz_le (z:=bz) (b:=1) (l:=A.map faT) λg hg=>AU _;rw[An]at s1 s2;rw[Nat.one_pow]at s2;have s3:11^A.length<=11^5:=Bo (by omega) hl;have e3:11^5=161051:=by decide
 have s6:2^1<=Bz:=Bo (by omega) (by rw[Ez_eq];omega);have s4:2*pz bz (A.map faT)<=Bz:=AE (Ci 2 s2) s6;have hm:=zTk h.okv (zFs _) n k (A.map faT) hn hk hok (by rw[An];omega) (by omega) s4 (λv hv=>by
  obtain⟨a,ha,hva⟩:=h.cov v hv;exact⟨_,Am.2 ⟨a,ha,rfl⟩,hva⟩) (by rw[An];exact hck)
 rw[An,<-e2]at hm;exact hm
theorem totalA_c:∃b:Bool,(b=Ab↔∃τ,SatA A τ)/\Pure Al 67 [booD,iD (n:Nat), .row (A.flatMap rnAB) A.length] [] (.tup [bD b,iD 0]):=by
 have hm:=zLu h 0 (by decide) h.wrong;exact⟨_,tot_T (pop:=popN) (zFs _) h.fok h.lt h.cov,total_cB _ _ _ _ hm⟩
theorem leastA_c(h0:0<n):∃m:Fa Bool,FOk rcmp (valsA A) m/\m.A=[0]/\(∀x,[x]∈m.l.map (·.1)↔∃τ,τ 0=x/\SatA A τ)/\Pure Al 69 [booD,iD (n:Nat),u32D 1, .row (A.flatMap rnAB) A.length] [] (.tup [faAB m,iD 0]):=by
 have hm:=zLu h 1 (by decide) (h.wrong1 h0);obtain⟨m,e,h1,h2,h3⟩:=lst_T (pop:=popN) (zFs (A.flatMap λa=>a.2.flatten)) h.fok h.lt h.cov h0;rw[<-e]at hm;exact⟨m,h1,h2,h3,hm⟩
end
end
section
open Go.Proofs
structure Cm{α:Type}(c:α->α->Int):Prop where
 eq:∀a b,c a b=0↔a=b
 neg:∀a b,c b a=0-c a b
 tr:∀a b d,c a b<0->c b d<0->c a d<0
def icmp(a b:Int):Int:=if a<b then-1 else if b<a then 1 else 0
theorem zTq:Cm icmp:=by
 refine⟨λa b=>?_,λa b=>?_,λa b d=>?_⟩<;>unfold icmp<;>(repeat' split)<;>omega
def lcmp:List Int->List Int->Int
 |[],[]=>0
 |[],_::_=>-1
 |_::_,[]=>1
 |x::a,y::b=>if x<y then-1 else if y<x then 1 else lcmp a b
theorem zPt:∀a b,lcmp a b=0↔a=b
 |[],[]=>by simp[lcmp]
 |[],_::_=>by simp[lcmp]
 |_::_,[]=>by simp[lcmp]
 |x::a,y::b=>by
  have:=zPt a b
  simp only[lcmp,List.cons.injEq];grind
theorem zW1:∀a b,lcmp b a=0-lcmp a b
 |[],[]=>by simp[lcmp]
 |[],_::_=>by simp[lcmp]
 |_::_,[]=>by simp[lcmp]
 |x::a,y::b=>by
  have:=zW1 a b
  simp only[lcmp];(repeat' split)<;>omega
theorem lcmp_tr:∀a b d,lcmp a b<0->lcmp b d<0->lcmp a d<0
 |[],[],d,h,k=>by simp[lcmp]at h
 |_::_,[],d,h,k=>by simp[lcmp]at h
 |_,_::_,[],h,k=>by simp[lcmp]at k
 |[],y::b,z::d,h,k=>by simp[lcmp]
 |x::a,y::b,z::d,h,k=>by
  have ih:=lcmp_tr a b d;simp only[lcmp]at h k⊢;omega
section
variable {α : Type} {c : α → α → Int}
def AscW(c:α->α->Int)(l:List α):Prop:=l.Pairwise λa b=>c a b<0
def putG(c:α->α->Int)(x:α):List α->Bool->List α
 |[],done=>if done then[]else[x]
 |y::l,done=>(if !done&&decide (0<=c y x)then[x]else[])++(if c y x≠0 then[y]else[])++putG c x l (done||decide (0<=c y x))
def setG(c:α->α->Int)(l:List α):List α:=l.foldl (λo x=>putG c x o Ac) []
theorem zG8(hc:Cm c)(x z:α):∀(l:List α)(done:Bool),z∈putG c x l done↔(done=Ac/\z=x)\/(z∈l/\z≠x)
 |[],done=>by cases done<;>simp[putG]
 |y::l,done=>by
  simp only[putG,Br,zG8 hc x z l,AO];have e:=hc.eq y x;grind
theorem zRd(hc:Cm c)(x:α):∀(l:List α),AscW c l->AscW c (putG c x l Ab)
 |[],h=>by simp[putG,AscW]
 |y::l,h=>by
  unfold AscW at h;rw[Bd]at h;have ih:=zRd hc x l h.2;simp only[putG,CC,Bool.false_and,CD,if_false,AP,Bool.true_or];grind [AscW,List.singleton_append,Bd,zG8]
theorem zWl(hc:Cm c)(x:α):∀(l:List α),AscW c l->AscW c (putG c x l Ac)
 |[],h=>by simp[putG,AscW]
 | y::l,h=>by
  unfold AscW at h;rw[Bd]at h;by_cases h0:0<=c y x
  ·have hd:=zRd hc x l h.2;simp only[putG,h0,decide_true,Bool.not_false,Bool.and_self,if_true,Bool.or_true];have hxl:∀z∈l,c x z<0:=by
    intro z hz
    have:=h.1 z hz
    by_cases he:c y x=0
    ·rw[(hc.eq y x).1 he]at this;exact this
    exact hc.tr x y z (by have:=hc.neg y x;omega) this
   have hx2:∀z∈putG c x l Ab,z∈l:=by
    grind [zG8]
   unfold AscW;split
   ·rename_i hne;simp only[AM,AP,Bd,AO];refine⟨λz hz=>?_,λz hz=>h.1 z (hx2 z hz),hd⟩;rcases hz with rfl|hz
    ·have:=hc.neg z x;omega
    exact hxl z (hx2 z hz)
   simp only[AM,AP,Bd];exact⟨λz hz=>hxl z (hx2 z hz),hd⟩
  have ih:=zWl hc x l h.2;have hne:c y x≠0:=by omega
  simp only[putG,h0,decide_false,Bool.and_false,CD,if_false,AP,hne,ne_eq,not_false_eq_true,if_true,Bool.or_false];grind [AscW,List.singleton_append,Bd,zG8]
theorem zH6(hc:Cm c)(z:α):∀(l o:List α),AscW c o->AscW c (l.foldl (λo x=>putG c x o Ac) o)/\(z∈l.foldl (λo x=>putG c x o Ac) o↔z∈l\/z∈o)
 |[],o,h=>by simp[h]
 |x::l,o,h=>by
  have:=zH6 hc z l (putG c x o Ac) (zWl hc x o h)
  grind [zG8]
theorem zN2(hc:Cm c)(l:List α):AscW c (setG c l):=by
 cases l with
 |nil=>exact B4.nil
 |cons x l=>exact(zH6 hc x (x::l) [] B4.nil).1
theorem zN1(hc:Cm c)(l:List α)(z:α):z∈setG c l↔z∈l:=by
 have:=(zH6 hc z l [] B4.nil).2
 simpa[setG]using this
theorem zQf(hc:Cm c):∀{l m:List α},AscW c l->AscW c m->(∀z,z∈l↔z∈m)->l=m
 |[],[],_,_,_=>rfl
 |[],y::m,_,_,h=>by have:=(h y).2 (AW ..);cases this
 |x::l,[],_,_,h=>by have:=(h x).1 (AW ..);cases this
 | x::l,y::m,hl,hm,h=>by
  unfold AscW at hl hm;rw[Bd]at hl hm;have irr:∀a,¬c a a<0:=λa=>by have:=(hc.eq a a).2 rfl;omega
  have e:x=y:=by
   have h1:=(h x).1 (AW ..);have h2:=(h y).2 (AW ..);rcases AO.1 h1 with h1|h1
   ·exact h1
   rcases AO.1 h2 with h2|h2
   ·exact h2.symm
   exact absurd (hc.tr _ _ _ (hl.1 y h2) (hm.1 x h1)) (irr x)
  subst e;congr 1;refine zQf hc hl.2 hm.2 λz=>?_;grind
theorem zYc(hc:Cm c){l m:List α}(h:∀z,z∈l↔z∈m):setG c l=setG c m:=by grind [zQf,zN2,zN1]
def dedG[DecidableEq α](p:α):List α->List α
 |[]=>[]
 |x::l=>if x=p then dedG p l else x::dedG x l
def ddG[DecidableEq α]:List α->List α
 |[]=>[]
 |x::l=>x::dedG x l
theorem zSe[DecidableEq α](hc:Cm c):∀(l:List α)(p:α),(p::l).Pairwise (λa b=>¬c b a<0)->AscW c (p::dedG p l)/\∀z,z∈p::dedG p l↔z∈p::l
 |[],p,h=>by simp[dedG,AscW]
 | x::l,p,h=>by
  rw[Bd]at h;have hpx:=h.1 x (AW ..);have ih:=zSe hc l x h.2;unfold dedG;split
  ·grind
  rename_i hne;have hlt:c p x<0:=by
   have h1:=hc.neg p x;have h2:c p x≠0:=λh=>hne ((hc.eq p x).1 h).symm;omega
  refine⟨?_,λz=>by rw[AO,ih.2,AO (a:=z) (b:=p)]⟩;unfold AscW;rw[Bd];refine⟨λz hz=>?_,ih.1⟩;rcases AO.1 hz with rfl|hz
  ·exact hlt
  have:=ih.1
  unfold AscW at this;rw[Bd]at this;exact hc.tr _ _ _ hlt (this.1 z hz)
theorem zYt[DecidableEq α](hc:Cm c){l:List α}(h:l.Pairwise (λa b=>¬c b a<0)):ddG l=setG c l:=by
 cases l with
 |nil=>rfl
 |cons x l=>
  have:=zSe hc l x h
  exact zQf hc this.1 (zN2 hc _) λz=>by rw[zN1 hc];exact this.2 z
end
theorem zSj(x:Int)(l:List Int):Bf (x::l)=x::dedG x l:=by
 have key:∀(l:List Int)(x:Int),Bf (x::l)=x::dedG x l:=by
  intro l;induction l with
  |nil=>intro x;simp[Bf,CE,dedG,BF,BA]
  | cons y l ih=>
   intro x;have h1:Bf (x::y::l)=x::(if y=x then(Bf (y::l)).tail else Bf (y::l)):=by
    simp only[Bf,CE,AR];rw[List.range_succ_eq_map,Bq];have hk0:BA (x::y::l).toArray 0=true:=by simp[BA]
    rw[if_pos hk0,CA,List.filter_map,By];congr 1;have hfun:((λx_1=>(x::y::l).toArray[x_1]!)∘B5)=λi=>(y::l).toArray[i]!:=by funext i;simp
    rw[hfun];rw[List.range_succ_eq_map];simp only[Bq,List.filter_map,CA,By];have hk1:(BA (x::y::l).toArray∘B5) 0=decide (y≠x):=by
     simp[BA]
    have hk2:BA (y::l).toArray 0=true:=by simp[BA]
    have hk3:((BA (x::y::l).toArray∘B5)∘B5)=(BA (y::l).toArray∘B5):=by
     funext i;simp[BA]
    grind
   rw[h1,ih y];simp only[dedG,List.tail_cons];grind
 exact key l x
theorem zYw(l:List Int):Bf l=ddG l:=by
 cases l with
 |nil=>rfl
 |cons x l=>exact zSj x l
end
section
open Go.RowKit
abbrev intD(z:Int):D:= .val (.int .i64 z)
abbrev intsD(l:List Int):D:= .row (l.map intD) l.length
end
section
open Go.RowKit
set_option maxRecDepth 4096
theorem zHo(l:List Int)(k:Nat)(h:k<l.length):((l.map intD).drop k).headD .unk=intD (l.getD k 0):=zA0 intD l 0 k h
theorem zRw{a b:List Int}{i:Nat}(ha:i<a.length)(hb:i<b.length):lcmp (a.drop i) (b.drop i)=if a.getD i 0<b.getD i 0 then-1 else if b.getD i 0<a.getD i 0 then 1 else lcmp (a.drop (i+1)) (b.drop (i+1)):=by
 grind [BK,lcmp]
theorem zKk{a b:List Int}{i:Nat}(h:i=a.length\/i=b.length)(h1:i<=a.length)(h2:i<=b.length):lcmp (a.drop i) (b.drop i)=if a.length<b.length then-1 else if b.length<a.length then 1 else 0:=by
 have e1:=Bn (i:=i) (l:=a);have e2:=Bn (i:=i) (l:=b);generalize a.drop i=X at*;generalize b.drop i=Y at*;match X,Y,e1,e2 with
 |[],[],e1,e2=>simp only[lcmp,BR]at*;rw[if_neg (by omega),if_neg (by omega)]
 |[],y::Y,e1,e2=>simp only[lcmp,BR,AR]at*;rw[if_pos (by omega)]
 |x::X,[],e1,e2=>simp only[lcmp,BR,AR]at*;rw[if_neg (by omega),if_pos (by omega)]
 |x::X,y::Y,e1,e2=>simp only[AR]at*;omega
end
section
open Go.RowKit
theorem AtOk.rest{n:Nat}{A:List (List Nat×List Rw)}(h:AtOk n A){p:Rw}(hp:p.length<=n):AtOk (n-p.length) (A.map (zAw p)) where
 n8:=by have:=h.n8;omega
 l:=by rw[An];exact h.l
 asc b hb:=by
  obtain⟨a,ha,rfl⟩:=Am.1 hb
  show(rstF p a.1 0 a.2).1.Pairwise (· <·)
  rw[zG3,BQ]
  refine((h.asc a ha).filter _).imp_of_mem λ{u v} hu hv huv=>?_
  have:=of_decide_eq_true (AL.1 hu).2
  omega
 lt b hb v hv:=by
  obtain⟨a,ha,rfl⟩:=Am.1 hb
  have hv:v∈(rstF p a.1 0 a.2).1:=hv
  rw[zG3]at hv
  obtain⟨u,hu,rfl⟩:=Am.1 hv
  obtain⟨h1,h2⟩:=AL.1 hu
  have h3:=h.lt a ha u h1
  have:=of_decide_eq_true h2
  omega
 cov v hv:=by
  obtain⟨a,ha,hva⟩:=h.cov (v+p.length) (by omega)
  refine⟨_,Am.2 ⟨a,ha,rfl⟩,?_⟩
  show v∈(rstF p a.1 0 a.2).1
  rw[zG3]
  exact Am.2 ⟨v+p.length,AL.2 ⟨hva,decide_eq_true (by omega)⟩,by omega⟩
 srt b hb:=by
  obtain⟨a,ha,rfl⟩:=Am.1 hb
  exact zWc _
 len b hb r hr:=by
  obtain⟨a,ha,rfl⟩:=Am.1 hb
  obtain⟨s,hs,rfl⟩:=Am.1 (zHd.1 hr)
  show(zT s (rstF p a.1 0 a.2).2.1).length=(rstF p a.1 0 a.2).1.length
  unfold zT
  rw[An,zN6]
 few b hb:=by
  obtain⟨a,ha,rfl⟩:=Am.1 hb
  have h1:=zPa ((rstF p a.1 0 a.2).2.2.map λr=>zT r (rstF p a.1 0 a.2).2.1)
  rw[An]at h1
  have h2:=(zN5 p a.1 0 a.2).length_le
  have h3:=h.few a ha
  show(relR _).length<=10
  omega
 val b hb r hr v hv:=by
  obtain⟨a,ha,rfl⟩:=Am.1 hb
  obtain⟨s,hs,rfl⟩:=Am.1 (zHd.1 hr)
  have hs2:=zLf p _ _ _ _ hs
  obtain⟨c,hc,rfl⟩:=Am.1 hv
  have h1:=(zKg p a.1 0 a.2 c hc).2
  have h2:=h.len a ha s hs2
  refine h.val a ha s hs2 _ ?_
  rw[Ao,Ar (by omega)]
  exact Bl _
structure AtW(A:List (List Nat×List Rw)):Prop where
 l:A.length<=5
 asc:∀a∈A,a.1.Pairwise (· <·)
 lt:∀a∈A,∀v∈a.1,v<8
 srt:∀a∈A,Rsc a.2
 len:∀a∈A,∀r∈a.2,r.length=a.1.length
 few:∀a∈A,a.2.length<=10
 val:∀a∈A,∀r∈a.2,∀v∈r,vok v=Ab/\Vs v
theorem AtOk.w{n:Nat}{A:List (List Nat×List Rw)}(h:AtOk n A):AtW A:=⟨h.l,h.asc,λa ha v hv=>by have:=h.lt a ha v hv;have:=h.n8;omega,h.srt,h.len,h.few,h.val⟩
theorem AtW.sub{A B:List (List Nat×List Rw)}(h:AtW A)(hl:B.length<=5)(hs:∀b∈B,b∈A):AtW B:=⟨hl,λa ha=>h.asc a (hs a ha),λa ha=>h.lt a (hs a ha),λa ha=>h.srt a (hs a ha),λa ha=>h.len a (hs a ha),λa ha=>h.few a (hs a ha),λa ha=>h.val a (hs a ha)⟩
def zCg(A:List (List Nat×List Rw)):List Int:=setG icmp (A.flatMap λa=>intL a.1)
def zGg(A:List (List Nat×List Rw))(v:Nat):Nat:=(zCg A).idxOf (v:Int)
section
variable {A : List (List Nat × List Rw)}
theorem zEr{z:Int}:z∈zCg A↔∃a∈A,∃v∈a.1,z=((v:Nat):Int):=by
 unfold zCg;rw[zN1 zTq,Bt];constructor
 ·rintro⟨a,ha,hz⟩;obtain⟨v,hv,rfl⟩:=Am.1 hz;exact⟨a,ha,v,hv,rfl⟩
 rintro⟨a,ha,v,hv,rfl⟩;exact⟨a,ha,Am.2 ⟨v,hv,rfl⟩⟩
theorem used_asc:(zCg A).Pairwise (· <·):=by
 have:=zN2 zTq (A.flatMap λa=>intL a.1)
 refine this.imp λ{x y} h=>?_;unfold icmp at h;split at h
 ·assumption
 split at h<;>omega
theorem zQe:∀(l:List Int)(b:Nat),l.Pairwise (· <·)->(∀x∈l,(b:Int)<=x/\x<8)->l.length<=8-b
 |[],b,_,_=>BG _
 | x::l,b,h,k=>by
  rw[Bd]at h;have hx:=k x (AW ..);have ih:=zQe l (x.toNat+1) h.2 λy hy=>by
   have h1:=h.1 y hy;have h2:=k y (Bj _ hy);omega
  rw[AR];omega
theorem dense_get{i:Nat}(hi:i<(zCg A).length):(zCg A).idxOf (zCg A)[i]=i:=by
 have hn:(zCg A).Nodup:=used_asc.imp λh e=>by omega
 exact hn.idxOf_getElem i hi
variable (h : AtW A)
include h
theorem zVy:(zCg A).length<=8:=zQe (zCg A) 0 used_asc λx hx=>by
 obtain⟨a,ha,v,hv,rfl⟩:=zEr.1 hx
 have:=h.lt a ha v hv
 omega
theorem dense_ok:AtOk (zCg A).length (A.map (renA (zGg A))) where
 n8:=zVy h
 l:=by rw[An];exact h.l
 asc b hb:=by
  obtain⟨a,ha,rfl⟩:=Am.1 hb
  show(a.1.map (zGg A)).Pairwise (· <·)
  rw[BQ]
  refine(h.asc a ha).imp_of_mem λ{u v} hu hv huv=>?_
  have h1:=BS.2 (zEr.2 ⟨a,ha,u,hu,rfl⟩)
  have h2:=BS.2 (zEr.2 ⟨a,ha,v,hv,rfl⟩)
  have g1:=B6 h1
  have g2:=B6 h2
  show(zCg A).idxOf ((u:Nat):Int)<(zCg A).idxOf ((v:Nat):Int)
  apply BH
  intro hn
  rcases Ap ((zCg A).idxOf ((v:Nat):Int)) ((zCg A).idxOf ((u:Nat):Int))with hlt|hge
  ·have:=CF.1 (used_asc (A:=A)) _ _ h2 h1 hlt
   rw[g1,g2]at this
   omega
  have e:(zCg A).idxOf ((v:Nat):Int)=(zCg A).idxOf ((u:Nat):Int):=by omega
  simp only[e]at g2
  rw[g1]at g2
  omega
 lt b hb v hv:=by
  obtain⟨a,ha,rfl⟩:=Am.1 hb
  obtain⟨u,hu,rfl⟩:=Am.1 (show v∈a.1.map (zGg A)from hv)
  exact BS.2 (zEr.2 ⟨a,ha,u,hu,rfl⟩)
 cov i hi:=by
  obtain⟨a,ha,v,hv,e⟩:=zEr.1 (Bl hi)
  refine⟨_,Am.2 ⟨a,ha,rfl⟩,?_⟩
  show i∈a.1.map (zGg A)
  refine Am.2 ⟨v,hv,?_⟩
  show(zCg A).idxOf ((v:Nat):Int)=i
  rw[<-e];exact dense_get hi
 srt b hb:=by
  obtain⟨a,ha,rfl⟩:=Am.1 hb
  exact h.srt a ha
 len b hb r hr:=by
  obtain⟨a,ha,rfl⟩:=Am.1 hb
  show r.length=(a.1.map (zGg A)).length
  rw[An];exact h.len a ha r hr
 few b hb:=by
  obtain⟨a,ha,rfl⟩:=Am.1 hb
  exact h.few a ha
 val b hb:=by
  obtain⟨a,ha,rfl⟩:=Am.1 hb
  exact h.val a ha
omit h in
theorem dense_sat:(∃τ,SatA (A.map (renA (zGg A))) τ)↔∃τ,SatA A τ:=sat_ren (g:=λi=>((zCg A).getD i 0).toNat) λa ha v hv=>by
 have h1:=BS.2 (zEr.2 ⟨a,ha,v,hv,rfl⟩);have g1:=B6 h1;show((zCg A).getD ((zCg A).idxOf ((v:Nat):Int)) 0).toNat=v;rw[Ao,Ar h1,B1,g1,Au]
end
end
section
open Go.RowKit
attribute [local irreducible] seqW awp zV zY zR Weak updS zZ retL Pure Acts rP setP setQ cP nP fr
set_option maxRecDepth 4096
theorem zAo(a:List Nat×List Rw):(atN a).length=3:=rfl
abbrev atK(l:List D):Bk:=⟨l,45,3,Ab,Ac, .plain⟩
abbrev at1(V x:D)(ar:Int):Bk:=⟨[V,iD ar,x],45,0,Ac,Ac, .plain⟩
abbrev iaK(l:List D):Bk:=⟨l,3,1,Ab,Ac, .plain⟩
theorem selC_bad{col:Nat}{v:Va}{R:List Rw}{ar:Nat}(hc:col<ar)(hl:∀r∈R,r.length=ar/\r.all vok=Ab)(hv:vok v=Ac):selC col v R=[]:=by
 unfold selC;rw[List.filter_eq_nil_iff];intro r hr h;obtain⟨h1,h2⟩:=hl r hr;have h3:=of_decide_eq_true h;have h4:vok (r.getD col Af)=true:=by
  rw[Ao,Ar (by omega)];exact AY.1 h2 _ (Bl _)
 rw[h3,hv]at h4;cases h4
def rstV(p:Rw)(V:List Nat):List Nat:=(V.filter λv=>decide (p.length<=v)).map λv=>v-p.length
def rstC(p:Rw):List Nat->Nat->List Nat
 |[],_=>[]
 |v::V,i=>if p.length<=v then i::rstC p V (i+1)else rstC p V (i+1)
def rstR(p:Rw):List Nat->Nat->List Rw->List Rw
 |[],_,R=>R
 |v::V,i,R=>if p.length<=v then rstR p V (i+1) R else rstR p V (i+1) (selC i (p.getD v Af) R)
theorem zLg(p:Rw):∀(V:List Nat)(i:Nat)(R:List Rw),rstF p V i R=(rstV p V,rstC p V i,rstR p V i R)
 |[],_,_=>rfl
 |v::V,i,R=>by
  unfold rstF rstV rstC rstR;by_cases h:p.length<=v
  ·rw[if_pos h,if_pos h,if_pos h,zLg p V,Bq,if_pos (decide_eq_true h)];rfl
  rw[if_neg h,if_neg h,if_neg h,zLg p V,Bq,if_neg (by simpa using h)];rfl
theorem rstV_snoc(p:Rw)(V:List Nat)(v:Nat):rstV p (V++[v])=if p.length<=v then rstV p V++[v-p.length]else rstV p V:=by
 unfold rstV;rw[BB];by_cases h:p.length<=v
 ·rw[if_pos h,Bq,if_pos (decide_eq_true h),Bb];rfl
 rw[if_neg h,Bq,if_neg (by simpa using h)];simp
theorem zQ2(p:Rw)(v:Nat):∀(V:List Nat)(i:Nat),rstC p (V++[v]) i=if p.length<=v then rstC p V i++[i+V.length]else rstC p V i
 |[],i=>by
  show(if p.length<=v then i::rstC p [] (i+1)else rstC p [] (i+1))=if p.length<=v then[]++[i+0]else[]
  rfl
 |w::V,i=>by
  have ih:=zQ2 p v V (i+1);rw[AM];unfold rstC;rw[ih,AR,show i+1+V.length=i+(V.length+1) by omega];by_cases h1:p.length<=w<;>by_cases h2:p.length<=v<;>simp[h1,h2]
theorem zLh(p:Rw)(v:Nat):∀(V:List Nat)(i:Nat)(R:List Rw),rstR p (V++[v]) i R=if p.length<=v then rstR p V i R else selC (i+V.length) (p.getD v Af) (rstR p V i R)
 |[],i,R=>rfl
 |w::V,i,R=>by
  rw[AM];unfold rstR;rw[zLh p v V (i+1),zLh p v V (i+1),AR,show i+1+V.length=i+(V.length+1) by omega];by_cases h1:p.length<=w
  ·rw[if_pos h1,if_pos h1]
  rw[if_neg h1,if_neg h1]
theorem rstR_sub(p:Rw)(V:List Nat)(i:Nat)(R:List Rw):∀r∈rstR p V i R,r∈R:=λr hr=>by
 have h:=zLf p V i R r;rw[zLg]at h;exact h hr
theorem rstR_len(p:Rw)(V:List Nat)(i:Nat)(R:List Rw):(rstR p V i R).length<=R.length:=by
 have h:=(zN5 p V i R).length_le;rw[zLg]at h;exact h
theorem rstV_len(p:Rw)(V:List Nat):(rstV p V).length<=V.length:=by
 unfold rstV;rw[An];exact Bv _ _
theorem rstC_len(p:Rw):∀(V:List Nat)(i:Nat),(rstC p V i).length=(rstV p V).length:=λV i=>by
 have h:=zN6 p V i [];rw[zLg]at h;exact h
structure AtR(A:List (List Nat×List Rw)):Prop where
 l:A.length<=1000
 v:∀a∈A,a.1.length<=32
 w:∀a∈A,∀v∈a.1,v<=1000
 r:∀a∈A,a.2.length<=65536
 k:∀a∈A,∀r∈a.2,r.length=a.1.length/\r.all vok=Ab
theorem restA_eq(p:Rw)(a:List Nat×List Rw):zAw p a=(rstV p a.1,relR ((rstR p a.1 0 a.2).map λr=>zT r (rstC p a.1 0))):=by
 unfold zAw;rw[zLg]
abbrev zAt:List D:=[.val (.slice A1 0 0),iD 0, .val (.slice A1 0 0)]
def filK(L:List (List Nat×List Rw))(n:Nat):List D:=L.flatMap atN++repL (n-L.length) zAt
theorem zEc(n:Nat)(z:List D):repL (n+1) z=z++repL n z:=by
 simp only[repL,CB,List.flatten_cons]
theorem filK_set(L:List (List Nat×List Rw))(n:Nat)(a:List Nat×List Rw)(h:L.length<n):setAt (filK L n) (L.length*3) (atN a)=filK (L++[a]) n:=by
 obtain⟨m,hm⟩:∃m,n-L.length=m+1:=⟨n-L.length-1,by omega⟩;have e:(L.flatMap atN).length=L.length*3:=zDc zAo L;have e2:n-(L++[a]).length=m:=by rw[AV,CG];omega
 unfold filK;rw[hm,zEc,e2,BL,B7];have h5:=zF2 (atN a) zAt (L.flatMap atN) (repL m zAt) (by rw[zAo];rfl);rw[e]at h5;rw[<-CH,h5]
theorem filK_0(n:Nat):repL n zAt=filK [] n:=by simp[filK]
theorem filK_all(L:List (List Nat×List Rw)):filK L L.length=L.flatMap atN:=by simp[filK,repL]
theorem filK_len{L:List (List Nat×List Rw)}{n:Nat}(h:L.length<=n):(filK L n).length=n*3:=by
 have e:(L.flatMap atN).length=L.length*3:=zDc zAo L;have e2:∀k,(repL k zAt).length=k*3:=λk=>by
  induction k with
  |zero=>rfl
  |succ k ih=>rw[zEc,AV,ih];show 3+k*3=_;omega
 unfold filK;rw[AV,e,e2];omega
theorem arity_c(ar:Int)(L:List Rw):Pure Al 62 [relD ar L] [] (iD ar):=by
 refine zH zAg mixed Tryz.func62 rfl<|zB<|zA rfl<|v0s<|veT<|zB<|zA rfl<|ve (True/\0<2)<|zJ<|vret (True)<|.inr rfl
set_option maxHeartbeats 8000000 in
theorem zEb(A:List (List Nat×List Rw))(h:AtR A)(p:Rw)(hp:p.length<=1000):Pure Al 36 [.row (A.flatMap atN) A.length,rowV p] [] (.row ((A.map (zAw p)).flatMap atN) A.length):=by
 have hAl:=h.l;have r0:=filK_0 A.length;refine zH zAg mixed Tryz.func36 rfl<|zB<|zA rfl<|v0s<|veT<|zB<|zA rfl<|ve ((0:Int)<=(Aa A:Int)/\(Aa A:Int)<=(Aa A:Int)/\(↑(56:Nat):Int)*(Aa A:Int)<=(281474976710656:Int)/\(Aa A:Int)<=(281474976710656:Int)/\0<3/\3=3)<|zB<|zB<|zA rfl<|veT<|zG<|zP (λ(i:Nat)=>fr 86 [(1,rowV p),(4,nl),(5,Ak 0 0 (Aa A) (Aa A*3) Ab),(18,Ae (Ah atN A)<|Aa A),(19,iD (Aa A:Int)),(20,iD (i:Int))]) (λ(i:Nat)=>[atK<|filK ((A.take i).map<|zAw p) A.length]) (λi=>A.length-i) (λ(i:Nat)=>i<=A.length) 0 ?_ ?_ ?_
 ·omega
 ·refine vk 1
 rintro i h1;rcases Ap i A.length with h2|h2
 ·have hm:=zAc A Af i h2;have hg:=zGq zAo A i h2;have hle:=zD2 zAo A i h2;have hne:=zD1 zAo (by decide) A;have htk:=zAs A i h2;have hv:=h.v _ hm;have hw:=h.w _ hm;have hr:=h.r _ hm;have hk:=h.k _ hm;have hlt:((A.take i).map (zAw p)).length=i:=by rw[An,AS];omega
  have hset:=filK_set ((A.take i).map (zAw p)) A.length (zAw p (A.getD i Af)) (by omega);have hfl:=filK_len (L:=(A.take i).map (zAw p)) (n:=A.length) (by omega);have hmp:(A.take (i+1)).map (zAw p)=(A.take i).map (zAw p)++[zAw p (A.getD i Af)]:=by rw[htk,Bb];rfl
  rw[hlt,<-hmp]at hset;generalize A.getD i Af=a at*;obtain⟨V,R⟩:=a;rw[restA_eq]at hset;simp only at hv hw hr hk hset;generalize (A.take i).map (zAw p)=L at*;refine zB<|zA rfl<|v0s<|veT<|zB<|vT ((i:Int)<(Aa A:Int))<|zK<|zC<|zD<|zB<|zG<|zB<|zA rfl<|vr 2 (ix (i:Int) (Aa A:Int) (Ah atN A≠[]))<|vs 23 (AB<|Ag (Aj (i:Int)*3)<|Ah atN A) (AB (Ae (Ad (λ(v:Nat)=>iD (v:Int)) V) (Aa V)::iD (Aa V:Int)::Ae (Ad rowV R) (Aa R)::Ah atN (Ag (i+1) A))) (hd:=by simp(disch:=omega) only[Au,AM,AP,hg])<|ve (3<=Aa (Ae (Ad (λ(v:Nat)=>iD (v:Int)) V) (Aa V)::iD (Aa V:Int)::Ae (Ad rowV R) (Aa R)::Ah atN (Ag (i+1) A))/\Ac=Ac/\Ab=Ab/\3=3/\3<=3)<|zB<|zA rfl<|ve (True/\2<=2/\Ac=Ac/\Ab=Ab/\2=2/\2<=2)<|zB<|zA rfl<|ve ((True/\0<1/\1=1/\0<=16777216/\0<=9223372036854775807)/\True/\0<1/\1=1/\0<=16777216/\0<=9223372036854775807)<|zB<|zB<|zA rfl<|ve (True/\0<3)<|zG<|zP (λ(j:Nat)=>fr 86 [(1,rowV p),(4,nl),(5,Ak 0 0 (Aa A) (Aa A*3) Ab),(6,iD (i:Int)),(8,AC 2 0),(9,Ak 3 0 (Aa<|rstV p<|Ai j V) (Aa<|rstV p<|Ai j V) Ab),(10,Ak 4 0 (Aa<|rstC p (Ai j V) 0) (Aa<|rstC p (Ai j V) 0) Ab),(18,Ae (Ah atN A)<|Aa A),(19,iD (Aa A:Int)),(20,iD (i:Int)),(30,Ae (Ad (λ(v:Nat)=>iD (v:Int)) V)<|Aa V),(31,iD (Aa V:Int)),(32,iD (j:Int))]) (λ(j:Nat)=>[atK<|filK L A.length,at1 (.row (nsD V) V.length) (.row (R.map rowV) R.length) (V.length:Nat),relK (V.length:Nat)<|.row ((rstR p (V.take j) 0 R).map rowV) (rstR p (V.take j) 0 R).length,iaK<|nsD<|rstV p<|V.take j,iaK<|nsD<|rstC p (V.take j) 0]) (λj=>V.length-j) (λ(j:Nat)=>j<=V.length) 0 ?_ ?_ ?_
  ·omega
  ·refine vk 5
  rintro j j1;have c1:=rstV_len p (V.take j);have c2:=rstC_len p (V.take j) 0;have c3:=rstR_len p (V.take j) 0 R;have c4:=rstR_sub p (V.take j) 0 R;have c5:(V.take j).length=j:=by rw[AS];omega
  have c6:(nsD (rstV p (V.take j))).length=(rstV p (V.take j)).length:=An ..
  have c7:(nsD (rstC p (V.take j) 0)).length=(rstC p (V.take j) 0).length:=An ..
  rcases Ap j V.length with j2|j2
  ·have hx:=zAq V j j2;have hn1:nsD V≠[]:=zAa;have hvm:=zAc V 0 j j2;have hw2:=hw _ hvm;have htv:V.take (j+1)=V.take j++[V.getD j 0]:=by
    rw[Bm j2,Ao,Ar j2];rfl
   have s1:=rstV_snoc p (V.take j) (V.getD j 0);have s2:=zQ2 p (V.getD j 0) (V.take j) 0;have s3:=zLh p (V.getD j 0) (V.take j) 0 R;rw[<-htv]at s1 s2 s3;rw[c5,Cj]at s2 s3;generalize V.getD j 0=v at*;by_cases hpv:p.length<=v
   ·rw[if_pos hpv]at s1 s2 s3;have hcs:(v:Int)-(p.length:Nat)=((v-p.length:Nat):Int):=by omega
    refine zB<|zA rfl<|v0s<|veT<|zB<|vT ((j:Int)<(Aa V:Int))<|zK<|zC<|zD<|zB<|zG<|zB<|zA rfl<|vr 2 (ix (j:Int) (Aa V:Int) (Ad (λ(v:Nat)=>iD (v:Int)) V≠[]))<|vp 35 (j) (Ad (λ(v:Nat)=>iD (v:Int)) V)<|vr 1 (0<Aa (Ag j<|Ad (λ(v:Nat)=>iD (v:Int)) V))<|vsh 36 hx<|veT<|zB<|zB<|zA rfl<|veT<|vT ((v:Int)>=(Aa p:Int))<|zB<|zA rfl<|vr 5 (i6 ((v:Int)-(Aa p:Int)))<|vs 45 (iD ((v:Int)-(Aa p:Int))) (iD (↑(v-Aa p):Int)) (hd:=by simp(disch:=omega) only[hcs])<|vr 3 (((1=1/\1<=1/\True)/\0<1/\1=1/\1<=16777216/\1<=9223372036854775807)/\Bi (iaK<|nsD<|rstV p<|Ai j V)=Ab/\Aa (AG<|iaK<|nsD<|rstV p<|Ai j V)=Aa (rstV p<|Ai j V)*1/\Aa (rstV p<|Ai j V)=Aa (rstV p<|Ai j V)*1/\A8 (iaK<|nsD<|rstV p<|Ai j V)=3/\A9 (iaK<|nsD<|rstV p<|Ai j V)=1/\1=1/\0<1/\0<8/\3=3/\(Aa (rstV p<|Ai j V)+1)*8<=140737488355328/\1=1/\A4 (AI<|iaK<|nsD<|rstV p<|Ai j V)=Ac/\(Ac=Ac\/A5 (AI<|iaK<|nsD<|rstV p<|Ai j V)=Ab))<|vs 9 (Ak 3 0 (Aa (rstV p<|Ai j V)+1) ((Aa (rstV p<|Ai j V)+1)*1) Ab) (Ak 3 0 (Aa (rstV p<|Ai j V)+1) (Aa (rstV p<|Ai j V)+1) Ab) (hd:=by simp(disch:=omega) only[A_])<|veT<|zB<|zA rfl<|vr 5 (((1=1/\1<=1/\True)/\0<1/\1=1/\1<=16777216/\1<=9223372036854775807)/\Bi (Av (nsD<|rstC p (Ai j V) 0) 3 1 Ab Ac Az)=Ab/\Aa (nsD<|rstC p (Ai j V) 0)=Aa (rstC p (Ai j V) 0)*1/\Aa (rstC p (Ai j V) 0)=Aa (rstC p (Ai j V) 0)*1/\A8 (Av (nsD<|rstC p (Ai j V) 0) 3 1 Ab Ac Az)=3/\A9 (Av (nsD<|rstC p (Ai j V) 0) 3 1 Ab Ac Az)=1/\1=1/\0<1/\0<8/\3=3/\(Aa (rstC p (Ai j V) 0)+1)*8<=140737488355328/\1=1/\A4 (AI<|Av (nsD<|rstC p (Ai j V) 0) 3 1 Ab Ac Az)=Ac/\(Ac=Ac\/A5 (AI<|Av (nsD<|rstC p (Ai j V) 0) 3 1 Ab Ac Az)=Ab))<|vs 10 (Ak 4 0 (Aa (rstC p (Ai j V) 0)+1) ((Aa (rstC p (Ai j V) 0)+1)*1) Ab) (Ak 4 0 (Aa (rstC p (Ai j V) 0)+1) (Aa (rstC p (Ai j V) 0)+1) Ab) (hd:=by simp(disch:=omega) only[A_])<|veT<|zS<|zM<|zQ rfl<|zC<|zD<|zA rfl<|vr 2 (i6 ((j:Int)+(1:Int)))<|vnil<|zC<|⟨j+1,by omega,by omega,?_⟩;have t1:nsD (rstV p (V.take (j+1)))=nsD (rstV p (V.take j))++[iD (v-p.length:Nat)]:=by rw[s1,nsD,Bb];rfl
    have t2:nsD (rstC p (V.take (j+1)) 0)=nsD (rstC p (V.take j) 0)++[iD (j:Nat)]:=by rw[s2,nsD,Bb];rfl
    have t3:(rstV p (V.take (j+1))).length=(rstV p (V.take j)).length+1:=by rw[s1,AV];rfl
    have t4:(rstC p (V.take (j+1)) 0).length=(rstC p (V.take j) 0).length+1:=by rw[s2,AV];rfl
    rw[t1,t2,t3,t4,s3];refine vk 5
   rw[if_neg hpv]at s1 s2 s3;have hpx:=zHu p v (by omega);have hpn:=zCj p;have hpl:=zAe p;have hse:=select_c V.length (rstR p (V.take j) 0 R) j (p.getD v Af) (by omega) j2 λr hr=>hk r (c4 r hr);have hbad:=selC_bad (col:=j) (v:=p.getD v Af) (R:=rstR p (V.take j) 0 R) j2 λr hr=>hk r (c4 r hr);have hnw:=new_c (V.length:Nat) (by omega) (by omega);have har:=arity_c (V.length:Nat) (rstR p (V.take j) 0 R);generalize p.getD v Af=x at*;obtain⟨xk,xi,xs⟩:=x;cases hvx:vok ⟨xk,xi,xs⟩
   ·rw[hvx,if_neg (λh=>by cases h)]at hse;refine zB<|zA rfl<|v0s<|veT<|zB<|vT ((j:Int)<(Aa V:Int))<|zK<|zC<|zD<|zB<|zG<|zB<|zA rfl<|vr 2 (ix (j:Int) (Aa V:Int) (Ad (λ(v:Nat)=>iD (v:Int)) V≠[]))<|vp 35 (j) (Ad (λ(v:Nat)=>iD (v:Int)) V)<|vr 1 (0<Aa (Ag j<|Ad (λ(v:Nat)=>iD (v:Int)) V))<|vsh 36 hx<|veT<|zB<|zB<|zA rfl<|veT<|vF ((v:Int)>=(Aa p:Int))<|zK<|zC<|zD<|zB<|vd [1,2,3,4,0,5,6,7,8,9,10,11,12]<|vr 4 (ix (v:Int) (Aa p:Int) (zL p≠[]))<|vs 57 (AB<|Ag (Aj (v:Int)*3)<|zL p) (AB (iD xk::iD xi::strD xs::zL (Ag (v+1) p))) (hd:=by simp(disch:=omega) only[Au,AM,AP,hpx])<|vr 2 (2<=2/\3<=Aa (iD xk::iD xi::strD xs::zL (Ag (v+1) p)))<|vc (hse)<|ve (0<2/\1<2/\Ac=Ac/\Ab=Ab/\2=2/\2<=2)<|zB<|zB<|zA rfl<|veT<|vt<|zA rfl<|vr 1 (2<=2)<|vc (har)<|vc (hnw)<|ve (0<2/\1<2/\Ac=Ac/\Ab=Ab/\2=2/\2<=2)<|zA rfl<|vr 2 (2<=2/\Bx (relK (Aa V:Int)<|Ae (Ad rowV<|rstR p (Ai j V) 0 R)<|Aa<|rstR p (Ai j V) 0 R)=Ac/\Ab=Ab/\2=2/\2<=2)<|vnil<|zE<|zC<|zD<|zA rfl<|vr 2 (i6 ((j:Int)+(1:Int)))<|vnil<|zC<|⟨j+1,by omega,by omega,?_⟩;rw[s1,s2,s3,hbad hvx];refine vk 5
   rw[hvx,if_pos rfl]at hse;refine zB<|zA rfl<|v0s<|veT<|zB<|vT ((j:Int)<(Aa V:Int))<|zK<|zC<|zD<|zB<|zG<|zB<|zA rfl<|vr 2 (ix (j:Int) (Aa V:Int) (Ad (λ(v:Nat)=>iD (v:Int)) V≠[]))<|vp 35 (j) (Ad (λ(v:Nat)=>iD (v:Int)) V)<|vr 1 (0<Aa (Ag j<|Ad (λ(v:Nat)=>iD (v:Int)) V))<|vsh 36 hx<|veT<|zB<|zB<|zA rfl<|veT<|vF ((v:Int)>=(Aa p:Int))<|zK<|zC<|zD<|zB<|vd [1,2,3,4,0,5,6,7,8,9,10,11,12]<|vr 4 (ix (v:Int) (Aa p:Int) (zL p≠[]))<|vs 57 (AB<|Ag (Aj (v:Int)*3)<|zL p) (AB (iD xk::iD xi::strD xs::zL (Ag (v+1) p))) (hd:=by simp(disch:=omega) only[Au,AM,AP,hpx])<|vr 2 (2<=2/\3<=Aa (iD xk::iD xi::strD xs::zL (Ag (v+1) p)))<|vc (hse)<|ve (0<2/\1<2/\Ac=Ac/\Ab=Ab/\2=2/\2<=2)<|zB<|zB<|zA rfl<|veT<|vf<|zK<|zC<|zD<|zA rfl<|vr 2 (2<=2/\Bx (relK (Aa V:Int)<|Ae (Ad rowV<|rstR p (Ai j V) 0 R)<|Aa<|rstR p (Ai j V) 0 R)=Ac/\Ab=Ab/\2=2/\2<=2)<|vnil<|zE<|zC<|zD<|zA rfl<|vr 2 (i6 ((j:Int)+(1:Int)))<|vnil<|zC<|⟨j+1,by omega,by omega,?_⟩;rw[s1,s2,s3];refine vk 5
  obtain rfl:j=V.length:=by omega
  rw[A3]at c1 c2 c3 c4 c6 c7⊢;have d1:=zHc (rstV p V) _ rfl;have d2:=zHc (rstC p V 0) _ rfl;have hpj:=relProj_c V.length (rstR p V 0 R) (rstC p V 0) (by omega) (by omega) (λr hr=>(hk r (c4 r hr)).1) (by omega) (λc hc=>by
   have:=zKg p V 0 R c (by rw[zLg];exact hc)
   omega)
  have hpj:Pure Al 63 [relD (V.length:Nat) (rstR p V 0 R), .row (nsD (rstC p V 0)) (rstC p V 0).length] [] (.tup [relD ((rstV p V).length:Nat) (relR ((rstR p V 0 R).map λr=>zT r (rstC p V 0))),iD 0]):=by
   rw[<-c2];exact hpj
  refine zB<|zA rfl<|v0s<|veT<|zB<|vF ((Aa V:Int)<(Aa V:Int))<|zS<|zM<|zM<|zQ rfl<|zC<|zD<|zB<|zA rfl<|vr 2 (2<=2)<|vcl [Aq [iD (Aa V:Int),Ae (Ad rowV<|rstR p V 0 R)<|Aa<|rstR p V 0 R],Ae (Ai (Aa<|rstC p V 0)<|Ag 0<|AG<|iaK<|nsD<|rstC p V 0)<|Aa<|rstC p V 0] [Aq [iD (Aa V:Int),Ae (Ad rowV<|rstR p V 0 R)<|Aa<|rstR p V 0 R],Ae (nsD<|rstC p V 0)<|Aa<|rstC p V 0] (LeL.of_eq (by simp(disch:=omega) only[AJ,d2])) (by exact hpj)<|ve (0<2/\1<2/\Bx (relK (Aa V:Int)<|Ae (Ad rowV<|rstR p V 0 R)<|Aa<|rstR p V 0 R)=Ac/\Ab=Ab/\2=2/\2<=2)<|zA rfl<|vr 6 (2<=2/\((1=1/\1<=3/\2=2/\3<=3/\True)/\Ab=Ab)/\(0:Int)<=(i:Int)/\(i:Int)<(Aa A:Int))<|vo0 83 0 (i*3)<|vr 1 (Bx (atK<|filK L<|Aa A)=Ac/\Ab=Ab/\3=3/\i*3+3<=Aa (AG<|atK<|filK L<|Aa A)/\¬0∈[3])<|vb 0 (Av (setAt (AG<|atK<|filK L<|Aa A) (i*3) [Ae (Ai (Aa<|rstV p V)<|Ag 0<|AG<|iaK<|nsD<|rstV p V)<|Aa<|rstV p V,iD (Aa (rstV p V):Int),Ae (Ad rowV<|relR<|Ad (λ(r:List Va)=>zT r (rstC p V 0))<|rstR p V 0 R)<|Aa<|relR<|Ad (λ(r:List Va)=>zT r (rstC p V 0))<|rstR p V 0 R]) (A8<|atK<|filK L<|Aa A) (A9<|atK<|filK L<|Aa A) Ab Ac<|AI<|atK<|filK L<|Aa A) (Av (A7 (A7 (A7 (filK L<|Aa A) (i*3)<|Ae (nsD<|rstV p V)<|Aa<|rstV p V) (i*3+1)<|iD (Aa (rstV p V):Int)) (i*3+1+1)<|Ae (Ad rowV<|relR<|Ad (λ(r:List Va)=>zT r (rstC p V 0))<|rstR p V 0 R)<|Aa<|relR<|Ad (λ(r:List Va)=>zT r (rstC p V 0))<|rstR p V 0 R) (45:TypeId) 3 Ab Ac Az) (hd:=by simp(disch:=omega) only[setAt,AJ,d1])<|vnil<|zE<|zC<|zD<|zA rfl<|vr 2 (i6 ((i:Int)+(1:Int)))<|vnil<|zC<|⟨i+1,by omega,by omega,?_⟩;refine wkn (fr 86 [(1,rowV p),(4,nl),(5,Ak 0 0 (Aa A) (Aa A*3) Ab),(6,iD (i:Int)),(8,AC 2 0),(9,Ak 3 0 (Aa (rstV p V)) (Aa (rstV p V)) Ab),(18,Ae (Ah atN A) (Aa A)),(19,iD (Aa A:Int)),(20,iD (↑(i+1):Int)),(78,Ak 0 0 (Aa A) (Aa A*3) Ab),(79,iD (i:Int)),(80,Ak 3 0 (Aa (rstV p V)) (Aa (rstV p V)) Ab),(81,Aq [iD (Aa (rstV p V):Int),Ae (Ad rowV (relR (Ad (λ(r:List Va)=>zT r (rstC p V 0)) (rstR p V 0 R)))) (Aa (relR (Ad (λ(r:List Va)=>zT r (rstC p V 0)) (rstR p V 0 R))))]),(82,Aq [Ak 3 0 (Aa (rstV p V)) (Aa (rstV p V)) Ab,iD (Aa (rstV p V):Int),Ae (Ad rowV (relR (Ad (λ(r:List Va)=>zT r (rstC p V 0)) (rstR p V 0 R)))) (Aa (relR (Ad (λ(r:List Va)=>zT r (rstC p V 0)) (rstR p V 0 R))))]),(83,AC 0 (i*3)),(84,iD (↑(i+1):Int))]) [Av (A7 (A7 (A7 (filK L (Aa A)) (i*3) (Ae (nsD (rstV p V)) (Aa (rstV p V)))) (i*3+1) (iD (Aa (rstV p V):Int))) (i*3+1+1) (Ae (Ad rowV (relR (Ad (λ(r:List Va)=>zT r (rstC p V 0)) (rstR p V 0 R)))) (Aa (relR (Ad (λ(r:List Va)=>zT r (rstC p V 0)) (rstR p V 0 R)))))) (45:TypeId) 3 Ab Ac Az,at1 (Ae (nsD V) (Aa V)) (Ae (Ad rowV R) (Aa R)) (Aa V:Int),Av [iD (Aa (rstV p V):Int),Ae (Ad rowV (relR (Ad (λ(r:List Va)=>zT r (rstC p V 0)) (rstR p V 0 R)))) (Aa (relR (Ad (λ(r:List Va)=>zT r (rstC p V 0)) (rstR p V 0 R))))] (43:TypeId) 0 Ac Ac Az,Av (nsD (rstV p V)) (3:TypeId) 1 Ab Ab Az,Av (nsD (rstC p V 0)) (3:TypeId) 1 Ab Ab Az] ?_;rw[show(((filK L A.length).set (i*3) (Ae (nsD (rstV p V)) (rstV p V).length)).set (i*3+1) (iD ((rstV p V).length:Nat))).set (i*3+1+1) (Ae ((relR ((rstR p V 0 R).map λr=>zT r (rstC p V 0))).map rowV) (relR ((rstR p V 0 R).map λr=>zT r (rstC p V 0))).length)=filK ((A.take (i+1)).map (zAw p)) A.length from hset];refine vk 1
 obtain rfl:i=A.length:=by omega
 rw[A3];have ha:=filK_all (A.map (zAw p));rw[An]at ha;have hl3:((A.map (zAw p)).flatMap atN).length=A.length*3:=by rw[zDc zAo,An]
 have ht:=zEm zAo (A.map (zAw p)) A.length (by rw[An]);rw[ha];refine zB<|zA rfl<|v0s<|veT<|zB<|vF ((Aa A:Int)<(Aa A:Int))<|zS<|zM<|zM<|zQ rfl<|zC<|zD<|zB<|zA rfl<|veT<|zJ<|zAu (True) (Ae (Ai (Aa A*3)<|Ag 0<|AG<|atK<|Ah atN<|Ad (zAw p) A)<|Aa A) (Ae (Ah atN<|Ad (zAw p) A)<|Aa A) (.inr rfl) (by simp(disch:=omega) only[AJ,ht]) rfl
end
def dif(a b:Nat):Nat:=a^^^(a&&&b)
theorem zBk(a b i:Nat):(dif a b).testBit i=(a.testBit i&&!b.testBit i):=by
 unfold dif;rw[Nat.testBit_xor,AZ];cases a.testBit i<;>cases b.testBit i<;>rfl
def zEl(al:Nat->Bool)(part:Nat):List Nat->Nat->Nat
 |[],w=>w
 |i::l,w=>if dif (part&&&2^i) w≠0/\al (w|||dif (part&&&2^i) w)=Ab then zEl al part l (w|||dif (part&&&2^i) w)else zEl al part l w
def zA6(kept:List Nat)(o s:Nat):List Nat->List Nat
 |[]=>[]
 |i::l=>if s|||(o&&&2^i)=s then zA6 kept o s l else if kept.any (λk=>dif k (s|||(o&&&2^i))==0)then zA6 kept o s l else(s|||(o&&&2^i))::zA6 kept o s l
def zYn(sets:List Nat)(o:Nat):List Nat:=sets.filter λs=>s&&&o !=0
def zDy(sets:List Nat)(o:Nat):List Nat:=zYn sets o++(sets.filter λs=>s&&&o==0).flatMap λs=>zA6 (zYn sets o) o s (As 32)
def zJ7(al:Nat->Bool)(part:Nat):Nat->List Nat->Option (List Nat)
 |0,_=>A1
 |k+1,sets=>match sets.find? al with
  |none=>Aw sets
  |some s=>zJ7 al part k (zDy sets (dif part (zEl al part (As 32) s)))
theorem zNs{a b:Nat}:a&&&b≠0↔∃i,a.testBit i=Ab/\b.testBit i=true:=by
 constructor
 ·intro h;obtain⟨i,hi⟩:=CJ h;rw[AZ,Ba]at hi;exact⟨i,hi⟩
 rintro⟨i,h1,h2⟩ h
 have:=congrArg (λn=>n.testBit i) h
 simp[h1,h2]at this
def Sub(a b:Nat):Prop:=∀i,a.testBit i=Ab->b.testBit i=Ab
theorem zV6(a b:Nat):Sub a (a|||b):=λi h=>by rw[A2,h];rfl
theorem zPy{al:Nat->Bool}{part:Nat}:∀(l:List Nat)(w:Nat),Sub w (zEl al part l w)
 |[],w=>λ_ h=>h
 |i::l,w=>by
  unfold zEl;split
  ·exact λj h=>zPy l _ j (zV6 w _ j h)
  exact zPy l w
theorem zTt{al:Nat->Bool}{part:Nat}:∀(l:List Nat)(w:Nat),al w=Ab->al (zEl al part l w)=Ab
 |[],w,h=>h
 | i::l,w,h=>by
  unfold zEl;split
  ·rename_i h2;exact zTt l _ h2.2
  exact zTt l w h
theorem zHr{al:Nat->Bool}{part:Nat}:∀(l:List Nat)(w:Nat),Sub w part->Sub (zEl al part l w) part
 |[],w,h=>h
 | i::l,w,h=>by
  unfold zEl;split
  ·refine zHr l _ λj hj=>?_;rw[A2,Bc,zBk,AZ]at hj;rcases hj with hj|hj
   ·exact h j hj
   simp only[Ba]at hj;exact hj.1.1
  exact zHr l w h
theorem zCo{kept:List Nat}{o s g:Nat}:∀{l:List Nat},g∈zA6 kept o s l->∃i∈l,g=s|||(o&&&2^i)/\g≠s
 |[],h=>by cases h
 | i ::l,h=>by
  unfold zA6 at h;split at h
  ·obtain⟨j,hj,e⟩:=zCo h;exact⟨j,Bj _ hj,e⟩
  rename_i hne;split at h
  ·obtain⟨j,hj,e⟩:=zCo h;exact⟨j,Bj _ hj,e⟩
  rcases AO.1 h with rfl|h
  ·exact⟨i,AW ..,rfl,hne⟩
  obtain⟨j,hj,e⟩:=zCo h;exact⟨j,Bj _ hj,e⟩
theorem zRs{sets:List Nat}{o g:Nat}(h:g∈zDy sets o):∃s∈sets,Sub s g/\g&&&o≠0/\∀i,g.testBit i=Ab->s.testBit i=Ab\/o.testBit i=true:=by
 unfold zDy at h;rcases Br.1 h with h|h
 ·obtain⟨h1,h2⟩:=AL.1 h;exact⟨g,h1,λ_ k=>k,by simpa using h2,λi hi=> .inl hi⟩
 obtain⟨s,hs,hg⟩:=Bt.1 h;obtain⟨i,_,rfl,hne⟩:=zCo hg;refine⟨s,(AL.1 hs).1,zV6 s _,?_,λj hj=>?_⟩
 ·have h0:o&&&2^i≠0:=λe=>hne (by rw[e,Nat.or_zero]);obtain⟨j,hj1,hj2⟩:=zNs.1 h0;exact zNs.2 ⟨j,by rw[A2,AZ,hj1,hj2];simp,hj1⟩
 rw[A2,AZ,Bc,Ba]at hj;exact hj.imp_right λh=>h.1
structure Cnf(al:Nat->Bool)(part:Nat)(Cs sets:List Nat):Prop where
 sub:∀s∈sets,Sub s part
 met:∀s∈sets,∀C∈Cs,s&&&C≠0
 nd:Cs.Nodup
 lt:∀C∈Cs,C<=part
theorem sub_le{a b:Nat}(h:Sub a b):a<=b:=by
 have:a&&&b=a:=Bs λi=>by
  rw[AZ];cases ha:a.testBit i
  ·rfl
  rw[h i ha];rfl
 rw[<-this];exact Nat.and_le_right
theorem zKt{al:Nat->Bool}{part:Nat}{Cs sets:List Nat}(h:Cnf al part Cs sets){s:Nat}(hs:s∈sets):Cnf al part (dif part (zEl al part (As 32) s)::Cs) (zDy sets (dif part (zEl al part (As 32) s))) where
 sub g hg i hi:=by
  obtain⟨t,ht,_,_,h3⟩:=zRs hg
  rcases h3 i hi with k|k
  ·exact h.sub t ht i k
  rw[zBk,Ba]at k
  exact k.1
 met g hg C hC:=by
  obtain⟨t,ht,h1,h2,_⟩:=zRs hg
  rcases AO.1 hC with rfl|hC
  ·exact h2
  obtain⟨i,k1,k2⟩:=zNs.1 (h.met t ht C hC)
  exact zNs.2 ⟨i,h1 i k1,k2⟩
 nd:=by
  refine B2.2 ⟨λhm=>?_,h.nd⟩
  obtain⟨i,k1,k2⟩:=zNs.1 (h.met s hs _ hm)
  rw[zBk,Ba]at k2
  have:=zPy (al:=al) (part:=part) (As 32) s i k1
  rw[this]at k2
  cases k2.2
 lt C hC:=by
  rcases AO.1 hC with rfl|hC
  ·exact sub_le λi hi=>by rw[zBk,Ba]at hi;exact hi.1
  exact h.lt C hC
theorem zPk:∀(n:Nat)(l:List Nat),l.Nodup->(∀x∈l,x<=n)->l.length<=n+1
 | 0,l,hn,hl=>by
  match l,hn,hl with
  |[],_,_=>exact BG _
  |[a],_,_=>exact AU _
  |a::b::l,hn,hl=>
   have h1:=hl a (by simp);have h2:=hl b (by simp);have h3:=(B2.1 hn).1;exact absurd (by rw[show a=b by omega];exact AW ..) h3
 | n+1,l,hn,hl=>by
  have h1:=zPk n (l.erase (n+1)) (hn.erase _) λx hx=>by
   have h2:=(hn.mem_erase_iff).1 hx
   have:=hl x h2.2
   have:=h2.1
   omega
  by_cases h:n+1∈l
  ·rw[List.length_erase_of_mem h]at h1;omega
  rw[List.erase_of_not_mem h]at h1;omega
theorem zMc{al:Nat->Bool}{part:Nat}:∀(k:Nat)(Cs sets:List Nat),Cnf al part Cs sets->part+1-Cs.length<k->∃r,zJ7 al part k sets=Aw r/\∀s∈r,al s=Ac/\Sub s part
 |0,_,_,_,h=>by omega
 | k+1,Cs,sets,h,hk=>by
  unfold zJ7;cases hf:sets.find? al with
  |none=>
   refine⟨sets,rfl,λs hs=>⟨?_,h.sub s hs⟩⟩
   have:=B8.1 hf s hs
   simpa using this
  |some s=>
   have hs:=BX hf;have h2:=zKt h hs;have h3:=zPk part _ h2.nd h2.lt;rw[AR]at h3;exact zMc k _ _ h2 (by rw[AR];omega)
theorem zEn(al:Nat->Bool)(part:Nat):Cnf al part [] [0] where
 sub s hs i hi:=by
  rw[A0.1 hs,BC]at hi;cases hi
 met s hs C hC:=by cases hC
 nd:=List.nodup_nil
 lt C hC:=by cases hC
theorem Sub.refl(a:Nat):Sub a a:=λ_ h=>h
theorem Sub.trans{a b c:Nat}(h:Sub a b)(k:Sub b c):Sub a c:=λi hi=>k i (h i hi)
theorem Sub.eq{a b:Nat}(h:Sub a b)(k:Sub b a):a=b:=Bs λi=>by
 cases ha:a.testBit i
 ·cases hb:b.testBit i
  ·rfl
  rw[k i hb]at ha;cases ha
 rw[h i ha]
theorem zVo{a b:Nat}:a&&&b=0↔∀i,a.testBit i=Ab->b.testBit i=false:=by
 constructor
 ·intro h i hi
  have:=congrArg (λn=>n.testBit i) h
  simpa[hi]using this
 intro h;exact Bs λi=>by
  rw[AZ,BC];cases ha:a.testBit i
  ·rfl
  rw[h i ha];rfl
theorem dif_z{a b:Nat}:dif a b=0↔Sub a b:=by
 constructor
 ·intro h i hi
  have:=congrArg (λn=>n.testBit i) h
  simp only[zBk,hi,Bool.true_and,BC]at this;simpa using this
 intro h;exact Bs λi=>by
  rw[zBk,BC];cases ha:a.testBit i
  ·rfl
  rw[h i ha];rfl
theorem zR1{kept:List Nat}{o s i:Nat}(hne:s|||(o&&&2^i)≠s):∀{l:List Nat},i∈l->(s|||(o&&&2^i))∈zA6 kept o s l\/∃k∈kept,Sub k (s|||(o&&&2^i))
 |[],h=>by cases h
 | j::l,h=>by
  unfold zA6;by_cases hj:j=i
  ·subst hj;rw[if_neg hne];split
   ·rename_i hk;obtain⟨k,hk1,hk2⟩:=Bp.1 hk;exact .inr ⟨k,hk1,dif_z.1 (by simpa using hk2)⟩
   exact .inl (AW ..)
  have hl:i∈l:=(AO.1 h).resolve_left λe=>hj e.symm;have ih:=zR1 (kept:=kept) hne hl;split
  ·exact ih
  split
  ·exact ih
  exact ih.imp_left λh=>Bj _ h
theorem zHq{kept:List Nat}{o s g:Nat}:∀{l:List Nat},g∈zA6 kept o s l->∀k∈kept,¬Sub k g
 |[],h=>by cases h
 | i ::l,h=>by
  unfold zA6 at h;split at h
  ·exact zHq h
  split at h
  ·exact zHq h
  rename_i hk;rcases AO.1 h with rfl|h
  ·intro k hk1 hs;exact hk (Bp.2 ⟨k,hk1,by rw[dif_z.2 hs];rfl⟩)
  exact zHq h
structure Mht(part:Nat)(Cs sets:List Nat):Prop where
 hit:∀h,Sub h part->(∀C∈Cs,h&&&C≠0)->∃s∈sets,Sub s h
 anti:∀s∈sets,∀t∈sets,Sub s t->s=t
theorem mht_start(part:Nat):Mht part [] [0] where
 hit h _ _:=⟨0,AW ..,λi hi=>by rw[BC]at hi;cases hi⟩
 anti s hs t ht _:=by rw[A0.1 hs,A0.1 ht]
theorem mht_step{part o:Nat}{Cs sets:List Nat}(h:Mht part Cs sets)(hp:part<2^32):Mht part (o::Cs) (zDy sets o) where
 hit g hg hm:=by
  obtain⟨s,hs,hsg⟩:=h.hit g hg λC hC=>hm C (Bj _ hC)
  by_cases hso:s&&&o=0
  ·obtain⟨i,h1,h2⟩:=zNs.1 (hm o (AW ..))
   have hi:i<32:=by
    apply BH
    intro hn
    have h3:=hg i h1
    have:part<2^i:=BW hp (Bo (by omega) (by omega))
    rw[B9 this]at h3;cases h3
   have hsi:s.testBit i=false:=by
    cases hb:s.testBit i
    ·rfl
    have:=zVo.1 hso i hb
    rw[h2]at this;cases this
   have hgi:(s|||(o&&&2^i)).testBit i=true:=by
    rw[A2,AZ,h2,Nat.testBit_two_pow_self];simp
   have hne:s|||(o&&&2^i)≠s:=λe=>by rw[e,hsi]at hgi;cases hgi
   have hsub:Sub (s|||(o&&&2^i)) g:=λj hj=>by
    rw[A2,AZ,Bu,Bc,Ba,decide_eq_true_eq]at hj
    rcases hj with hj|⟨_,hj⟩
    ·exact hsg j hj
    rw[<-hj];exact h1
   rcases zR1 (kept:=zYn sets o) hne (AT.2 hi)with k|⟨k,k1,k2⟩
   ·refine⟨_,Cg _ (Bt.2 ⟨s,AL.2 ⟨hs,by simpa using hso⟩,k⟩),hsub⟩
   exact⟨k,BZ _ k1,k2.trans hsub⟩
  exact⟨s,BZ _ (AL.2 ⟨hs,by simpa using hso⟩),hsg⟩
 anti a ha b hb hab:=by
  have hcase:∀{g},g∈zDy sets o->(g∈sets/\g&&&o≠0)\/∃s∈sets,s&&&o=0/\(∃i,g=s|||(o&&&2^i)/\g≠s)/\∀k∈zYn sets o,¬Sub k g:=λ{g} hg=>by
   rcases Br.1 hg with hg|hg
   ·obtain⟨h1,h2⟩:=AL.1 hg
    exact .inl ⟨h1,by simpa using h2⟩
   obtain⟨s,hs,hg⟩:=Bt.1 hg
   obtain⟨h1,h2⟩:=AL.1 hs
   obtain⟨i,_,e,hne⟩:=zCo hg
   exact .inr ⟨s,h1,by simpa using h2,⟨i,e,hne⟩,zHq hg⟩
  have hkept:∀{g},g∈sets->g&&&o≠0->g∈zYn sets o:=λh1 h2=>AL.2 ⟨h1,by simpa using h2⟩
  have hpart:∀{s i:Nat},s&&&o=0->s|||(o&&&2^i)≠s->∀j,(s|||(o&&&2^i)).testBit j=Ab->o.testBit j=Ab->j=i:=λ{s i} hs hne j hj hoj=>by
   rw[A2,AZ,Bu,Bc,Ba,decide_eq_true_eq]at hj
   rcases hj with hj|⟨_,hj⟩
   ·have:=zVo.1 hs j hj
    rw[hoj]at this;cases this
   exact hj.symm
  have hbit:∀{s i:Nat},s|||(o&&&2^i)≠s->o.testBit i=true:=λ{s i} hne=>by
   apply BH
   intro hn
   refine hne (Bs λj=>?_)
   rw[A2,AZ,Bu]
   by_cases hj:i=j
   ·subst hj
    rw[Bool.not_eq_true]at hn
    rw[hn];simp
   rw[decide_eq_false hj];simp
  rcases hcase ha with⟨a1,a2⟩|⟨s,s1,s2,⟨i,ea,na⟩,ka⟩
  ·rcases hcase hb with⟨b1,b2⟩|⟨t,t1,t2,⟨j,eb,nb⟩,kb⟩
   ·exact h.anti a a1 b b1 hab
   exact absurd hab (kb a (hkept a1 a2))
  rcases hcase hb with⟨b1,b2⟩|⟨t,t1,t2,⟨j,eb,nb⟩,kb⟩
  ·have hsa:Sub s a:=by rw[ea];exact zV6 s _
   have:=h.anti s s1 b b1 (hsa.trans hab)
   rw[this]at s2
   exact absurd s2 b2
  rw[ea]at na hab
  rw[eb]at nb hab
  have hoi:=hbit na
  have hii:(s|||(o&&&2^i)).testBit i=true:=by
   rw[A2,AZ,hoi,Nat.testBit_two_pow_self];simp
  have hij:=hpart t2 nb i (hab i hii) hoi
  subst hij
  have hst:Sub s t:=λq hq=>by
   have h1:=hab q (zV6 s _ q hq)
   rw[A2,AZ,Bc,Ba]at h1
   rcases h1 with h1|⟨h1,_⟩
   ·exact h1
   have:=zVo.1 s2 q hq
   rw[h1]at this;cases this
  have:=h.anti s s1 t t1 hst
  subst this
  rw[ea,eb]
def MinC(al:Nat->Bool)(part m:Nat):Prop:=Sub m part/\al m=Ac/\∀t,Sub t m->al t=Ac->t=m
theorem minc_ex{al:Nat->Bool}{part:Nat}:∀(n s:Nat),s<=n->Sub s part->al s=Ac->∃m,MinC al part m/\Sub m s:=by
 intro n;induction n with
 |zero=>
  intro s hn hs ha;obtain rfl:s=0:=by omega
  exact⟨0,⟨hs,ha,λt ht _=>by have:=sub_le ht;omega⟩,Sub.refl 0⟩
 | succ n ih=>
  intro s hn hs ha;by_cases h:∃t,Sub t s/\al t=Ac/\t≠s
  ·obtain⟨t,h1,h2,h3⟩:=h
   have:=sub_le h1
   obtain⟨m,hm,hms⟩:=ih t (by omega) (h1.trans hs) h2;exact⟨m,hm,hms.trans h1⟩
  exact⟨s,⟨hs,ha,λt h1 h2=>BH λh3=>h ⟨t,h1,h2,h3⟩⟩,Sub.refl s⟩
theorem zXk{al:Nat->Bool}{part:Nat}(hmo:∀a b,Sub a b->al b=Ab->al a=Ab)(hp:part<2^32):∀(k:Nat)(Cs sets r:List Nat),Cnf al part Cs sets->Mht part Cs sets->(∀C∈Cs,al (dif part C)=Ab)->zJ7 al part k sets=Aw r->∀m,m∈r↔MinC al part m
 |0,_,_,_,_,_,_,h=>by cases h
 | k +1,Cs,sets,r,hc,hm,ha,h=>by
  unfold zJ7 at h;cases hf:sets.find? al with
  | none=>
   rw[hf]at h;cases h;have hno:∀s∈sets,al s=false:=λs hs=>by simpa using B8.1 hf s hs
   have hhit:∀m,Sub m part->al m=Ac->∃s∈sets,Sub s m:=λm h1 h2=>hm.hit m h1 λC hC hz=>by
    have h3:Sub m (dif part C):=λi hi=>by
     rw[zBk,h1 i hi,zVo.1 hz i hi];rfl
    rw[hmo m _ h3 (ha C hC)]at h2;cases h2
   intro m;constructor
   ·intro hms;refine⟨hc.sub m hms,hno m hms,λt ht hta=>?_⟩;obtain⟨s,hs,hst⟩:=hhit t (ht.trans (hc.sub m hms)) hta
    have:=hm.anti s hs m hms (hst.trans ht)
    subst this;exact ht.eq hst
   rintro⟨h1,h2,h3⟩;obtain⟨s,hs,hsm⟩:=hhit m h1 h2;rw[<-h3 s hsm (hno s hs)];exact hs
  | some s=>
   rw[hf]at h;have hs:=BX hf;have has:al s=true:=List.find?_some hf;have hgp:=zHr (al:=al) (part:=part) (As 32) s (hc.sub s hs);have hdd:dif part (dif part (zEl al part (As 32) s))=zEl al part (As 32) s:=Bs λi=>by
    rw[zBk,zBk];cases h1:(zEl al part (As 32) s).testBit i
    ·cases part.testBit i<;>rfl
    rw[hgp i h1];rfl
   refine zXk hmo hp k _ _ r (zKt hc hs) (mht_step hm hp) (λC hC=>?_) h;rcases AO.1 hC with rfl|hC
   ·rw[hdd];exact zTt _ _ has
   exact ha C hC
section
open Go.RowKit
def SatS(A:List (List Nat×List Rw))(s:Nat)(τ:Nat->Va):Prop:=∀i,i<A.length->s.testBit i=Ab->(A.getD i Af).1.map τ∈(A.getD i Af).2
noncomputable def alB (A:List (List Nat×List Rw)) (s:Nat):Bool:=@decide (∃τ,SatS A s τ) (BI _)
theorem zQi{A:List (List Nat×List Rw)}{s:Nat}:alB A s=Ab↔∃τ,SatS A s τ:=by
 unfold alB;exact@decide_eq_true_iff _ (BI _)
theorem zHx(A:List (List Nat×List Rw)):∀a b,Sub a b->alB A b=Ab->alB A a=true:=λa b h hb=>by
 obtain⟨τ,hτ⟩:=zQi.1 hb;exact zQi.2 ⟨τ,λi hi hs=>hτ i hi (h i hs)⟩
def zC8(A:List (List Nat×List Rw))(s:Nat):List (List Nat×List Rw):=((As A.length).filter λi=>s.testBit i).map λi=>A.getD i Af
theorem sat_chos{A:List (List Nat×List Rw)}{s:Nat}{τ:Nat->Va}:SatA (zC8 A s) τ↔SatS A s τ:=by
 unfold SatA zC8 SatS;constructor
 ·intro h i hi hs;exact h _ (Am.2 ⟨i,AL.2 ⟨AT.2 hi,hs⟩,rfl⟩)
 intro h a ha;obtain⟨i,hi,rfl⟩:=Am.1 ha;obtain⟨h1,h2⟩:=AL.1 hi;exact h i (AT.1 h1) h2
theorem alB_0(A:List (List Nat×List Rw)):alB A 0=true:=zQi.2 ⟨λ_=>Af,λi _ h=>by rw[BC]at h;cases h⟩
def ClosP(A:List (List Nat×List Rw))(P:Nat):Prop:=∀i j,i<A.length->j<A.length->P.testBit i=Ab->P.testBit j=Ac->∀v∈(A.getD i Af).1,v∉(A.getD j Af).1
theorem al_split{A:List (List Nat×List Rw)}{P:Nat}(hc:ClosP A P){m:Nat}(h1:alB A (m&&&P)=Ab)(h2:alB A (dif m P)=Ab):alB A m=true:=by
 obtain⟨τ,hτ⟩:=zQi.1 h1;obtain⟨υ,hυ⟩:=zQi.1 h2;refine zQi.2 ⟨λv=>@ite _ (∃i,i<A.length/\P.testBit i=Ab/\v∈(A.getD i Af).1) (BI _) (τ v)<|υ v,λi hi hm=>?_⟩;cases hp:P.testBit i
 ·have e:(A.getD i Af).1.map (λv=>@ite _ (∃i,i<A.length/\P.testBit i=Ab/\v∈(A.getD i Af).1) (BI _) (τ v) (υ v))=(A.getD i Af).1.map υ:=BT λv hv=>by
   refine@if_neg _ (BI _) ?_ _ _ _;rintro⟨j,hj,hpj,hvj⟩;exact hc j i hj hi hpj hp v hvj hv
  rw[e];exact hυ i hi (by rw[zBk,hm,hp];rfl)
 have e:(A.getD i Af).1.map (λv=>@ite _ (∃i,i<A.length/\P.testBit i=Ab/\v∈(A.getD i Af).1) (BI _) (τ v) (υ v))=(A.getD i Af).1.map τ:=BT λv hv=>@if_pos _ (BI _) ⟨i,hi,hp,hv⟩ _ _ _;rw[e];exact hτ i hi (by rw[AZ,hm,hp];rfl)
theorem and_sub(a b:Nat):Sub (a&&&b) a:=λi h=>by rw[AZ,Ba]at h;exact h.1
theorem and_sub2(a b:Nat):Sub (a&&&b) b:=λi h=>by rw[AZ,Ba]at h;exact h.2
theorem zP6(a b:Nat):Sub (dif a b) a:=λi h=>by rw[zBk,Ba]at h;exact h.1
theorem minc_part{A:List (List Nat×List Rw)}{parts:List Nat}{full:Nat}(hf:∀i,full.testBit i=Ab↔i<A.length)(hc:∀P∈parts,ClosP A P/\Sub P full)(hcov:∀i,i<A.length->∃P∈parts,P.testBit i=Ab)(m:Nat):MinC (alB A) full m↔∃P∈parts,MinC (alB A) P m:=by
 constructor
 ·rintro⟨h1,h2,h3⟩;have hne:m≠0:=λe=>by rw[e,alB_0]at h2;cases h2
  obtain⟨i,hi⟩:=CJ hne;obtain⟨P,hP,hPi⟩:=hcov i ((hf i).1 (h1 i hi));refine⟨P,hP,?_,h2,h3⟩;cases ha:alB A (m&&&P)
  ·have:=h3 _ (and_sub m P) ha
   rw[<-this];exact and_sub2 m P
  cases hb:alB A (dif m P)
  ·have:=h3 _ (zP6 m P) hb
   have h4:(dif m P).testBit i=true:=by rw[this];exact hi
   rw[zBk,hPi]at h4;simp at h4
  rw[al_split (hc P hP).1 ha hb]at h2;cases h2
 rintro⟨P,hP,h1,h2,h3⟩;exact⟨h1.trans (hc P hP).2,h2,h3⟩
end
section
open Go.RowKit
attribute [local irreducible] seqW awp zV zY zR Weak updS zZ retL Pure Acts rP setP setQ cP nP fr
set_option maxRecDepth 4096
section
variable {α : Type} (g : α → List D) (z : List D)
def filG(L:List α)(n:Nat):List D:=L.flatMap g++repL (n-L.length) z
variable {g z} {c : Nat} (hg : ∀ a, (g a).length = c) (hz : z.length = c)
theorem zXd(n:Nat):repL n z=filG g z [] n:=by simp[filG]
theorem zKq(L:List α):filG g z L L.length=L.flatMap g:=by simp[filG,repL]
include hg hz
theorem zKo(L:List α)(n:Nat)(a:α)(h:L.length<n):setAt (filG g z L n) (L.length*c) (g a)=filG g z (L++[a]) n:=by
 obtain⟨m,hm⟩:∃m,n-L.length=m+1:=⟨n-L.length-1,by omega⟩;have e:(L.flatMap g).length=L.length*c:=zDc hg L;have e2:n-(L++[a]).length=m:=by rw[AV,CG];omega
 unfold filG;rw[hm,zEc,e2,BL,B7];have h5:=zF2 (g a) z (L.flatMap g) (repL m z) (by rw[hg,hz]);rw[e]at h5;rw[<-CH,h5]
theorem zKp{L:List α}{n:Nat}(h:L.length<=n):(filG g z L n).length=n*c:=by
 have e:(L.flatMap g).length=L.length*c:=zDc hg L;have e2:∀k,(repL k z).length=k*c:=λk=>by
  induction k with
  |zero=>simp[repL]
  |succ k ih=>rw[zEc,AV,ih,hz,Nat.succ_mul];omega
 unfold filG;rw[AV,e,e2,<-Nat.add_mul,Nat.add_sub_cancel' h]
end
abbrev zFa:List D:=[.val (.slice A1 0 0), .val (.slice A1 0 0), .val (.slice A1 0 0)]
theorem zN8(a:List Nat×List Rw):(rnAB a).length=3:=rfl
theorem fromA_c(a:List Nat×List Rw)(hv:a.1.length<=1000)(hr:a.2.length<=1000)(hl:∀r∈a.2,r.length<=2000000):Pure Al 87 [booD, .agg (atN a)] [] (.agg (rnAB a)):=by
 have h:=fromB_c (rnA a) (by rw[show(rnA a).V.length=a.1.length by simp[rnA,intL]];exact hv) hr hl;rw[afC_rnA]at h;exact h
set_option maxHeartbeats 4000000 in
theorem zR6(A:List (List Nat×List Rw))(hA:A.length<=1000)(h:∀a∈A,a.1.length<=1000/\a.2.length<=1000/\∀r∈a.2,r.length<=2000000):Pure Al 68 [.row (A.flatMap atN) A.length] [] (.row (A.flatMap rnAB) A.length):=by
 have r0:repL A.length zFa=filG rnAB zFa [] A.length:=zXd A.length;refine zH (T:=Tc) (zVt _ _ _) mixed Tryz.func68 rfl<|zB<|zA rfl<|v0s<|veT<|zB<|zA rfl<|ve ((0:Int)<=(Aa A:Int)/\(Aa A:Int)<=(Aa A:Int)/\(↑(72:Nat):Int)*(Aa A:Int)<=(281474976710656:Int)/\(Aa A:Int)<=(281474976710656:Int)/\0<3/\3=3)<|zB<|zB<|zA rfl<|veT<|zG<|zP (λ(i:Nat)=>fr 25 [(2,nl),(3,Ak 0 0 (Aa A) (Aa A*3) Ab),(9,Ae (Ah atN A)<|Aa A),(10,iD (Aa A:Int)),(11,iD (i:Int))]) (λ(i:Nat)=>[fsBB<|filG rnAB zFa (A.take i) A.length]) (λi=>A.length-i) (λ(i:Nat)=>i<=A.length) 0 ?_ ?_ ?_
 ·omega
 ·refine vk 1
 rintro i h1;rcases Ap i A.length with h2|h2
 ·have hm:=zAc A Af i h2;have hg:=zGq zAo A i h2;have hle:=zD2 zAo A i h2;have hne:=zD1 zAo (by decide) A;have htk:=zAs A i h2;have hlt:(A.take i).length=i:=by rw[AS];omega
  have hset:=zKo (z:=zFa) zN8 rfl (A.take i) A.length (A.getD i Af) (by omega);have hfl:=zKp (L:=A.take i) (z:=zFa) (n:=A.length) zN8 rfl (by omega);obtain⟨k1,k2,k3⟩:=h _ hm;have hfr:=fromA_c _ k1 k2 k3;rw[hlt,<-htk]at hset;generalize A.getD i Af=a at*;generalize A.take i=L at*;refine zB<|zA rfl<|v0s<|veT<|zB<|vT ((i:Int)<(Aa A:Int))<|zK<|zC<|zD<|zB<|zG<|zB<|zA rfl<|vr 2 (ix (i:Int) (Aa A:Int) (Ah atN A≠[]))<|vs 14 (AB<|Ag (Aj (i:Int)*3)<|Ah atN A) (AB (Ae (Ad (λ(v:Nat)=>iD (v:Int))<|AD a) (Aa<|AD a)::iD (Aa (AD a):Int)::Ae (Ad rowV<|AK a) (Aa<|AK a)::Ah atN (Ag (i+1) A))) (hd:=by simp(disch:=omega) only[Au,AM,AP,hg])<|ve (3<=Aa (Ae (Ad (λ(v:Nat)=>iD (v:Int))<|AD a) (Aa<|AD a)::iD (Aa (AD a):Int)::Ae (Ad rowV<|AK a) (Aa<|AK a)::Ah atN (Ag (i+1) A))/\Ac=Ac/\Ab=Ab/\3=3/\3<=3)<|zA rfl<|vr 5 ((True/\Ab=Ab)/\3<=3)<|vc (hfr)<|vr 1 ((0:Int)<=(i:Int)/\(i:Int)<(Aa A:Int))<|vo0 22 0 (i*3)<|vr 1 (Bx (fsBB<|filG rnAB zFa L<|Aa A)=Ac/\Ab=Ab/\3=3/\i*3+3<=Aa (AG<|fsBB<|filG rnAB zFa L<|Aa A)/\¬0∈[])<|vnil<|zE<|zC<|zD<|zA rfl<|vr 2 (i6 ((i:Int)+(1:Int)))<|vnil<|zC<|⟨i+1,by omega,by omega,?_⟩;refine wkn (fr 25 [(2,nl),(3,Ak 0 0 (Aa A) (Aa A*3) Ab),(4,iD (i:Int)),(5,AC 1 0),(9,Ae (Ah atN A) (Aa A)),(10,iD (Aa A:Int)),(11,iD (↑(i+1):Int)),(16,Ak 0 0 (Aa A) (Aa A*3) Ab),(17,iD (i:Int)),(18,Aq []),(19,D.ifc 129 (Aq [])),(20,Aq [Ae (Ad (λ(v:Nat)=>iD (v:Int)) (AD a)) (Aa (AD a)),iD (Aa (AD a):Int),Ae (Ad rowV (AK a)) (Aa (AK a))]),(21,Aq [Ae (Ad (λ(z:Int)=>iD z) (Rn.V (rn1 (rnA a)))) (Aa (Rn.V (rn1 (rnA a)))),Ae (Ad rowV (Rn.R (rn1 (rnA a)))) (Aa (Rn.R (rn1 (rnA a)))),Ae (Ad (λ(x:Nat)=>bD (g0 x)) (Rn.W (rn1 (rnA a)))) (Aa (Rn.W (rn1 (rnA a))))]),(22,AC 0 (i*3)),(23,iD (↑(i+1):Int))]) [Av (A7 (A7 (A7 (filG rnAB zFa L (Aa A)) (i*3) (Ae (Ad (λ(z:Int)=>iD z) (Rn.V (rn1 (rnA a)))) (Aa (Rn.V (rn1 (rnA a)))))) (i*3+1) (Ae (Ad rowV (Rn.R (rn1 (rnA a)))) (Aa (Rn.R (rn1 (rnA a)))))) (i*3+1+1) (Ae (Ad (λ(x:Nat)=>bD (g0 x)) (Rn.W (rn1 (rnA a)))) (Aa (Rn.W (rn1 (rnA a)))))) (133:TypeId) 3 Ab Ac Az,Av [Ae (Ad (λ(v:Nat)=>iD (v:Int)) (AD a)) (Aa (AD a)),iD (Aa (AD a):Int),Ae (Ad rowV (AK a)) (Aa (AK a))] 45 0 Ac Ac Az] ?_;rw[show(((filG rnAB zFa L A.length).set (i*3) _).set (i*3+1) _).set (i*3+1+1) _=filG rnAB zFa (A.take (i+1)) A.length from hset];refine vk 1
 obtain rfl:i=A.length:=by omega
 rw[A3];have ha:filG rnAB zFa A A.length=A.flatMap rnAB:=zKq A;have ht:=zEm zN8 A A.length rfl;rw[ha];refine zB<|zA rfl<|v0s<|veT<|zB<|vF ((Aa A:Int)<(Aa A:Int))<|zS<|zM<|zM<|zQ rfl<|zC<|zD<|zB<|zA rfl<|veT<|zJ<|zAu (True) (Ae (Ai (Aa A*3)<|Ag 0<|AG<|fsBB<|Ah rnAB A)<|Aa A) (Ae (Ah rnAB A)<|Aa A) (.inr rfl) (by simp(disch:=omega) only[AJ,ht]) rfl
set_option maxHeartbeats 4000000 in
theorem zQb(A:List (List Nat×List Rw))(hA:A.length<=32)(s:Nat)(hs:s<4294967296):Pure Al 45 [.row (A.flatMap atN) A.length,u32D s] [] (.row ((zC8 A s).flatMap atN) (zC8 A s).length):=by
 refine zH zAg mixed Tryz.func45 rfl<|zB<|zA rfl<|v0s<|veT<|zB<|zA rfl<|ve (True/\0<3/\3=3/\0<=16777216/\0<=9223372036854775807)<|zB<|zB<|zA rfl<|veT<|zG<|zAl (λ(i:Nat)(L:List (List Nat×List Rw))=>fr 27 [(1,u32D s),(4,nl),(5,Ak 0 0 (Aa L) (Aa L*3) Ab),(9,Ae (Ah atN A)<|Aa A),(10,iD (Aa A:Int)),(11,iD (i:Int))]) (λ(i:Nat)(L:List (List Nat×List Rw))=>[atK<|L.flatMap atN]) (λi L=>A.length-i) (λ(i:Nat)(L:List (List Nat×List Rw))=>i<=A.length/\L=((As i).filter λi=>s.testBit i).map λi=>A.getD i Af) 0 [] ?_ ?_ ?_
 ·exact⟨by omega,rfl⟩
 ·refine vk 1
 rintro i L ⟨h1,h2⟩;have hL:L.length<=32:=by
  rw[h2,An]
  have:=Bv (λi=>s.testBit i) (As i)
  rw[Ck]at this;omega
 have hcl:(L.flatMap atN).length=L.length*3:=zDc zAo L;rcases Ap i A.length with h3|h3
 ·have hg:=zGq zAo A i h3;have hle:=zD2 zAo A i h3;have hne:=zD1 zAo (by decide) A;have hsu:((As (i+1)).filter λi=>s.testBit i).map (λi=>A.getD i Af)=if s.testBit i then L++[A.getD i Af]else L:=by
   rw[BF,BB,Bb,<-h2,Bq];cases s.testBit i<;>simp
  have w1:=zEu s (v:=i) (by omega);have w2:=zSp hs i;have w3:=bit_w hs i;generalize A.getD i Af=a at*;focus
   refine zB<|zA rfl<|v0s<|veT<|zB<|vT ((i:Int)<(Aa A:Int))<|zK<|zC<|zD<|zB<|zG<|zB<|zA rfl<|vr 2 (ix (i:Int) (Aa A:Int) (Ah atN A≠[]))<|vs 14 (AB<|Ag (Aj (i:Int)*3)<|Ah atN A) (AB (Ae (Ad (λ(v:Nat)=>iD (v:Int))<|AD a) (Aa<|AD a)::iD (Aa (AD a):Int)::Ae (Ad rowV<|AK a) (Aa<|AK a)::Ah atN (Ag (i+1) A))) (hd:=by simp(disch:=omega) only[Au,AM,AP,hg])<|ve (3<=Aa (Ae (Ad (λ(v:Nat)=>iD (v:Int))<|AD a) (Aa<|AD a)::iD (Aa (AD a):Int)::Ae (Ad rowV<|AK a) (Aa<|AK a)::Ah atN (Ag (i+1) A))/\Ac=Ac/\Ab=Ab/\3=3/\3<=3)<|zB<|zA rfl<|vr 3 ((0:Int)<=(i:Int))<|vs 18 (Ay<|Ax AA<|Int.fdiv (s:Int) ((2:Int)^min (Aj (i:Int)) 32)) (dig (s>>>i)) (hd:=by simp(disch:=omega) only[Au,w1])<|vrT 1<|vs 19 (Ay<|Ax AA<|A6 AA (↑(Bh (AH 32 (↑(s>>>i):Int)&&&AH 32 (1:Int))):Int)) (dig<|Bh (AH 32 (↑(s>>>i):Int)&&&AH 32 (1:Int))) (hd:=by simp(disch:=omega) only[zA1])<|vrT 1<|vs 20 (bD ((↑(Bh (AH 32 (↑(s>>>i):Int)&&&AH 32 (1:Int))):Int)==(1:Int))) (bD<|Nat.testBit s i) (hd:=by simp(disch:=omega) only[w2])<|veT<|zAr (t:=Nat.testBit s i) (by kernel_rfl) (λhc=>?_)<|λhc=>?_;refine zA rfl<|vr 5 (3<=3/\((3=3/\3<=3/\True)/\0<3/\3=3/\3<=16777216/\1<=9223372036854775807)/\Bi (atK<|Ah atN L)=Ab/\Aa (AG<|atK<|Ah atN L)=Aa L*3/\Aa L*3=Aa L*3/\A8 (atK<|Ah atN L)=45/\A9 (atK<|Ah atN L)=3/\3=3/\0<3/\0<56/\45=45/\(Aa L+1)*56<=140737488355328/\3=3/\A4 (AI<|atK<|Ah atN L)=Ac/\(Ac=Ac\/A5 (AI<|atK<|Ah atN L)=Ab))<|vnil<|zE<|zC<|zD<|zA rfl<|vr 2 (i6 ((i:Int)+(1:Int)))<|vnil<|zC ?_;rotate_left;refine zK<|zE<|zC<|zD<|zA rfl<|vr 2 (i6 ((i:Int)+(1:Int)))<|vnil<|zC ?_;rotate_left
  ·have hc2:s.testBit i=true:=by assumption
   rw[hc2,if_pos rfl]at hsu;refine⟨i+1,L++[a],⟨by omega,hsu.symm⟩,by omega,?_⟩;rw[BL,B7,AV,CG];refine vk 1
  have hc2:s.testBit i=false:=by assumption
  rw[hc2,if_neg (by decide)]at hsu;refine⟨i+1,L,⟨by omega,hsu.symm⟩,by omega,?_⟩;refine vk 1
 obtain rfl:i=A.length:=by omega
 have h2:L=zC8 A s:=h2;subst h2;have ht:=zEm zAo (zC8 A s) _ rfl;refine zB<|zA rfl<|v0s<|veT<|zB<|vF ((Aa A:Int)<(Aa A:Int))<|zS<|zM<|zM<|zQ rfl<|zC<|zD<|zB<|zA rfl<|veT<|zJ<|zAu (True) (Ae (Ai (Aa (zC8 A s)*3)<|Ag 0<|AG<|atK<|Ah atN<|zC8 A s)<|Aa<|zC8 A s) (Ae (Ah atN<|zC8 A s)<|Aa<|zC8 A s) (.inr rfl) (by simp(disch:=omega) only[AJ,ht]) rfl
end
section
open Go.RowKit Go.Sort Go.Lib Go.Shelf
section
variable {P : Program} {st : List Bk}
theorem acts_rowP{f:FuncId}{k n:Nat}{e:Bk}{wh:Bool}{ds':List D}(he:st[k]?=Aw e)(ha:e.arr=Ab)(hkd:e.kd= .plain)(hf:e.fz=Ac)(hlen:e.cells.length=n)(hl':ds'.length=n)(hpos:0<n)
  (h:∀(I:Im) b c w us,ImB I w->(∀j,¬I b j)->RelL I w noB e.cells us->(∃cur t,w.heap[b]?=Aw (.cells cur t (0,0)))->(∀j,j<n->w.cell? ⟨b,0+j,A1⟩=Aw (us.getD j undef))->(∀j,j<n->w.frozen? ⟨b,0+j,A1⟩=Ac)->n<=c->Calls P f #[.slice (Aw ⟨b,0,A1⟩) n c] w λx w'=>x= .returned (.tuple #[])/\∃vs q os,w'=grow ((w.drewN q).setCells b 0 vs) os/\RelL I w noB ds' vs):
  Acts P f [.osl k 0 n n wh] st [] (.val (.tuple #[])) (st.set k {e with cells:=ds'}):=by
 intro β I w xs hr hsr hinj hfz hdom hi hg;simp only[RelT]at hr;obtain⟨v,ys,rfl,hr,rfl⟩:=hr;simp only[Rel]at hr;rcases hr with⟨e0,_,rfl⟩|⟨e0,_,_,a,c,rfl,_⟩|⟨b,c,cap,hb,rfl,k1,k2,k3⟩
 ·omega
 ·omega
 have hs0:Sim β I w ([]:List D) st ({tmps:=#[],defers:=[]}:Act).tmps.toList:=⟨by simp only[RelT],hsr,hinj,hfz,hdom,hi,hg⟩;have hni:e.kd.isMap=false:=by rw[hkd];rfl
 have hnob:e.nob=true:=by unfold Bk.nob;rw[hkd,ha];rfl
 obtain⟨e',he',ho⟩:=hs0.sr k b c hb;rw[he]at he';cases he';obtain⟨cur,c1,c2,c3,c4⟩:=ho.c hni;rw[hnob]at c3;simp only[if_true]at c3;have hno:∀j,¬I b j:=λj hij=>by
  have:=(hs0.fz k b c j e hb he hij).1
  rw[hf]at this;cases this
 have hlc:(cur.take e.cells.length).length=n:=by rw[<-c3.length];exact hlen
 have hcell:∀j,j<n->w.cell? ⟨b,0+j,A1⟩=Aw ((cur.take e.cells.length).getD j undef)/\w.frozen? ⟨b,0+j,A1⟩=false:=λj hj=>by
  have hlt:j<cur.length:=by rw[AS]at hlc;omega
  refine⟨?_,frozen_of_row w b (0+j) cur.toArray e.ty c1⟩;rw[Ao,Cl,if_pos (by omega),Ar hlt];simp[World.cell?,c1,hlt]
 refine(h I b cap w (cur.take e.cells.length) hs0.imb hno c3 ⟨_,_,c1⟩ (λj hj=>(hcell j hj).1) (λj hj=>(hcell j hj).2) k1).mono ?_;rintro x w' ⟨rfl,vs,q,os,rfl,hvs⟩;have hvs':RelL (fixI I β st []) (w.drewN q) (if e.nob then noB else β) ds' vs:=by
  rw[hnob];simp only[if_true];exact RelL.mono ((Fix.drew I w q).trans (zAi [])) _ _ (BeLe.refl _) _ _ hvs
 obtain⟨s1,s2,s3⟩:=(hs0.drew q).put (off:=0) (cs:=ds') (vs:=vs) (ks:=[]) hb he hf hni (by simp) hvs' (by omega) A1 undef;have hset2:setAt e.cells 0 ds'=ds':=zG1 e.cells ds' [] (by omega);rw[hset2]at s1;have s4:=s1.grow os;exact⟨_,β,_,rfl,s4.imb,(Stp.drew β _ w q).trans (s2.trans (Stp.grow s1.imb β os)),λ_ _ _ h=>h,s4.sr,s4.inj,s4.fz,s4.dom,by simp only[Rel]⟩
theorem acts_row0{f:FuncId}{k:Nat}{wh:Bool}(h0:∀a c w,Calls P f #[.slice a 0 c] w λx w'=>x= .returned (.tuple #[])/\w'=w):Acts P f [.osl k 0 0 0 wh] st [] (.val (.tuple #[])) st:=by
 intro β I w xs hr hsr hinj hfz hdom hi hg;simp only[RelT]at hr;obtain⟨v,ys,rfl,hr,rfl⟩:=hr;have:∃a c,v= .slice a 0 c:=by
  simp only[Rel]at hr;grind
 obtain⟨a,c,rfl⟩:=this;refine(h0 a c w).mono ?_;rintro x w' ⟨rfl,rfl⟩;exact⟨_,β,I,rfl,hi,Stp.refl _ _ _,λ_ _ _ h=>h,hsr,hinj,hfz,hdom,by simp only[Rel]⟩
end
def zFg{α:Type}(c:α->α->Int)(l:List α):List α:=l.mergeSort λa b=>decide (c a b<=0)
section
variable {α : Type} {c : α → α → Int}
theorem zH5(l:List α):(zFg c l).Perm l:=List.mergeSort_perm _ _
theorem Cm.le_tr(hc:Cm c){a b d:α}(h:c a b<=0)(k:c b d<=0):c a d<=0:=by
 by_cases e1:c a b=0
 ·rw[(hc.eq a b).1 e1];exact k
 by_cases e2:c b d=0
 ·rw[<-(hc.eq b d).1 e2];exact h
 have:=hc.tr a b d (by omega) (by omega);omega
theorem zQw(hc:Cm c)(l:List α):(zFg c l).Pairwise λa b=>¬c b a<0:=by
 have:=List.pairwise_mergeSort (le:=λa b=>decide (c a b<=0)) (λa b d h k=>by
  simp only[decide_eq_true_eq]at*;exact hc.le_tr h k) (λa b=>by
  have:=hc.neg a b
  simp only[Bc,decide_eq_true_eq];omega) l
 refine this.imp λ{a b} h=>?_
 have:=hc.neg a b
 grind
theorem ddG_sort[DecidableEq α](hc:Cm c)(l:List α):ddG (zFg c l)=setG c l:=by
 rw[zYt hc (zQw hc l)];grind [zYc,zH5]
end
theorem zQx(l:List Int):zFg icmp l=l.mergeSort λx y=>decide (x<=y):=by
 grind [zFg,icmp]
theorem zL0(zs:List Int):zs.map intD=(zs.map (Ax .i64)).map .val:=by simp
theorem zZ5{st:List Bk}{k n:Nat}{e:Bk}{wh:Bool}{zs:List Int}(he:st[k]?=Aw e)(ha:e.arr=Ab)(hkd:e.kd= .plain)(hf:e.fz=Ac)(hc:e.cells=zs.map intD)(hn:zs.length=n)(hb:n<=1000000000):
  Acts Al 65 [.osl k 0 n n wh] st [] (.val (.tuple #[])) (st.set k {e with cells:=(zFg icmp zs).map intD}):=by
 have hsl:(zFg icmp zs).length=n:=by rw[(zH5 zs).length_eq,hn]
 rcases B_ n with h0|hpos
 ·subst h0;obtain rfl:zs=[]:=List.eq_nil_of_length_eq_zero hn;have e1:({e with cells:=(zFg icmp []).map intD}:Bk)=e:=by
   rw[show(zFg icmp ([]:List Int))=[] by rw[zQx];simp,<-hc]
  rw[e1];have e2:st.set k e=st:=by
   apply List.ext_getElem?;grind
  grind [acts_row0,Tryz.slices_Sort_int_none]
 refine acts_rowP he ha hkd hf (by rw[hc,An,hn]) (by rw[An,hsl]) hpos ?_;intro I b c w us hi hno hr hcur hcell hfr hcap;rw[hc,zL0]at hr;obtain rfl:=zG6 hr;have hH:Holds (Ax .i64) w b 0 zs.toArray:=λj hj=>by
  grind
 have hblk:b<w.heap.size:=by
  grind
 have:=Tryz.slices_Sort_int b 0 c zs w hH hblk (by omega)
 rw[hn]at this;refine this.mono ?_;rintro x w' ⟨rfl,q,os,rfl⟩;refine⟨rfl,(zFg icmp zs).map (Ax .i64),q,os,?_,?_⟩
 ·rw[<-zQx,putRow_eq_setCells (Ax .i64) w b 0 zs.toArray (zFg icmp zs) q hH (by simp[hsl,hn])]
 rw[zL0];exact zCz λv hv=>by obtain⟨z,_,rfl⟩:=Am.1 hv;rfl
end
section
open Go.RowKit
attribute [local irreducible] seqW awp zV zY zR Weak updS zZ retL Pure Acts rP setP setQ cP nP fr
set_option maxRecDepth 4096
theorem getD_getY{α:Type}{l:List α}{i:Nat}(d:α)(h:i<l.length):l.getD i d=l[i]:=by grind
theorem zNy{α:Type}{a b:List α}{i:Nat}(d:α)(ha:i<a.length)(hb:i<b.length)(h:a.take i=b.take i)(k:a.getD i d=b.getD i d):a.take (i+1)=b.take (i+1):=by
 grind [Bm,getD_getY]
theorem cint_cY(a b:Int):Pure Al 79 [intD a,intD b] [] (intD (Lib.compareInt a b)):=
 zCm (us:=[.int .i64 a, .int .i64 b]) (λw=>(Tryz.cmp_Compare_int a b w).mono λe w' h=>⟨h.1,h.2.symm⟩)
set_option maxHeartbeats 1000000 in
theorem scmp_cY(a b:List Int)(n m:Nat)(hn:a.length=n)(hm:b.length=m)(ha:n<=1000000000)(hb:m<=1000000000):Pure Al 59 [.row (a.map intD) n, .row (b.map intD) m] [] (intD (lcmp a b)):=by
 subst hn hm;refine zH zAg mixed Tryz.func59 rfl<|vAu<|zB<|vAe<|zG<|zP (λ(i:Nat)=>fr 36 [(0,intsD a),(1,intsD b),(9,intsD a),(10,iD (Aa a:Int)),(11,iD (i:Int))]) (λi=>[]) (λi=>a.length-i) (λi=>i<=a.length/\i<=b.length/\lcmp (a.drop i) (b.drop i)=lcmp a b) 0 ?_ ?_ ?_
 ·grind
 ·refine vk 0
 rintro i ⟨k1,k2,k3⟩;rcases Ap i a.length with h1|h1
 ·have x1:=zHo a i h1;have n1:a.map intD≠[]:=zAa;rcases Ap i b.length with h2|h2
  ·have x2:=zHo b i h2;have n2:b.map intD≠[]:=zAa;have hl:=zRw h1 h2;rw[k3]at hl;generalize a.getD i 0=x at*;generalize b.getD i 0=y at*;have hci:=cint_cY x y;unfold Lib.compareInt at hci;by_cases h3:x<y
   ·rw[if_pos h3]at hl;have e:(if x<y then-1 else if x>y then(1:Int)else 0)=-1:=if_pos h3;rw[e]at hci;refine vAu<|zB<|vT ((i:Int)<↑(Aa a))<|vKB<|vA<|vr 2 (ix ↑i ↑(Aa a) (Ad intD a≠[]))<|vp 14 i (Ad intD a)<|vr 1 (0<Aa (Ag i<|Ad intD a))<|vsh 15 x1<|veT<|zB<|vAe<|vF ((i:Int)>=(Aa b:Int))<|vK<|vA<|vr 3 (ix ↑i ↑(Aa b) (Ad intD b≠[]))<|vp 22 i (Ad intD b)<|vr 1 (0<Aa (Ag i<|Ad intD b))<|vsh 23 x2<|veT<|vA<|vrT 2<|vc hci<|veT<|vAe<|vt<|vAe<|zJ<|zN<|zF<|zF<|zN<|zF<|vre (True) (q0_) (.inr rfl) ?_;rw[hl]
   by_cases h4:y<x
   ·rw[if_neg h3,if_pos h4]at hl;have e:(if x<y then-1 else if x>y then(1:Int)else 0)=1:=by rw[if_neg h3,if_pos h4]
    rw[e]at hci;refine vAu<|zB<|vT ((i:Int)<↑(Aa a))<|vKB<|vA<|vr 2 (ix ↑i ↑(Aa a) (Ad intD a≠[]))<|vp 14 i (Ad intD a)<|vr 1 (0<Aa (Ag i<|Ad intD a))<|vsh 15 x1<|veT<|zB<|vAe<|vF ((i:Int)>=(Aa b:Int))<|vK<|vA<|vr 3 (ix ↑i ↑(Aa b) (Ad intD b≠[]))<|vp 22 i (Ad intD b)<|vr 1 (0<Aa (Ag i<|Ad intD b))<|vsh 23 x2<|veT<|vA<|vrT 2<|vc hci<|veT<|vAe<|vt<|vAe<|zJ<|zN<|zF<|zF<|zN<|zF<|vre (True) (q1_) (.inr rfl) ?_;rw[hl]
   rw[if_neg h3,if_neg h4]at hl;have e:(if x<y then-1 else if x>y then(1:Int)else 0)=0:=by rw[if_neg h3,if_neg h4]
   rw[e]at hci;refine vAu<|zB<|vT ((i:Int)<↑(Aa a))<|vKB<|vA<|vr 2 (ix ↑i ↑(Aa a) (Ad intD a≠[]))<|vp 14 i (Ad intD a)<|vr 1 (0<Aa (Ag i<|Ad intD a))<|vsh 15 x1<|veT<|zB<|vAe<|vF ((i:Int)>=(Aa b:Int))<|vK<|vA<|vr 3 (ix ↑i ↑(Aa b) (Ad intD b≠[]))<|vp 22 i (Ad intD b)<|vr 1 (0<Aa (Ag i<|Ad intD b))<|vsh 23 x2<|veT<|vA<|vrT 2<|vc hci<|veT<|vAe<|vf<|zK<|zE<|vN<|zA rfl<|vr 2 (i6 (↑i+1))<|vnil<|zC<|⟨i+1,⟨by omega,by omega,hl.symm⟩,by omega,?_⟩;refine vk 0
  have hl:=zKk (a:=a) (b:=b) (i:=i) (.inr (by omega)) k1 k2;rw[k3,if_neg (by omega),if_pos (by omega)]at hl;rw[hl];refine vAu<|zB<|vT ((i:Int)<↑(Aa a))<|vKB<|vA<|vr 2 (ix ↑i ↑(Aa a) (Ad intD a≠[]))<|vp 14 i (Ad intD a)<|vr 1 (0<Aa (Ag i<|Ad intD a))<|vsh 15 x1<|veT<|zB<|vAe<|vT ((i:Int)>=(Aa b:Int))<|vAe<|zJ<|zF<|zN<|zF<|zF<|zN<|zF<|vret (True)<|.inr rfl
 have hl:=zKk (a:=a) (b:=b) (i:=i) (.inl (by omega)) k1 k2;rw[k3]at hl;rcases Ap a.length b.length with h2|h2
 ·rw[if_pos h2]at hl;rw[hl];refine vAu<|zB<|vF ((i:Int)<↑(Aa a))<|vZ2<|zB<|vAe<|vT ((Aa a:Int)<↑(Aa b))<|vAe<|zJ<|zF<|vret (True)<|.inr rfl
 rw[if_neg (by omega),if_neg (by omega)]at hl;rw[hl];refine vAu<|zB<|vF ((i:Int)<↑(Aa a))<|vZ2<|zB<|vAe<|vF ((Aa a:Int)<↑(Aa b))<|vK<|vAe<|zJ<|vret (True)<|.inr rfl
set_option maxHeartbeats 1000000 in
theorem zLc(a b:List Int)(n m:Nat)(hn:a.length=n)(hm:b.length=m)(ha:n<=1000000000)(hb:m<=1000000000):Pure Al 17 [.row (a.map intD) n, .row (b.map intD) m] [] (bD (decide (a=b))):=by
 subst hn hm;refine zH zAg mixed Tryz.func17 rfl ?_;focus
  refine vAu<|zB<|vAe<|zAr (t:=(Aa a:Int)!=(Aa b:Int)) (by kernel_rfl) (λhc=>?_)<|λhc=>?_;simp only[bne_iff_ne]at hc;refine vAe<|zJ<|zF<|vre (True) (Ay<|Value.bool Ac) (.inr rfl) ?_;rotate_left;simp only[bne_eq_false_iff_eq]at hc;refine vK<|zB<|vAe<|zG ?_;rotate_left
 ·congr 2;grind
 refine zP (λ(i:Nat)=>fr 26 [(0,intsD a),(1,intsD b),(12,iD<|Aa a),(13,iD i)]) (λi=>[]) (λi=>a.length-i) (λi=>i<=a.length/\a.take i=b.take i) 0 ?_ ?_ ?_
 ·grind
 ·refine vk 0
 rintro i ⟨k1,k2⟩;focus
  refine vAu<|zB<|vcD ((i:Int)<↑(Aa a)) (λhc=>?_)<|λhc=>?_;refine vKB<|vAe<|zB<|vd [0,1,2,4,5,6,3,7,8]<|vr 3 (ix ↑i ↑(Aa a) (Ad intD a≠[])) (vp 18 i (Ad intD a)<|vr 3 (ix ↑i ↑(Aa b) (Ad intD b≠[])) (vp 22 i (Ad intD b) ?_) ⟨(by omega),⟨(by omega),(by exact zAa)⟩⟩) ⟨(by omega),⟨(by omega),(by exact zAa)⟩⟩;refine vr 1 (0<Aa (Ag i<|Ad intD a))<|vs 19 (List.headD (Ag i<|Ad intD a) Uk) (intD<|AN a i (0:Int)) (hd:=by simp(disch:=omega) only[zHo])<|vr 1 (0<Aa (Ag i<|Ad intD b))<|vs 23 (List.headD (Ag i<|Ad intD b) Uk) (intD<|AN b i (0:Int)) (hd:=by simp(disch:=omega) only[zHo])<|veT<|zAr (t:=AN a i (0:Int)!=AN b i (0:Int)) (by kernel_rfl) (λhc=>?_)<|λhc=>?_;simp only[bne_iff_ne]at hc;refine vAe<|zJ<|zN<|zF<|zF<|zN<|zF<|vre (True) (Ay<|Value.bool Ac) (.inr rfl) ?_;rotate_left;simp only[bne_eq_false_iff_eq]at hc;refine zK<|zE<|vN<|zA rfl<|vr 2 (i6 (↑i+1))<|vnil<|zC ?_;rotate_left;refine vZ2<|vAe<|zJ<|vre (True) (Ay<|Value.bool Ab) (.inr rfl) ?_;rotate_left
 ·congr 2;grind
 ·refine⟨i+1,⟨by omega,?_⟩,by omega,?_⟩
  ·grind [zNy]
  refine vk 0
 grind
theorem repL_oneY(n:Nat)(z:D):repL n [z]=AF n z:=by
 induction n with
 |zero=>rfl
 |succ n ih=>simp only[repL,CB,List.flatten_cons,AM,AP]at ih⊢;rw[ih]
theorem zYa{α:Type}{c:α->α->Int}(l:List α):(zFg c l).length=l.length:=(zH5 l).length_eq
theorem zYs(l:List Int):ddG (zFg icmp l)=setG icmp l:=ddG_sort zTq l
theorem zSi(l:List Int):(Bf l).length<=l.length:=by
 unfold Bf CE;rw[An];exact AE (Bv _ _) (by simp)
abbrev vIY(l:List Int):List Value:=l.map (Ax .i64)
theorem zP8{st:List Bk}{k n:Nat}{e:Bk}{wh:Bool}{zs:List Int}(he:st[k]?=Aw e)(ha:e.arr=Ab)(hkd:e.kd= .plain)(hf:e.fz=Ac)(hc:e.cells=(vIY zs).map .val)(hn:zs.length=n)(hb:n<=1000000):
  Acts Al 66 [.osl k 0 n n wh] st [] (.osl k 0 (Bf zs).length (Bf zs).length wh) (st.set k {e with cells:=(vIY (Bf zs++AF (n-(Bf zs).length) 0)).map .val}):=by
 have hcl:=zSi zs;refine acts_row he ha hkd hf hc (by simp[hn]) (by simp;omega) (by omega) (λv hv=>by obtain⟨z,_,rfl⟩:=Am.1 hv;rfl) (λ_ a c w=>Tryz.slices_Compact_int_empty a c w) (λh0 b c w h1 h2 h3=>?_);refine(Tryz.slices_Compact_int_cells b 0 n c zs w (by omega) (by omega) h3 (λj hj=>?_) h2).mono ?_
 ·rw[h1 j (by omega)];simp only[vIY,Ao,BE];rw[Ar (by omega)];rfl
 rw[show zs.take n=zs from AQ (by omega)];exact λx w' h=>h
theorem sort_iY(l:List Int)(k n:Nat)(wh:Bool)(st:List Bk)(hs:st[k]?=Aw ⟨l.map intD,3,1,Ab,Ac, .plain⟩)(hn:l.length=n)(hb:n<=1000000):Acts Al 65 [.osl k 0 n n wh] st [] (.val (.tuple #[])) (st.set k ⟨(zFg icmp l).map intD,3,1,Ab,Ac, .plain⟩):=zZ5 hs rfl rfl rfl rfl hn (by omega)
theorem zYv(l:List Int)(k n:Nat)(wh:Bool)(st:List Bk)(hs:st[k]?=Aw ⟨(zFg icmp l).map intD,3,1,Ab,Ac, .plain⟩)(hn:l.length=n)(hb:n<=1000000):Acts Al 66 [.osl k 0 n n wh] st [] (.osl k 0 (setG icmp l).length (setG icmp l).length wh) (st.set k ⟨(setG icmp l).map intD++AF (n-(setG icmp l).length) (intD 0),3,1,Ab,Ac, .plain⟩):=by
 have h:=zP8 (wh:=wh) hs rfl rfl rfl (zs:=zFg icmp l) (by rw[zL0]) (by rw[zYa];exact hn) hb;rw[zYw,zYs]at h;have e1:(vIY (setG icmp l++AF (n-(setG icmp l).length) 0)).map Ay=(setG icmp l).map intD++AF (n-(setG icmp l).length) (intD 0):=by simp[Bb]
 rwa[e1]at h
def Tsq:Par:=⟨λf=>f==65||f==66,λ_ _=>A1,λ_=>Ac,λ_=>Ac,λ_=>Ac⟩
theorem Tsq_ok:zBl Al Tsq:=by intro t n f h;cases h
abbrev ivV(z:Int):Value:= .int .i64 z
abbrev mapZ(U:List Int):Bk:=⟨nsD (As U.length),125,0,Ab,Ac, .map (U.map ivV)⟩
theorem zWu(U:List Int)(z:Int):zEf (U.map ivV) (ivV z)=if z∈U then Aw (U.idxOf z)else none:=by
 unfold zEf;rw[List.findIdx?_map];have e:(vEq (ivV z)∘ivV)=λx=>decide (z=x):=by
  funext x;show(z==x)=decide (z=x);rw[BD];simp
 rw[e];induction U with
 |nil=>rfl
 | cons s U ih=>
  rw[CK,ih];by_cases e:z=s
  ·subst e;simp
  have e2:(s==z)=false:=by simpa using λh:s=z=>e h.symm
  simp only[e,decide_false,CD,if_false,AO,false_or,List.idxOf_cons,e2,cond_false];split<;>simp
theorem mput_iv(U:List Int)(z:Int)(h:z∉U):mput (mapZ U) (U.map ivV) (ivV z) (iD U.length)=mapZ (U++[z]):=by
 unfold mput;rw[zWu,if_neg h];simp[BF]
theorem look_iv(U:List Int)(z:Int)(h:z∈U):zFo Ac (iD 0) (U.map ivV) (nsD (As U.length)) (ivV z)=iD (U.idxOf z:Nat):=by
 unfold zFo;rw[zWu,if_pos h]
 have:=BS.2 h
 simp[ctD,Ao,this]
theorem fits_iv(U:List Int):(U.map ivV).all (zX (.int .i64))=true:=by simp[zX]
abbrev g1D(v:Nat):List D:=[iD (v:Nat)]
theorem fm_g1:∀l:List Nat,l.flatMap g1D=nsD l
 |[]=>rfl
 |v::l=>by rw[Cn,fm_g1 l];rfl
theorem g1D_len(v:Nat):(g1D v).length=1:=rfl
theorem fm_len:∀{A:List (List Nat×List Rw)},(∀a∈A,a.1.length<=8)->(A.flatMap (·.1)).length<=A.length*8
 |[],_=>AU _
 |a::A,h=>by
  have h1:=h a (AW ..);have h2:=fm_len λb hb=>h b (Bj _ hb);rw[Cn,AV,AR];omega
theorem used_eq(A:List (List Nat×List Rw)):setG icmp (intL (A.flatMap (·.1)))=zCg A:=by
 unfold zCg intL;rw[List.map_flatMap]
set_option maxHeartbeats 8000000 in
theorem zG2(A:List (List Nat×List Rw))(h:AtW A):∃b:Bool,(b=Ab↔∃τ,SatA A τ)/\Pure Al 38 [.row (A.flatMap atN) A.length] [] (bD b):=by
 have hA5:=h.l;have hd:=dense_ok h;obtain⟨b,hb,htot⟩:=totalA_c hd;refine⟨b,hb.trans dense_sat,?_⟩;clear hb;have hfa:=zR6 (A.map (renA (zGg A))) (by rw[An];omega) (λa ha=>by
  have h1:=zB0 (A:=a.1) ⟨hd.asc a ha,λv hv=>by have:=hd.lt a ha v hv;have:=hd.n8;omega⟩;have h2:=hd.few a ha;exact⟨by omega,by omega,λr hr=>by have:=hd.len a ha r hr;omega⟩)
 rw[An]at hfa htot;have hV8:∀a∈A,a.1.length<=32:=λa ha=>zB0 (A:=a.1) ⟨h.asc a ha,λv hv=>by have:=h.lt a ha v hv;omega⟩;have hl:=fm_len (A:=A) λa ha=>by
  have h3:=zQe (intL a.1) 0 (by
   unfold intL;rw[BQ];exact(h.asc a ha).imp λh=>by omega) λx hx=>by
    obtain⟨v,hv,rfl⟩:=Am.1 hx
    have:=h.lt a ha v hv
    omega
  rw[show(intL a.1).length=a.1.length by simp[intL]]at h3;exact h3
 have hU:=used_eq A;have hU8:=zVy h;have hUm:∀a∈A,∀v∈a.1,((v:Nat):Int)∈zCg A:=λa ha v hv=>zEr.2 ⟨a,ha,v,hv,rfl⟩;have hUn:(zCg A).Nodup:=used_asc.imp λh e=>by omega
 have e1:∀l:List Nat,(intL l).map intD=nsD l:=λl=>by simp[intL]
 have e2:∀l:List Nat,(intL l).length=l.length:=λl=>by simp[intL]
 have hdf:∀v:Nat,zGg A v=(zCg A).idxOf ((v:Nat):Int):=λ_=>rfl;refine zH Tsq_ok mixed Tryz.func38 rfl<|zB<|zA rfl<|v0s<|veT<|zB<|zA rfl<|ve (True/\0<1/\1=1/\0<=16777216/\0<=9223372036854775807)<|zB<|zB<|zA rfl<|veT<|zG<|zAl (λ(i:Nat)(l:List Nat)=>fr 97 [(0,Ae (Ah atN A)<|Aa A),(2,bD Ac),(3,Ak 0 0 (Aa l) (Aa l) Ab),(18,Ae (Ah atN A)<|Aa A),(19,iD (Aa A:Int)),(20,iD (i:Int))]) (λ(i:Nat)(l:List Nat)=>[iaK<|nsD l]) (λi l=>A.length-i) (λ(i:Nat)(l:List Nat)=>i<=A.length/\l=(A.take i).flatMap (·.1)) 0 [] ?_ ?_ ?_
 ·exact⟨by omega,rfl⟩
 ·refine vk 1
 rintro i l ⟨i1,i2⟩;have hll:l.length<=40:=by
  have h3:((A.take i).flatMap (·.1)).length<=(A.flatMap (·.1)).length:=by
   conv=>rhs;rw[<-CL i A,BL,AV]
   omega
  rw[i2];omega
 have hlc:(nsD l).length=l.length:=An ..
 rcases Ap i A.length with i3|i3
 ·have hg:=zGq zAo A i i3;have hle:=zD2 zAo A i i3;have hne:=zD1 zAo (by decide) A;have htk:=zAs A i i3;have hv:=hV8 _ (zAc A Af i i3);have hsn:(A.take (i+1)).flatMap (·.1)=l++(A.getD i Af).1:=by rw[htk,BL,<-i2,B7]
  generalize A.getD i Af=a at*;obtain⟨V,R⟩:=a;have hva:=zHc V _ rfl;simp only at hv hsn;refine zB<|zA rfl<|v0s<|veT<|zB<|vT ((i:Int)<(Aa A:Int))<|zK<|zC<|zD<|zB<|zG<|zB<|zA rfl<|vr 1 (ix (i:Int) (Aa A:Int) (Ah atN A≠[]))<|vs 22 (AB<|Ag (Aj (i:Int)*3)<|Ah atN A) (AB (Ae (Ad (λ(v:Nat)=>iD (v:Int)) V) (Aa V)::iD (Aa V:Int)::Ae (Ad rowV R) (Aa R)::Ah atN (Ag (i+1) A))) (hd:=by simp(disch:=omega) only[Au,AM,AP,hg])<|ve (3<=Aa (Ae (Ad (λ(v:Nat)=>iD (v:Int)) V) (Aa V)::iD (Aa V:Int)::Ae (Ad rowV R) (Aa R)::Ah atN (Ag (i+1) A))/\Ac=Ac/\Ab=Ab/\3=3/\3<=3)<|zA rfl<|vr 5 (True/\0<3/\Bi (iaK<|nsD l)=Ab/\Aa (AG<|iaK<|nsD l)=Aa l*1/\Aa l=Aa l*1/\A8 (iaK<|nsD l)=3/\A9 (iaK<|nsD l)=1/\Aa (Ad (λ(v:Nat)=>iD (v:Int)) V)=Aa V*1/\0<1/\0<8/\3=3/\(Aa l+Aa V)*8<=140737488355328/\1=1/\A4 (AI<|iaK<|nsD l)=Ac/\(Ac=Ac\/A5 (AI<|iaK<|nsD l)=Ab))<|vs 3 (Ak 0 0 (Aa l+Aa V) ((Aa l+Aa V)*1) Ab) (Ak 0 0 (Aa l+Aa V) (Aa l+Aa V) Ab) (hd:=by simp(disch:=omega) only[A_])<|vnil<|zE<|zC<|zD<|zA rfl<|vr 2 (i6 ((i:Int)+(1:Int)))<|vnil<|zC<|⟨i+1,l++V,⟨by omega,hsn.symm⟩,by omega,?_⟩;rw[show nsD (l++V)=nsD l++nsD V from Bb,AV];refine vk 1
 rw[AQ i3]at i2;have hso:=sort_iY (intL l) 0 l.length Ab [⟨(intL l).map intD,3,1,Ab,Ac, .plain⟩] rfl (e2 l) (by omega);rw[e1]at hso;have hco:=zYv (intL l) 0 l.length Ab [⟨(zFg icmp (intL l)).map intD,3,1,Ab,Ac, .plain⟩] rfl (e2 l) (by omega);rw[i2,hU,<-i2]at hco;generalize zFg icmp (intL l)=srt at*;refine zB<|zA rfl<|v0s<|veT<|zB<|vF ((i:Int)<(Aa A:Int))<|zS<|zM<|zM<|zQ rfl<|zC<|zD<|zB<|zA rfl<|vrT 1<|vnt [iaK<|nsD l]<|zA4 [] [] [Ak 0 0 (Aa l) (Aa l) Ab] [Ak 0 0 (Aa l) (Aa l) Ab] (LeL.refl _) (by exact hso) ?_;refine v0s<|veT<|zB<|zA rfl<|vrT 1<|vnt [Av (Ad intD srt) 3 1 Ab Ac Az]<|zA4 [] [] [Ak 0 0 (Aa l) (Aa l) Ab] [Ak 0 0 (Aa l) (Aa l) Ab] (LeL.refl _) (by exact hco) ?_;refine v0s<|veT<|zB<|zA rfl<|veT<|zB<|zB<|zA rfl<|veT<|zG ?_;have hdf2:zGg A=λv:Nat=>(zCg A).idxOf ((v:Nat):Int):=rfl;generalize zGg A=fD at*;generalize zCg A=U at*;obtain⟨tl,htl⟩:∃tl,tl=AF (l.length-U.length) (intD 0):=⟨_,rfl⟩;rw[<-htl];refine zP (λ(i:Nat)=>fr 97 [(0,Ae (Ah atN A)<|Aa A),(2,bD Ac),(3,Ak 0 0 (Aa U) (Aa U) Ab),(6,D.mref 1),(34,Ak 0 0 (Aa U) (Aa U) Ab),(35,iD (Aa U:Int)),(36,iD (i:Int))]) (λ(i:Nat)=>[iaK (U.map intD++tl),mapZ<|U.take i]) (λi=>U.length-i) (λ(i:Nat)=>i<=U.length) 0 ?_ ?_ ?_
 ·omega
 ·refine vk 2
 rintro k k1;have hkl:(U.take k).length=k:=by rw[AS];omega
 rcases Ap k U.length with k2|k2
 ·have hx:((U.map intD++tl).drop k).headD .unk=intD (U.getD k 0):=by
   rw[List.drop_append_of_le_length (by rw[An];omega)]
   have:=zHo U k k2
   rw[BK (by simpa using k2)]at this⊢;exact this
  have hne:U.map intD++tl≠[]:=λe=>by
   have h9:=(List.append_eq_nil_iff.1 e).1;rw[List.map_eq_nil_iff]at h9;rw[h9]at k2;cases k2
  have htk:U.take (k+1)=U.take k++[U.getD k 0]:=by
   rw[Bm k2,Ao,Ar k2];rfl
  have hno:U.getD k 0∉U.take k:=λhm=>by
   obtain⟨j,hj,e⟩:=BU hm;rw[hkl]at hj;rw[Cy]at e;have e3:U.getD k 0=U[k]:=by rw[Ao,Ar k2];rfl
   rw[e3]at e
   have:=(CF.1 hUn) j k (by omega) k2 hj
   exact this e
  have hmp:=mput_iv (U.take k) (U.getD k 0) hno;rw[hkl,<-htk]at hmp;generalize U.getD k 0=z at*;focus
   refine zB (zA rfl (v0s (veT (zB (vT ((k:Int)<(Aa U:Int)) (zK (zC (zD (zB (zG (zB (zA rfl (vr 2 ((0:Int)<=(k:Int)/\(k:Int)<(Aa U:Int)) (vo 39 0 (k) (vr 1 (0<Aa (Ag k (AG (iaK (Ad intD U++tl))))) (vsh 40 hx (veT (zA rfl (vwh 4 [] [] (Bx (mapZ (Ai k U))=Ac/\zX (Co (Cp (Cq AX) "int" 1 8 Ac 8 8 (Aw (Ax AX (0:Int))) Ab #[])) (Ax AX z)=Ab/\List.all (Ad ivV (Ai k U)) (zX (Co (Cp (Cq AX) "int" 1 8 Ac 8 8 (Aw (Ax AX (0:Int))) Ab #[])))=Ab/\¬1∈[]) ?_ ?_)))))))))))))))))));rotate_left;refine vb 1 (mput (mapZ (Ai k U)) (Ad ivV (Ai k U)) (Ax AX z) (iD (k:Int))) (mapZ (Ai (k+1) U)) (hd:=by simp(disch:=omega) only[hmp]) (vnil (zE (zC (zD (zA rfl (vr 2 (i6 ((k:Int)+(1:Int))) (vnil (zC ?_))))))));rotate_left
  ·exact⟨rfl,rfl,fits_iv _,by decide⟩
  refine⟨k+1,by omega,by omega,?_⟩;refine vk 2
 obtain rfl:k=U.length:=by omega
 rw[A3];have r0:repL A.length zAt=filG atN zAt [] A.length:=zXd A.length;refine zB<|zA rfl<|v0s<|veT<|zB<|vF ((Aa U:Int)<(Aa U:Int))<|zS<|zM<|zM<|zQ rfl<|zC<|zD<|zB<|zA rfl<|ve ((0:Int)<=(Aa A:Int)/\(Aa A:Int)<=(Aa A:Int)/\(↑(56:Nat):Int)*(Aa A:Int)<=(281474976710656:Int)/\(Aa A:Int)<=(281474976710656:Int)/\0<3/\3=3)<|zB<|zB<|zA rfl<|veT<|zG<|zP (λ(i:Nat)=>fr 97 [(2,bD Ac),(3,Ak 0 0 (Aa U) (Aa U) Ab),(6,D.mref 1),(9,Ak 2 0 (Aa A) (Aa A*3) Ab),(48,Ae (Ah atN A)<|Aa A),(49,iD (Aa A:Int)),(50,iD (i:Int))]) (λ(i:Nat)=>[iaK (U.map intD++tl),mapZ U,atK<|filG atN zAt ((A.take i).map<|renA fD) A.length]) (λi=>A.length-i) (λ(i:Nat)=>i<=A.length) 0 ?_ ?_ ?_
 ·omega
 ·refine vk 3
 rintro q q1;rcases Ap q A.length with q2|q2
 ·have hm:=zAc A Af q q2;have hg:=zGq zAo A q q2;have hle:=zD2 zAo A q q2;have hne:=zD1 zAo (by decide) A;have htk:=zAs A q q2;have hv:=hV8 _ hm;have hum:=hUm _ hm;have hlt:((A.take q).map (renA fD)).length=q:=by rw[An,AS];omega
  have hset:=zKo (z:=zAt) zAo rfl ((A.take q).map (renA fD)) A.length (renA fD (A.getD q Af)) (by omega);have hfl:=zKp (L:=(A.take q).map (renA fD)) (z:=zAt) (n:=A.length) zAo rfl (by omega);have hmp2:(A.take (q+1)).map (renA fD)=(A.take q).map (renA fD)++[renA fD (A.getD q Af)]:=by rw[htk,Bb];rfl
  rw[hlt,<-hmp2]at hset;generalize A.getD q Af=a at*;obtain⟨V,R⟩:=a;simp only at hv hum;generalize (A.take q).map (renA fD)=L at*;have r1:repL V.length [iD 0]=filG g1D [iD 0] [] V.length:=zXd V.length;refine zB<|zA rfl<|v0s<|veT<|zB<|vT ((q:Int)<(Aa A:Int))<|zK<|zC<|zD<|zB<|zG<|zB<|zA rfl<|vr 2 (ix (q:Int) (Aa A:Int) (Ah atN A≠[]))<|vs 53 (AB<|Ag (Aj (q:Int)*3)<|Ah atN A) (AB (Ae (Ad (λ(v:Nat)=>iD (v:Int)) V) (Aa V)::iD (Aa V:Int)::Ae (Ad rowV R) (Aa R)::Ah atN (Ag (q+1) A))) (hd:=by simp(disch:=omega) only[Au,AM,AP,hg])<|ve (3<=Aa (Ae (Ad (λ(v:Nat)=>iD (v:Int)) V) (Aa V)::iD (Aa V:Int)::Ae (Ad rowV R) (Aa R)::Ah atN (Ag (q+1) A))/\Ac=Ac/\Ab=Ab/\3=3/\3<=3)<|zB<|zA rfl<|vr 5 (True/\0<3/\(0:Int)<=(Aa V:Int)/\(Aa V:Int)<=(Aa V:Int)/\(↑(8:Nat):Int)*(Aa V:Int)<=(281474976710656:Int)/\(Aa V:Int)<=(281474976710656:Int)/\0<1/\1=1)<|vs 12 (Ak 4 0 (Aj (Aa V:Int)) (Aj (Aa V:Int)*1) Ab) (Ak 4 0 (Aa V) (Aa V) Ab) (hd:=by simp(disch:=omega) only[Au,A_])<|veT<|zB<|zB<|zA rfl<|ve (True/\0<3)<|zG<|zP (λ(j:Nat)=>fr 97 [(2,bD Ac),(3,Ak 0 0 (Aa U) (Aa U) Ab),(6,D.mref 1),(9,Ak 2 0 (Aa A) (Aa A*3) Ab),(10,iD (q:Int)),(11,AC 3 0),(12,Ak 4 0 (Aa V) (Aa V) Ab),(48,Ae (Ah atN A)<|Aa A),(49,iD (Aa A:Int)),(50,iD (q:Int)),(60,Ae (Ad (λ(v:Nat)=>iD (v:Int)) V)<|Aa V),(61,iD (Aa V:Int)),(62,iD (j:Int))]) (λ(j:Nat)=>[iaK (U.map intD++tl),mapZ U,atK<|filG atN zAt L A.length,at1 (.row (nsD V) V.length) (.row (R.map rowV) R.length) (V.length:Nat),iaK<|filG g1D [iD 0] ((V.take j).map fD) V.length]) (λj=>V.length-j) (λ(j:Nat)=>j<=V.length) 0 ?_ ?_ ?_
  ·omega
  ·refine vk 5
  rintro j j1;have hjl:((V.take j).map fD).length=j:=by rw[An,AS];omega
  have hfj:=zKp (L:=(V.take j).map fD) (z:=[iD 0]) (n:=V.length) g1D_len rfl (by omega);rcases Ap j V.length with j2|j2
  ·have hx:=zAq V j j2;have hn1:nsD V≠[]:=zAa;have htv:V.take (j+1)=V.take j++[V.getD j 0]:=by
    rw[Bm j2,Ao,Ar j2];rfl
   have hs2:=zKo (z:=[iD 0]) g1D_len rfl ((V.take j).map fD) V.length (fD (V.getD j 0)) (by omega);have hlk:=look_iv U ((V.getD j 0:Nat):Int) (hum _ (zAc V 0 j j2));have hmv:(V.take (j+1)).map fD=(V.take j).map fD++[fD (V.getD j 0)]:=by rw[htv,Bb];rfl
   rw[hjl,<-hmv,A_]at hs2;have hfv:fD (V.getD j 0)=U.idxOf ((V.getD j 0:Nat):Int):=by rw[hdf2]
   rw[<-hfv]at hlk;generalize V.getD j 0=v at*;generalize fD v=w at*;focus
    refine zB (zA rfl (v0s (veT (zB (vT ((j:Int)<(Aa V:Int)) (zK (zC (zD (zB (zG (zB (zA rfl (vr 2 (ix (j:Int) (Aa V:Int) (Ad (λ(v:Nat)=>iD (v:Int)) V≠[])) (vp 65 (j) (Ad (λ(v:Nat)=>iD (v:Int)) V) (vr 1 (0<Aa (Ag j (Ad (λ(v:Nat)=>iD (v:Int)) V))) (vsh 66 hx (veT (zA rfl (vwh 5 [] [] (zX (Co (Cp (Cq AX) "int" 1 8 Ac 8 8 (Aw (Ax AX (0:Int))) Ab #[])) (Ax AX (v:Int))=Ab/\List.all (Ad ivV U) (zX (Co (Cp (Cq AX) "int" 1 8 Ac 8 8 (Aw (Ax AX (0:Int))) Ab #[])))=Ab) ?_ ?_)))))))))))))))))));rotate_left;refine vsh 71 hlk (vr 1 ((0:Int)<=(j:Int)/\(j:Int)<(Aa V:Int)) (vo 72 4 (j) ?_));refine vwh 1 [] [] (Bx (iaK (filG g1D [iD 0] (Ad fD (Ai j V)) (Aa V)))=Ac/\Ab=Ab/\1=1/\j+1<=Aa (AG (iaK (filG g1D [iD 0] (Ad fD (Ai j V)) (Aa V))))/\¬4∈[]) ?_ ?_;rotate_left;refine vnil (zE (zC (zD (zA rfl (vr 2 (i6 ((j:Int)+(1:Int))) (vnil (zC ?_)))))));rotate_left
   ·exact⟨rfl,fits_iv _⟩
   ·exact⟨rfl,rfl,rfl,(by show j+1<=(filG g1D [iD 0] ((V.take j).map fD) V.length).length;rw[hfj];omega),by decide⟩
   refine⟨j+1,by omega,by omega,?_⟩;refine wkn (fr 97 [(2,bD Ac),(3,Ak 0 0 (Aa U) (Aa U) Ab),(6,D.mref 1),(9,Ak 2 0 (Aa A) (Aa A*3) Ab),(10,iD (q:Int)),(11,AC 3 0),(12,Ak 4 0 (Aa V) (Aa V) Ab),(13,iD (j:Int)),(14,iD (v:Int)),(48,Ae (Ah atN A) (Aa A)),(49,iD (Aa A:Int)),(50,iD (q:Int)),(60,Ae (Ad (λ(v:Nat)=>iD (v:Int)) V) (Aa V)),(61,iD (Aa V:Int)),(62,iD (↑(j+1):Int)),(67,Ak 4 0 (Aa V) (Aa V) Ab),(68,iD (j:Int)),(69,D.mref 1),(70,iD (v:Int)),(71,iD (w:Int)),(72,AC 4 j),(73,iD (↑(j+1):Int))]) [iaK (Ad intD U++tl),mapZ U,atK (filG atN zAt L (Aa A)),at1 (Ae (nsD V) (Aa V)) (Ae (Ad rowV R) (Aa R)) (Aa V:Int),Av (A7 (filG g1D [iD 0] (Ad fD (Ai j V)) (Aa V)) j (iD (w:Int))) (3:TypeId) 1 Ab Ac Az] ?_;rw[show(filG g1D [iD 0] ((V.take j).map fD) V.length).set j (iD (w:Nat))=filG g1D [iD 0] ((V.take (j+1)).map fD) V.length from hs2];refine vk 5
  obtain rfl:j=V.length:=by omega
  rw[A3]at hfj hjl⊢;have hal:=zKq (g:=g1D) (z:=[iD 0]) (V.map fD);rw[An]at hal;have hfm:(V.map fD).flatMap g1D=nsD (V.map fD):=fm_g1 (V.map fD);rw[hfm]at hal;rw[hal]at hfj⊢;have hns:(nsD (V.map fD)).take V.length=nsD (V.map fD):=AQ (by simp);refine zB<|zA rfl<|v0s<|veT<|zB<|vF ((Aa V:Int)<(Aa V:Int))<|zS<|zM<|zM<|zQ rfl<|zC<|zD<|zA rfl<|vr 7 (True/\2<=2/\((1=1/\1<=3/\2=2/\3<=3/\True)/\Ab=Ab)/\(0:Int)<=(q:Int)/\(q:Int)<(Aa A:Int))<|vo0 80 2 (q*3)<|vr 1 (Bx (atK<|filG atN zAt L<|Aa A)=Ac/\Ab=Ab/\3=3/\q*3+3<=Aa (AG<|atK<|filG atN zAt L<|Aa A)/\¬2∈[4])<|vb 2 (Av (setAt (AG<|atK<|filG atN zAt L<|Aa A) (q*3) [Ae (Ai (Aa V)<|Ag 0<|AG<|iaK<|nsD<|Ad fD V)<|Aa V,iD (Aa V:Int),Ae (Ad rowV R)<|Aa R]) (A8<|atK<|filG atN zAt L<|Aa A) (A9<|atK<|filG atN zAt L<|Aa A) Ab Ac<|AI<|atK<|filG atN zAt L<|Aa A) (Av (A7 (A7 (A7 (filG atN zAt L<|Aa A) (q*3)<|Ae (nsD<|Ad fD V)<|Aa V) (q*3+1)<|iD (Aa V:Int)) (q*3+1+1)<|Ae (Ad rowV R)<|Aa R) (45:TypeId) 3 Ab Ac Az) (hd:=by simp(disch:=omega) only[setAt,AJ,hns])<|vnil<|zE<|zC<|zD<|zA rfl<|vr 2 (i6 ((q:Int)+(1:Int)))<|vnil<|zC<|⟨q+1,by omega,by omega,?_⟩;refine wkn (fr 97 [(2,bD Ac),(3,Ak 0 0 (Aa U) (Aa U) Ab),(6,D.mref 1),(9,Ak 2 0 (Aa A) (Aa A*3) Ab),(10,iD (q:Int)),(11,AC 3 0),(12,Ak 4 0 (Aa V) (Aa V) Ab),(48,Ae (Ah atN A) (Aa A)),(49,iD (Aa A:Int)),(50,iD (↑(q+1):Int)),(60,Ae (Ad (λ(v:Nat)=>iD (v:Int)) V) (Aa V)),(61,iD (Aa V:Int)),(62,iD (Aa V:Int)),(63,bD (decide ((Aa V:Int)<(Aa V:Int)))),(74,Ak 2 0 (Aa A) (Aa A*3) Ab),(75,iD (q:Int)),(76,Ak 4 0 (Aa V) (Aa V) Ab),(77,AC 3 1),(78,Aq [iD (Aa V:Int),Ae (Ad rowV R) (Aa R)]),(79,Aq [Ak 4 0 (Aa V) (Aa V) Ab,iD (Aa V:Int),Ae (Ad rowV R) (Aa R)]),(80,AC 2 (q*3)),(81,iD (↑(q+1):Int))]) [iaK (Ad intD U++tl),mapZ U,Av (A7 (A7 (A7 (filG atN zAt L (Aa A)) (q*3) (Ae (nsD (Ad fD V)) (Aa V))) (q*3+1) (iD (Aa V:Int))) (q*3+1+1) (Ae (Ad rowV R) (Aa R))) (45:TypeId) 3 Ab Ac Az,at1 (Ae (nsD V) (Aa V)) (Ae (Ad rowV R) (Aa R)) (Aa V:Int),Av (nsD (Ad fD V)) (3:TypeId) 1 Ab Ab Az] ?_;rw[show(((filG atN zAt L A.length).set (q*3) (Ae (nsD (V.map fD)) V.length)).set (q*3+1) (iD (V.length:Nat))).set (q*3+1+1) (Ae (R.map rowV) R.length)=filG atN zAt ((A.take (q+1)).map (renA fD)) A.length from by
   rw[<-hset];show _=setAt _ _ [Ae (nsD (V.map fD)) (V.map fD).length,iD ((V.map fD).length:Nat),_];rw[An];rfl]
  refine vk 3
 obtain rfl:q=A.length:=by omega
 rw[A3];have ha:=zKq (g:=atN) (z:=zAt) (A.map (renA fD));rw[An]at ha;have ht:=zEm zAo (A.map (renA fD)) A.length (by rw[An]);rw[ha];refine zB<|zA rfl<|v0s<|veT<|zB<|vF ((Aa A:Int)<(Aa A:Int))<|zS<|zM<|zM<|zQ rfl<|zC<|zD<|zB<|zA rfl<|vr 5 (True/\Ab=Ab)<|vcl [Ae (Ai (Aa A*3)<|Ag 0<|AG<|atK<|Ah atN<|Ad (renA fD) A)<|Aa A] [Ae (Ah atN<|Ad (renA fD) A)<|Aa A] (LeL.of_eq (by simp(disch:=omega) only[AJ,ht])) (by exact hfa)<|vc (htot)<|ve (0<2/\1<2)<|zB<|zA rfl<|veT<|zJ<|vret (True)<|.inr rfl
end
def memL(s:Nat):List Int:=((As 32).filter λi=>s.testBit i).map λi:Nat=>(i:Int)
theorem zWv{s i:Nat}:((i:Nat):Int)∈memL s↔i<32/\s.testBit i=true:=by
 unfold memL;rw[Am];constructor
 ·rintro⟨j,hj,e⟩;obtain⟨h1,h2⟩:=AL.1 hj;have:j=i:=by omega
  subst this;exact⟨AT.1 h1,h2⟩
 rintro⟨h1,h2⟩;exact⟨i,AL.2 ⟨AT.2 h1,h2⟩,rfl⟩
def bstS(o:Option (List Int))(l:List Int):Option (List Int):=match o with
 |none=>Aw l
 |some b=>if lcmp l b<0 then Aw l else Aw b
def FstL(L:List (List Int))(o:Option (List Int)):Prop:=match o with
 |none=>L=[]
 |some b=>b∈L/\∀l∈L,¬lcmp l b<0
theorem bst_step{L:List (List Int)}{o:Option (List Int)}(h:FstL L o)(l:List Int):FstL (L++[l]) (bstS o l):=by
 cases o with
 |none=>
  have h:L=[]:=h;subst h;refine⟨A0.2 rfl,λk hk=>?_⟩;rw[A0.1 hk,(zPt l l).2 rfl];omega
 | some b=>
  obtain⟨h1,h2⟩:=h;unfold bstS;by_cases hlt:lcmp l b<0
  ·dsimp only;rw[if_pos hlt];refine⟨Cg _ (A0.2 rfl),λk hk hkl=>?_⟩;rcases Br.1 hk with hk|hk
   ·exact h2 k hk (lcmp_tr k l b hkl hlt)
   rw[A0.1 hk,(zPt l l).2 rfl]at hkl;omega
  dsimp only;rw[if_neg hlt];refine⟨BZ _ h1,λk hk=>?_⟩;rcases Br.1 hk with hk|hk
  ·exact h2 k hk
  rw[A0.1 hk];exact hlt
theorem fst_uniq{L M:List (List Int)}(hm:∀l,l∈L↔l∈M){o p:Option (List Int)}(h:FstL L o)(k:FstL M p):o=p:=by
 cases o with
 | none=>
  have h:L=[]:=h;cases p with
  |none=>rfl
  |some c=>
   have:=(hm c).2 k.1
   rw[h]at this;cases this
 | some b=>
  cases p with
  |none=>
   have k:M=[]:=k
   have:=(hm b).1 h.1
   rw[k]at this;cases this
  |some c=>
   have h1:=h.2 c ((hm c).2 k.1);have h2:=k.2 b ((hm b).1 h.1);have h3:=zW1 b c;have:lcmp b c=0:=by omega
   rw[(zPt b c).1 this]
def lvlZ(b:Nat->Bool):Nat->Int
 |0=>if b 0 then 0 else-1
 |n+1=>if b (n+1)then((n+1:Nat):Int)else lvlZ b n
theorem zNa{b c:Nat->Bool}:∀(n:Nat),(∀i,i<=n->b i=c i)->lvlZ b n=lvlZ c n
 |0,h=>by unfold lvlZ;rw[h 0 (AU 0)]
 |n+1,h=>by
  unfold lvlZ;rw[h (n+1) (AU _),zNa n λi hi=>h i (by omega)]
theorem zPq(b:Nat->Bool):∀n:Nat,-1<=lvlZ b n/\lvlZ b n<=(n:Int)
 |0=>by unfold lvlZ;split<;>omega
 |n+1=>by
  have:=zPq b n
  unfold lvlZ;split<;>omega
theorem lvlZ_no{b:Nat->Bool}:∀{n i:Nat},lvlZ b n<(i:Int)->i<=n->b i=Ac
 |0,i,h,hi=>by
  obtain rfl:i=0:=by omega
  unfold lvlZ at h;split at h
  ·omega
  rename_i hb;simpa using hb
 | n+1,i,h,hi=>by
  unfold lvlZ at h;split at h
  ·omega
  rename_i hb;rcases Ap i (n+1)with h2|h2
  ·exact lvlZ_no h (by omega)
  obtain rfl:i=n+1:=by omega
  simpa using hb
section
open Go.RowKit
attribute [local irreducible] seqW awp zV zY zR Weak updS zZ retL Pure Acts rP setP setQ cP nP fr
set_option maxRecDepth 4096
noncomputable def ansB (n:Nat) (A:List (List Nat×List Rw)) (p:Rw):Bool:=@decide (Ans n A p) (BI _)
theorem zSv{n:Nat}{A:List (List Nat×List Rw)}{p:Rw}:ansB n A p=Ab↔Ans n A p:=by
 unfold ansB;exact@decide_eq_true_iff _ (BI _)
theorem AtOk.r{n:Nat}{A:List (List Nat×List Rw)}(h:AtOk n A):AtR A where
 l:=by have:=h.l;omega
 v a ha:=zB0 (A:=a.1) ⟨h.asc a ha,λv hv=>by have:=h.lt a ha v hv;have:=h.n8;omega⟩
 w a ha v hv:=by have:=h.lt a ha v hv;have:=h.n8;omega
 r a ha:=by have:=h.few a ha;omega
 k a ha r hr:=⟨h.len a ha r hr,AY.2 λv hv=>(h.val a ha r hr v hv).1⟩
theorem sat_c{n:Nat}{A:List (List Nat×List Rw)}(h:AtOk n A){p:Rw}(hp:p.length<=n):Pure Al 38 [.row ((A.map (zAw p)).flatMap atN) A.length] [] (bD (ansB n A p)):=by
 obtain⟨b,hb,hs⟩:=zG2 _ (h.rest hp).w;rw[An]at hs;have e:b=ansB n A p:=by
  rw[BD,hb,zSv,zFd hp h.lt];constructor
  ·rintro⟨τ,hτ⟩;exact⟨τ,(zEw h.len τ).1 hτ⟩
  rintro⟨τ,hτ⟩;exact⟨τ,(zEw h.len τ).2 hτ⟩
 rw[<-e];exact hs
theorem lvlZ_at{b:Nat->Bool}{i:Nat}(hb:b i=Ab):∀{n:Nat},i<=n->(∀j,i<j->j<=n->b j=Ac)->lvlZ b n=(i:Nat)
 |0,hi,_=>by
  obtain rfl:i=0:=by omega
  unfold lvlZ;rw[if_pos hb];rfl
 | n+1,hi,hn=>by
  unfold lvlZ;rcases Ap i (n+1)with h|h
  ·rw[hn (n+1) h (AU _),if_neg (by decide)];exact lvlZ_at hb (by omega) λj h1 h2=>hn j h1 (by omega)
  obtain rfl:i=n+1:=by omega
  rw[if_pos hb]
theorem zRu{b:Nat->Bool}:∀{n:Nat},(∀j,j<=n->b j=Ac)->lvlZ b n=-1
 |0,hn=>by
  unfold lvlZ;rw[hn 0 (AU 0),if_neg (by decide)]
 |n+1,hn=>by
  unfold lvlZ;rw[hn (n+1) (AU _),if_neg (by decide)];exact zRu λj hj=>hn j (by omega)
abbrev inpA(x0 x1 x2 x3:D)(A:List (List Nat×List Rw)):List D:=[x0,x1,x2,x3, .row (A.flatMap atN) A.length]
set_option maxHeartbeats 2000000 in
theorem zPr(n:Nat)(A:List (List Nat×List Rw))(h:AtOk n A)(z0 z1:Int)(cs2 cs3:List D)(m2 m3:Nat)(r:Rw)(hr:r.length<=n):Pure Al 34 [.agg (inpA (iD z0) (iD z1) (.row cs2 m2) (.row cs3 m3) A),rowV r] [] (iD (lvlZ (λi=>ansB n A (r.take i)) r.length)):=by
 have hn8:=h.n8;refine zH zAg mixed Tryz.func34 rfl<|zB<|zA rfl<|v0s<|veT<|zB<|zB<|zA rfl<|veT<|zG<|zP (λ(k:Nat)=>fr 20 [(1,rowV r),(2,AC 0 0),(5,iD ((k:Int)-(1:Int)))]) (λ(k:Nat)=>[⟨inpA (iD z0) (iD z1) (.row cs2 m2) (.row cs3 m3) A,32,0,Ac,Ac,.plain⟩]) (λ(k:Nat)=>k) (λ(k:Nat)=>k<=r.length+1/\∀i,k<=i->i<=r.length->ansB n A (r.take i)=Ac) (r.length+1) ?_ ?_ ?_
 ·exact⟨AU _,λi h1 h2=>by omega⟩
 ·rw[show((r.length+1:Nat):Int)-1=(r.length:Nat) by omega];refine vk 1
 rintro k ⟨k1,k2⟩;rcases B_ k with h0|h0
 ·subst h0;rw[zRu λj hj=>k2 j (BG _) hj];refine zB<|zB<|zA rfl<|v0s<|veT<|vf<|zS<|zM<|zM<|zQ rfl<|zC<|zD<|zB<|zA rfl<|veT<|zJ<|vret (True)<|.inr rfl
 obtain⟨i,rfl⟩:∃i,k=i+1:=⟨k-1,by omega⟩;have e1:((i+1:Nat):Int)-1=(i:Nat):=by omega
 have hpl:(r.take i).length=i:=by rw[AS];omega
 have hre:=zEb A h.r (r.take i) (by omega);have hsa:=sat_c h (p:=r.take i) (by omega);have hct:=zDp r i;rw[show rowV (r.take i)= .row (zL (r.take i)) i by show Ae _ (r.take i).length=_;rw[hpl]]at hre;have hcl:=zAe r;rw[e1];cases hb:ansB n A (r.take i)
 ·rw[hb]at hsa;refine zB<|zB<|zA rfl<|v0s<|veT<|vT ((i:Int)>=(0:Int))<|zK<|zC<|zD<|zB<|zG<|zB<|vd [0,2,3,4,1,5,6]<|vr 4 (True/\True/\(0:Int)<=(i:Int)/\True/\0<3/\0<=Aj (i:Int)/\Aj (i:Int)<=Aa r/\Aj (i:Int)=Aj (i:Int))<|vs 16 (Ae (Ai ((Aj (i:Int)-0)*3)<|Ag 0<|zL r) (Aj (i:Int)-0)) (Ae (zL<|Ai i r) i) (hd:=by simp(disch:=omega) only[Au,Ca,AJ,hct])<|vr 1 (0<1)<|vc (hre)<|vc (hsa)<|veT<|vf<|zK<|zE<|zC<|zD<|zA rfl<|vr 3 (i6 ((i:Int)-(1:Int)))<|vnil<|zC<|⟨i,⟨by omega,λj h1 h2=>?_⟩,by omega,?_⟩
  ·rcases Ap i j with h3|h3
   ·exact k2 j (by omega) h2
   obtain rfl:j=i:=by omega
   exact hb
  refine vk 1
 rw[hb]at hsa;rw[lvlZ_at (b:=λi=>ansB n A (r.take i)) hb (by omega) λj h1 h2=>k2 j (by omega) h2];refine zB<|zB<|zA rfl<|v0s<|veT<|vT ((i:Int)>=(0:Int))<|zK<|zC<|zD<|zB<|zG<|zB<|vd [0,2,3,4,1,5,6]<|vr 4 (True/\True/\(0:Int)<=(i:Int)/\True/\0<3/\0<=Aj (i:Int)/\Aj (i:Int)<=Aa r/\Aj (i:Int)=Aj (i:Int))<|vs 16 (Ae (Ai ((Aj (i:Int)-0)*3)<|Ag 0<|zL r) (Aj (i:Int)-0)) (Ae (zL<|Ai i r) i) (hd:=by simp(disch:=omega) only[Au,Ca,AJ,hct])<|vr 1 (0<1)<|vc (hre)<|vc (hsa)<|veT<|vt<|zB<|zA rfl<|veT<|zJ<|zN<|zF<|zF<|zN ?_;refine zF<|vret (True)<|.inr rfl
def LstV(A:List (List Nat×List Rw))(x:Va):Prop:=(∃τ,τ 0=x/\SatA A τ)/\∀τ,SatA A τ->x=τ 0\/rcmp [x] [τ 0]<0
theorem least_c(n:Nat)(A:List (List Nat×List Rw))(h:AtOk n A)(h0:0<n):(∃x,LstV A x/\Pure Al 40 [iD (n:Nat), .row (A.flatMap atN) A.length] [] (.tup [vaD x,bD Ab]))\/((¬∃τ,SatA A τ)/\Pure Al 40 [iD (n:Nat), .row (A.flatMap atN) A.length] [] (.tup [vaD ⟨0,0,[]⟩,bD Ac])):=by
 have hl5:=h.l;have hn8:=h.n8;obtain⟨m,m1,m2,m3,hm⟩:=leastA_c h h0;have hfa:=zR6 A (by omega) (λa ha=>by
  have h1:=h.r.v a ha;have h2:=h.few a ha;exact⟨by omega,by omega,λr hr=>by have:=h.len a ha r hr;omega⟩)
 obtain⟨B,l⟩:=m;have m2:B=[0]:=m2;subst m2;rcases l with _|⟨p,l⟩
 ·refine .inr ⟨λ⟨τ,hτ⟩=>?_,?_⟩
  ·have:=(m3 (τ 0)).2 ⟨τ,rfl,hτ⟩
   cases this
  refine zH zAg mixed Tryz.func40 rfl<|zB<|zA rfl<|v0s<|veT<|zB<|zA rfl<|vr 4 (True/\Ab=Ab)<|vc (hfa)<|vc (hm)<|ve (0<2/\1<2/\Ac=Ac/\Ab=Ab/\3=3/\3<=3)<|zB<|zB<|zA rfl<|ve (True/\True/\0<2/\True)<|vt<|zB<|zA rfl<|ve ((True/\Ab=Ab)/\Ac=Ac/\Ab=Ab/\3=3/\3<=3)<|zJ<|zF<|vret (3<=3)<|.inr rfl
 have hp:p.1.length=1:=m1.len p (AW ..);obtain⟨row,b⟩:=p;obtain⟨x,rfl⟩:∃x,row=[x]:=List.length_eq_one_iff.1 hp
 ·refine .inl ⟨x,⟨(m3 x).1 (AW ..),λτ hτ=>?_⟩,?_⟩
  ·have h1:=(m3 (τ 0)).2 ⟨τ,rfl,hτ⟩;obtain⟨q,hq,e⟩:=Am.1 h1;rcases AO.1 hq with rfl|hq
   ·have e:[x]=[τ 0]:=e;exact .inl (List.cons.inj e).1
   have h2:=(Bd.1 m1.srt).1 q hq;have h2:rcmp [x] q.1<0:=h2;rw[e]at h2;exact .inr h2
  obtain⟨xk,xi,xs⟩:=x;refine zH zAg mixed Tryz.func40 rfl<|zB<|zA rfl<|v0s<|veT<|zB<|zA rfl<|vr 4 (True/\Ab=Ab)<|vc (hfa)<|vc (hm)<|ve (0<2/\1<2/\Ac=Ac/\Ab=Ab/\3=3/\3<=3)<|zB<|zB<|zA rfl<|vew [] [(8,Ac)] (True/\True/\0<2/\True/\((↑(Aa l+1):Int)==(0:Int))=Ac/\True/\0<2/\ix (0:Int) (↑(Aa l+1):Int) (zAh (([BJ xk xi xs],b)::l)≠[])/\0<Aa (zAh (([BJ xk xi xs],b)::l))/\True) ?_;refine vf<|zK<|zC<|zD<|zB<|zA rfl<|ve (True/\0<2/\ix (0:Int) (↑(Aa l+1):Int) (zAh (([BJ xk xi xs],b)::l)≠[])/\0<Aa (zAh (([BJ xk xi xs],b)::l))/\ix (0:Int) (↑(1:Nat):Int) ([iD xk,iD xi,Ay<|Cr<|bs xs]≠[])/\3<=3/\Ac=Ac/\Ab=Ab/\3=3/\3<=3)<|zJ<|vret (3<=3)<|.inr rfl
theorem zMk(A:List (List Nat×List Rw))(s:Nat):(zC8 A s).length<=A.length:=by
 unfold zC8;rw[An]
 have:=Bv (λi=>s.testBit i) (As A.length)
 rw[Ck]at this;exact this
theorem zMj(A:List (List Nat×List Rw))(s:Nat):∀b∈zC8 A s,b∈A:=λb hb=>by
 obtain⟨i,hi,rfl⟩:=Am.1 hb;have h1:=AT.1 (AL.1 hi).1;rw[Ao,Ar h1];exact Bl h1
theorem satC_c{A:List (List Nat×List Rw)}(h:AtW A)(s:Nat):Pure Al 38 [.row ((zC8 A s).flatMap atN) (zC8 A s).length] [] (bD (alB A s)):=by
 obtain⟨b,hb,hs⟩:=zG2 _ (h.sub (AE (zMk A s) h.l) (zMj A s));have e:b=alB A s:=by
  rw[BD,hb,zQi];constructor
  ·rintro⟨τ,hτ⟩;exact⟨τ,sat_chos.1 hτ⟩
  rintro⟨τ,hτ⟩;exact⟨τ,sat_chos.2 hτ⟩
 rw[<-e];exact hs
section
variable (x0 : Int) (z1 : Int) (cs2 cs3 : List D) (m2 m3 : Nat) (A : List (List Nat × List Rw)) (r : Rw) (lev : Int) (xs : List Int)
abbrev reaD(lev:Int)(xs:List Int):D:= .agg [iD lev, .row (xs.map λz=>iD z) xs.length]
theorem crLvl_c(l:Int)(hl:l=z1\/lev≠l)(hck:Pure Al 33 [.agg (inpA (iD x0) (iD z1) (.row cs2 m2) (.row cs3 m3) A),rowV r] [] (iD 0))(hlv:Pure Al 34 [.agg (inpA (iD x0) (iD z1) (.row cs2 m2) (.row cs3 m3) A),rowV r] [] (iD l)):Pure Al 18 [.agg (inpA (iD x0) (iD z1) (.row cs2 m2) (.row cs3 m3) A),rowV r,reaD lev xs] [] (bD Ac):=by
 refine zH zAg mixed Tryz.func18 rfl ?_;by_cases h1:l=z1
 ·refine zB<|zA rfl<|v0s<|veT<|zB<|zB<|zA rfl<|vr 2 (5<=5)<|vc (hck)<|veT<|vf<|zK<|zC<|zD<|zB<|zA rfl<|vr 2 (5<=5)<|vc (hlv)<|veT<|zB<|zB<|zA rfl<|vew [] [(4,Ab)] (True/\0<4/\True/\(l==z1)=Ab)<|vt<|zB<|zA rfl<|veT<|zJ<|zF<|vret (True)<|.inr rfl
 have h2:=hl.resolve_left h1;refine zB<|zA rfl<|v0s<|veT<|zB<|zB<|zA rfl<|vr 2 (5<=5)<|vc (hck)<|veT<|vf<|zK<|zC<|zD<|zB<|zA rfl<|vr 2 (5<=5)<|vc (hlv)<|veT<|zB<|zB<|zA rfl<|vew [] [(4,Ac)] (True/\0<4/\True/\(l==z1)=Ac/\True/\0<2/\True)<|zDo (t:=lev !=l) (by kernel_rfl) (by simpa using by omega)<|zB<|zA rfl<|veT<|zJ<|zF<|vret (True)<|.inr rfl
end
def stX(m:Nat)(xs:List Int)(i:Nat):Bool:=decide (0<=xs.getD i 0/\xs.getD i 0<(m:Nat)/\(i=0\/xs.getD (i-1) 0<xs.getD i 0))
def okX(m:Nat)(xs:List Int):Bool:=(As xs.length).all (stX m xs)
def setX(xs:List Int):Nat:=msk (xs.map Aj)
theorem zZ7(xs:List Int)(i:Nat)(h:i<xs.length):setX (xs.take (i+1))=setX (xs.take i)|||2^(xs.getD i 0).toNat:=by
 unfold setX;rw[CM,CM,zPm _ i (by rw[An];exact h)];rw[Ao,BE,Ar h,Ao,Ar h];rfl
theorem an_dif{s v:Nat}(hs:s<4294967296)(hv:v<32):(AH 32 ((s:Nat):Int)&&&~~~AH 32 ((2^v:Nat):Int)).toNat=dif s (2^v):=zY4 hs (zCw hv) λi=>zBk _ _ i
theorem setX_lt{xs:List Int}(h:∀z∈xs,z.toNat<32):setX xs<4294967296:=zDb λv hv=>by
 obtain⟨z,hz,rfl⟩:=Am.1 hv;exact h z hz
theorem zSd(a b:Nat):dif a b<=a:=sub_le (zP6 a b)
set_option maxHeartbeats 8000000 in
theorem creason_c(n:Nat)(A:List (List Nat×List Rw))(h:AtOk n A)(x0 z1:Int)(cs2 cs3:List D)(m2 m3:Nat)(r:Rw)(hr:r.length<=n)(k:Nat)(hk:k<=r.length)(hz:(k:Int)-1≠z1)(xs:List Int)(hx:xs.length<=1000)
  (hck:Pure Al 33 [.agg (inpA (iD x0) (iD z1) (.row cs2 m2) (.row cs3 m3) A),rowV r] [] (iD 0))(hlv:Pure Al 34 [.agg (inpA (iD x0) (iD z1) (.row cs2 m2) (.row cs3 m3) A),rowV r] [] (iD ((k:Int)-1))):
  Pure Al 18 [.agg (inpA (iD x0) (iD z1) (.row cs2 m2) (.row cs3 m3) A),rowV r,reaD ((k:Int)-1) xs] [] (bD (okX A.length xs&&(!alB (A.map (zAw (r.take k))) (setX xs)&&xs.all λa=>alB (A.map (zAw (r.take k))) (dif (setX xs) (2^a.toNat))))):=by
 have hl5:=h.l;have hn8:=h.n8;refine zH zAg mixed Tryz.func18 rfl<|zB<|zA rfl<|v0s<|veT<|zB<|zB<|zA rfl<|vr 2 (5<=5)<|vc (hck)<|veT<|vf<|zK<|zC<|zD<|zB<|zA rfl<|vr 2 (5<=5)<|vc (hlv)<|veT<|zB<|zB<|zA rfl<|vew [] [(4,Ac)] (True/\0<4/\True/\((k:Int)-(1:Int)==z1)=Ac/\True/\0<2/\True)<|zGh (t:=(k:Int)-(1:Int)!=(k:Int)-(1:Int)) (by kernel_rfl) (by simp)<|zK<|zC<|zD<|zB<|zA rfl<|veT<|zB<|zB<|zA rfl<|ve (True/\0<1)<|zG<|zP (λ(i:Nat)=>fr 94 [(1,rowV r),(3,AC 0 0),(5,AC 1 0),(7,iD ((k:Int)-(1:Int))),(8,u32D<|setX<|Ai i xs),(32,Ae (Ad (λ(z:Int)=>iD z) xs)<|Aa xs),(33,iD (Aa xs:Int)),(34,iD (i:Int))]) (λ(i:Nat)=>[⟨inpA (iD x0) (iD z1) (.row cs2 m2) (.row cs3 m3) A,32,0,Ac,Ac,.plain⟩,⟨[iD ((k:Int)-1),.row (xs.map λz=>iD z) xs.length],38,0,Ac,Ac,.plain⟩]) (λ(i:Nat)=>xs.length-i) (λ(i:Nat)=>i<=xs.length/\∀j,j<i->stX A.length xs j=Ab) 0 ?_ ?_ ?_
 ·exact⟨by omega,λj h=>by omega⟩
 ·refine vk 2
 rintro i ⟨i1,i2⟩;have hlt:setX (xs.take i)<4294967296:=setX_lt λz hz=>by
  obtain⟨j,hj,rfl⟩:=BU hz;rw[AS]at hj;have h3:=of_decide_eq_true (i2 j (by omega));rw[Ao,Ar (by omega)]at h3;have h4:0<=xs[j]/\xs[j]<(A.length:Nat)/\_:=h3;rw[Cy];omega
 rcases Ap i xs.length with i3|i3
 ·have hx1:=zBq xs i i3;have hne:(xs.map λz=>iD z)≠[]:=zAa;have hsu:=zZ7 xs i i3;have hno:stX A.length xs i=Ac->okX A.length xs=false:=λhf=>zQ4 i3 hf;by_cases hq:stX A.length xs i=Ab;case neg=>
   rw[Bool.not_eq_true]at hq;rw[hno hq,Bool.false_and];have hq:=of_decide_eq_false hq;rcases B_ i with h0|h0
   ·subst h0;rw[AJ]at hx1;generalize xs.getD 0 0=z at*;by_cases hz0:z<0
    ·refine zB<|zA rfl<|v0s<|veT<|zB<|vT ((↑(0:Nat):Int)<(Aa xs:Int))<|zK<|zC<|zD<|zB<|zG<|zB<|zA rfl<|vr 3 (ix (↑(0:Nat):Int) (Aa xs:Int) (Ad (λ(z:Int)=>iD z) xs≠[])/\0<Aa (Ad (λ(z:Int)=>iD z) xs))<|vsh 38 hx1<|veT<|zB<|zB<|zA rfl<|vew [] [(2,Ab)] (decide (z<0)=Ab)<|vt<|zB<|zA rfl<|veT<|zJ<|zF<|zN<|zF<|zF<|zN<|zF<|vret (True)<|.inr rfl
    refine zB<|zA rfl<|v0s<|veT<|zB<|vT ((↑(0:Nat):Int)<(Aa xs:Int))<|zK<|zC<|zD<|zB<|zG<|zB<|zA rfl<|vr 3 (ix (↑(0:Nat):Int) (Aa xs:Int) (Ad (λ(z:Int)=>iD z) xs≠[])/\0<Aa (Ad (λ(z:Int)=>iD z) xs))<|vsh 38 hx1<|veT<|zB<|zB<|zA rfl<|vew [] [(2,Ac),(9,Ab)] (decide (z<0)=Ac/\True/\0<1/\decide (z>=(Aa A:Int))=Ab)<|vt<|zB<|zA rfl<|veT<|zJ<|zF<|zN<|zF<|zF<|zN<|zF<|vret (True)<|.inr rfl
   obtain⟨j,rfl⟩:∃j,i=j+1:=⟨i-1,by omega⟩;have hx2:=zBq xs j (by omega);have e2:((j+1:Nat):Int)-1=(j:Nat):=by omega
   rw[Cf]at hq;generalize xs.getD (j+1) 0=z at*;generalize xs.getD j 0=w at*;by_cases hz0:z<0
   ·refine zB<|zA rfl<|v0s<|veT<|zB<|vT ((↑(j+1):Int)<(Aa xs:Int))<|zK<|zC<|zD<|zB<|zG<|zB<|zA rfl<|vr 2 (ix (↑(j+1):Int) (Aa xs:Int) (Ad (λ(z:Int)=>iD z) xs≠[]))<|vp 37 (j+1) (Ad (λ(z:Int)=>iD z) xs)<|vr 1 (0<Aa (Ag (j+1)<|Ad (λ(z:Int)=>iD z) xs))<|vsh 38 hx1<|veT<|zB<|zB<|zA rfl<|vew [] [(2,Ab)] (decide (z<0)=Ab)<|vt<|zB<|zA rfl<|veT<|zJ<|zF<|zN<|zF<|zF<|zN<|zF<|vret (True)<|.inr rfl
   by_cases hz1:(A.length:Nat)<=z
   ·refine zB<|zA rfl<|v0s<|veT<|zB<|vT ((↑(j+1):Int)<(Aa xs:Int))<|zK<|zC<|zD<|zB<|zG<|zB<|zA rfl<|vr 2 (ix (↑(j+1):Int) (Aa xs:Int) (Ad (λ(z:Int)=>iD z) xs≠[]))<|vp 37 (j+1) (Ad (λ(z:Int)=>iD z) xs)<|vr 1 (0<Aa (Ag (j+1)<|Ad (λ(z:Int)=>iD z) xs))<|vsh 38 hx1<|veT<|zB<|zB<|zA rfl<|vew [] [(2,Ac),(9,Ab)] (decide (z<0)=Ac/\True/\0<1/\decide (z>=(Aa A:Int))=Ab)<|vt<|zB<|zA rfl<|veT<|zJ<|zF<|zN<|zF<|zF<|zN<|zF<|vret (True)<|.inr rfl
   refine zB<|zA rfl<|v0s<|veT<|zB<|vT ((↑(j+1):Int)<(Aa xs:Int))<|zK<|zC<|zD<|zB<|zG<|zB<|zA rfl<|vr 2 (ix (↑(j+1):Int) (Aa xs:Int) (Ad (λ(z:Int)=>iD z) xs≠[]))<|vp 37 (j+1) (Ad (λ(z:Int)=>iD z) xs)<|vr 1 (0<Aa (Ag (j+1)<|Ad (λ(z:Int)=>iD z) xs))<|vsh 38 hx1<|veT<|zB<|zB<|zA rfl<|vw 18 [] [(2,Ac),(9,Ac),(12,Ab)] (decide (z<0)=Ac/\True/\0<1/\decide (z>=(Aa A:Int))=Ac/\decide ((↑(j+1):Int)>(0:Int))=Ab/\True/\0<1/\i6 ((↑(j+1):Int)-(1:Int)))<|vs 56 (iD ((↑(j+1):Int)-(1:Int))) (iD (j:Int)) (hd:=by simp(disch:=omega) only[e2])<|vr 1 (ix (j:Int) (Aa xs:Int) (Ad (λ(z:Int)=>iD z) xs≠[]))<|vp 57 (j) (Ad (λ(z:Int)=>iD z) xs)<|vr 1 (0<Aa (Ag j<|Ad (λ(z:Int)=>iD z) xs))<|vsh 58 hx2<|veT<|vT (z<=w)<|zB<|zA rfl<|veT<|zJ<|zF<|zN<|zF<|zF<|zN<|zF<|vret (True)<|.inr rfl
  have hq1:=of_decide_eq_true hq;have hgo:∀j,j<i+1->stX A.length xs j=true:=λj hj=>by
   rcases Ap j i with h3|h3
   ·exact i2 j h3
   obtain rfl:j=i:=by omega
   exact hq
  rcases B_ i with h0|h0
  ·subst h0;rw[AJ]at hx1;generalize xs.getD 0 0=z at*;obtain⟨v,rfl⟩:∃v:Nat,z=v:=⟨z.toNat,by omega⟩;rw[Au]at hsu;have h4:=zCw (v:=v) (by omega);have e0:setX (xs.take 0)=0:=rfl;rw[e0,Nat.zero_or]at hsu;have h5:2^v<4294967296:=h4;refine zB<|zA rfl<|v0s<|veT<|zB<|vT ((↑(0:Nat):Int)<(Aa xs:Int))<|zK<|zC<|zD<|zB<|zG<|zB<|zA rfl<|vr 3 (ix (↑(0:Nat):Int) (Aa xs:Int) (Ad (λ(z:Int)=>iD z) xs≠[])/\0<Aa (Ad (λ(z:Int)=>iD z) xs))<|vsh 38 hx1<|veT<|zB<|zB<|zA rfl<|vew [] [(2,Ac),(9,Ac)] (decide ((v:Int)<0)=Ac/\True/\0<1/\decide ((v:Int)>=(Aa A:Int))=Ac)<|vf<|zK<|zC<|zD<|zA rfl<|vr 3 ((0:Int)<=(v:Int))<|vs 64 (Ay<|Ax AA<|A6 AA ((1:Int)*(2:Int)^min (Aj (v:Int)) 32)) (dig ((2:Nat)^v)) (hd:=by simp(disch:=omega) only[Au,zC6])<|vrT 1<|vs 65 (Ay<|Ax AA<|A6 AA (↑(Bh (AH 32 (↑(0:Nat):Int)|||AH 32 (↑((2:Nat)^v):Int))):Int)) (dig ((2:Nat)^v)) (hd:=by simp(disch:=omega) only[zJ9,Nat.zero_or,zA1])<|vrT 1<|vnil<|zE<|zC<|zD<|zA rfl<|vr 2 (i6 ((↑(0:Nat):Int)+(1:Int)))<|vnil<|zC<|⟨0+1,⟨by omega,hgo⟩,by omega,?_⟩;rw[hsu];refine vk 2
  obtain⟨j,rfl⟩:∃j,i=j+1:=⟨i-1,by omega⟩;have hx2:=zBq xs j (by omega);have e2:((j+1:Nat):Int)-1=(j:Nat):=by omega
  rw[Cf]at hq1;generalize xs.getD (j+1) 0=z at*;generalize xs.getD j 0=w at*;obtain⟨v,rfl⟩:∃v:Nat,z=v:=⟨z.toNat,by omega⟩;rw[Au]at hsu;have h4:=zCw (v:=v) (by omega);have h5:=zJ5 hlt h4;refine zB<|zA rfl<|v0s<|veT<|zB<|vT ((↑(j+1):Int)<(Aa xs:Int))<|zK<|zC<|zD<|zB<|zG<|zB<|zA rfl<|vr 2 (ix (↑(j+1):Int) (Aa xs:Int) (Ad (λ(z:Int)=>iD z) xs≠[]))<|vp 37 (j+1) (Ad (λ(z:Int)=>iD z) xs)<|vr 1 (0<Aa (Ag (j+1)<|Ad (λ(z:Int)=>iD z) xs))<|vsh 38 hx1<|veT<|zB<|zB<|zA rfl<|vw 18 [] [(2,Ac),(9,Ac),(12,Ab)] (decide ((v:Int)<0)=Ac/\True/\0<1/\decide ((v:Int)>=(Aa A:Int))=Ac/\decide ((↑(j+1):Int)>(0:Int))=Ab/\True/\0<1/\i6 ((↑(j+1):Int)-(1:Int)))<|vs 56 (iD ((↑(j+1):Int)-(1:Int))) (iD (j:Int)) (hd:=by simp(disch:=omega) only[e2])<|vr 1 (ix (j:Int) (Aa xs:Int) (Ad (λ(z:Int)=>iD z) xs≠[]))<|vp 57 (j) (Ad (λ(z:Int)=>iD z) xs)<|vr 1 (0<Aa (Ag j<|Ad (λ(z:Int)=>iD z) xs))<|vsh 58 hx2<|veT<|vF ((v:Int)<=w)<|zK<|zC<|zD<|zA rfl<|vr 3 ((0:Int)<=(v:Int))<|vs 64 (Ay<|Ax AA<|A6 AA ((1:Int)*(2:Int)^min (Aj (v:Int)) 32)) (dig ((2:Nat)^v)) (hd:=by simp(disch:=omega) only[Au,zC6])<|vrT 1<|vs 65 (Ay<|Ax AA<|A6 AA (↑(Bh (AH 32 (↑(setX<|Ai (j+1) xs):Int)|||AH 32 (↑((2:Nat)^v):Int))):Int)) (dig (setX (Ai (j+1) xs)|||(2:Nat)^v)) (hd:=by simp(disch:=omega) only[zJ9,zA1])<|vrT 1<|vnil<|zE<|zC<|zD<|zA rfl<|vr 2 (i6 ((↑(j+1):Int)+(1:Int)))<|vnil<|zC<|⟨j+1+1,⟨by omega,hgo⟩,by omega,?_⟩;rw[hsu];refine vk 2
 obtain rfl:i=xs.length:=by omega
 rw[A3]at hlt⊢;have hok:okX A.length xs=true:=zGl λj hj=>i2 j hj;rw[hok,Bool.true_and];have hxm:∀j,j<xs.length->0<=xs.getD j 0/\xs.getD j 0<(A.length:Nat):=λj hj=>⟨(of_decide_eq_true (i2 j hj)).1,(of_decide_eq_true (i2 j hj)).2.1⟩;have hpl:(r.take k).length=k:=by rw[AS];omega
 have hre:=zEb A h.r (r.take k) (by omega);rw[show rowV (r.take k)= .row (zL (r.take k)) k by show Ae _ (r.take k).length=_;rw[hpl]]at hre;have hct:=zDp r k;have hcl:=zAe r;have hB:=(h.rest (p:=r.take k) (by omega)).w;have hBl:(A.map (zAw (r.take k))).length=A.length:=An ..
 generalize A.map (zAw (r.take k))=B at*;generalize setX xs=s at*;have hch:=zQb B (by omega) s hlt;rw[hBl]at hch;have hsa:=satC_c hB s;have hk1:(k:Int)-1+1=(k:Nat):=by omega
 cases hal:alB B s;case true=>
  rw[hal]at hsa;refine zB<|zA rfl<|v0s<|veT<|zB<|vF ((Aa xs:Int)<(Aa xs:Int))<|zS<|zM<|zM<|zQ rfl<|zC<|zD<|zB<|vd [0,2,3,4,5,1,6,7]<|vr 4 (True/\i6 ((k:Int)-(1:Int)+(1:Int)))<|vs 71 (iD ((k:Int)-(1:Int)+(1:Int))) (iD (k:Int)) (hd:=by simp(disch:=omega) only[hk1])<|vr 1 (True/\(0:Int)<=(k:Int)/\True/\0<3/\0<=Aj (k:Int)/\Aj (k:Int)<=Aa r/\Aj (k:Int)=Aj (k:Int))<|vs 72 (Ae (Ai ((Aj (k:Int)-0)*3)<|Ag 0<|zL r) (Aj (k:Int)-0)) (Ae (zL<|Ai k r) k) (hd:=by simp(disch:=omega) only[Au,Ca,AJ,hct])<|vr 1 (0<1)<|vc (hre)<|veT<|zB<|zB<|zA rfl<|vrT 2<|vc (hch)<|vc (hsa)<|veT<|vt<|zB<|zA rfl<|veT<|zJ<|zF<|vret (True)<|.inr rfl
 rw[hal]at hsa;refine zB<|zA rfl<|v0s<|veT<|zB<|vF ((Aa xs:Int)<(Aa xs:Int))<|zS<|zM<|zM<|zQ rfl<|zC<|zD<|zB<|vd [0,2,3,4,5,1,6,7]<|vr 4 (True/\i6 ((k:Int)-(1:Int)+(1:Int)))<|vs 71 (iD ((k:Int)-(1:Int)+(1:Int))) (iD (k:Int)) (hd:=by simp(disch:=omega) only[hk1])<|vr 1 (True/\(0:Int)<=(k:Int)/\True/\0<3/\0<=Aj (k:Int)/\Aj (k:Int)<=Aa r/\Aj (k:Int)=Aj (k:Int))<|vs 72 (Ae (Ai ((Aj (k:Int)-0)*3)<|Ag 0<|zL r) (Aj (k:Int)-0)) (Ae (zL<|Ai k r) k) (hd:=by simp(disch:=omega) only[Au,Ca,AJ,hct])<|vr 1 (0<1)<|vc (hre)<|veT<|zB<|zB<|zA rfl<|vrT 2<|vc (hch)<|vc (hsa)<|veT<|vf<|zK<|zC<|zD<|zB<|zB<|zA rfl<|ve (True/\0<1)<|zG<|zP (λ(i:Nat)=>fr 94 [(8,u32D s),(11,Ae (Ah atN B)<|Aa A),(79,Ae (Ad (λ(z:Int)=>iD z) xs)<|Aa xs),(80,iD (Aa xs:Int)),(81,iD (i:Int))]) (λ(i:Nat)=>[⟨inpA (iD x0) (iD z1) (.row cs2 m2) (.row cs3 m3) A,32,0,Ac,Ac,.plain⟩,⟨[iD ((k:Int)-1),.row (xs.map λz=>iD z) xs.length],38,0,Ac,Ac,.plain⟩]) (λ(i:Nat)=>xs.length-i) (λ(i:Nat)=>i<=xs.length/\∀j,j<i->j<xs.length->alB B (dif s (2^(xs.getD j 0).toNat))=Ab) 0 ?_ ?_ ?_
 ·exact⟨by omega,λj h=>by omega⟩
 ·refine vk 2
 rintro q ⟨q1,q2⟩;rcases Ap q xs.length with q3|q3
 ·have hx1:=zBq xs q q3;have hne:(xs.map λz=>iD z)≠[]:=zAa;have hxq:=hxm q q3;have hall:alB B (dif s (2^(xs.getD q 0).toNat))=Ac->(xs.all λa=>alB B (dif s (2^a.toNat)))=false:=λhf=>all_no (λa=>alB B (dif s (2^a.toNat))) 0 xs q q3 hf;have hq2:=q2;generalize hzz:xs.getD q 0=z at*;obtain⟨v,rfl⟩:∃v:Nat,z=v:=⟨z.toNat,by omega⟩;rw[Au]at hall;have h4:=zCw (v:=v) (by omega);have w1:=zC6 (v:=v) (by omega);have w2:=an_dif hlt (v:=v) (by omega);have hdl:=zSd s (2^v);have w3:=zAy (n:=dif s (2^v)) (by omega);have hch2:=zQb B (by omega) (dif s (2^v)) (by omega);rw[hBl]at hch2;have hsa2:=satC_c hB (dif s (2^v));cases hb:alB B (dif s (2^v))
  ·rw[hb]at hsa2;rw[hall hb];refine zB<|zA rfl<|v0s<|veT<|zB<|vT ((q:Int)<(Aa xs:Int))<|zK<|zC<|zD<|zB<|zG<|zB<|zA rfl<|vr 1 (ix (q:Int) (Aa xs:Int) (Ad (λ(z:Int)=>iD z) xs≠[]))<|vp 83 (q) (Ad (λ(z:Int)=>iD z) xs)<|vr 1 (0<Aa (Ag q<|Ad (λ(z:Int)=>iD z) xs))<|vsh 84 hx1<|veT<|zB<|zA rfl<|vr 4 ((0:Int)<=(v:Int))<|vs 88 (Ay<|Ax AA<|A6 AA ((1:Int)*(2:Int)^min (Aj (v:Int)) 32)) (dig ((2:Nat)^v)) (hd:=by simp(disch:=omega) only[Au,w1])<|vrT 1<|vs 89 (Ay<|Ax AA<|A6 AA (↑(Bh (AH 32 (s:Int)&&&~~~AH 32 (↑((2:Nat)^v):Int))):Int)) (dig<|dif s ((2:Nat)^v)) (hd:=by simp(disch:=omega) only[w3,w2])<|vc (hch2)<|vc (hsa2)<|veT<|vt<|zB<|zA rfl<|veT<|zJ<|zN<|zF<|zF<|zN<|zF<|vret (True)<|.inr rfl
  rw[hb]at hsa2;refine zB<|zA rfl<|v0s<|veT<|zB<|vT ((q:Int)<(Aa xs:Int))<|zK<|zC<|zD<|zB<|zG<|zB<|zA rfl<|vr 1 (ix (q:Int) (Aa xs:Int) (Ad (λ(z:Int)=>iD z) xs≠[]))<|vp 83 (q) (Ad (λ(z:Int)=>iD z) xs)<|vr 1 (0<Aa (Ag q<|Ad (λ(z:Int)=>iD z) xs))<|vsh 84 hx1<|veT<|zB<|zA rfl<|vr 4 ((0:Int)<=(v:Int))<|vs 88 (Ay<|Ax AA<|A6 AA ((1:Int)*(2:Int)^min (Aj (v:Int)) 32)) (dig ((2:Nat)^v)) (hd:=by simp(disch:=omega) only[Au,w1])<|vrT 1<|vs 89 (Ay<|Ax AA<|A6 AA (↑(Bh (AH 32 (s:Int)&&&~~~AH 32 (↑((2:Nat)^v):Int))):Int)) (dig<|dif s ((2:Nat)^v)) (hd:=by simp(disch:=omega) only[w3,w2])<|vc (hch2)<|vc (hsa2)<|veT<|vf<|zK<|zE<|zC<|zD<|zA rfl<|vr 2 (i6 ((q:Int)+(1:Int)))<|vnil<|zC<|⟨q+1,⟨by omega,λj j1 j2=>?_⟩,by omega,?_⟩
  ·rcases Ap j q with h3|h3
   ·exact hq2 j h3 j2
   obtain rfl:j=q:=by omega
   rw[hzz,Au];exact hb
  refine vk 2
 have ha:(xs.all λa=>alB B (dif s (2^a.toNat)))=true:=zKy (d:=0) q3 q2;rw[ha];refine zB<|zA rfl<|v0s<|veT<|zB<|vF ((q:Int)<(Aa xs:Int))<|zS<|zM<|zM<|zQ rfl<|zC<|zD<|zB<|zA rfl<|veT<|zJ<|vret (True)<|.inr rfl
end
section
open Go.RowKit
set_option maxRecDepth 100000
section
variable {B : Nat}
theorem arg_row{d:D}(hB:B<=2000000)(h:ArgB Al B 29 d):∃r:Rw,d=rowV r/\r.length<=B/\∀a∈r,Vt a:=by
 obtain⟨n,h1⟩:=h.cell (by kernel_rfl);obtain⟨r,e,h2,h3⟩:=in_rowB hB h1;injection e with e;exact⟨r,e,h2,h3⟩
end
end
section
open Go.RowKit
section
variable (vr : Nat → Nat) (n : Nat)
def cst(p:Nat×Nat×Bool)(j:Nat):Nat×Nat×Bool:=if p.1.testBit j=Ac/\vr j&&&p.2.1≠0 then(p.1|||2^j,p.2.1|||vr j,Ab)else p
def csts(m:Nat)(p:Nat×Nat×Bool):Nat×Nat×Bool:=(As m).foldl (cst vr) p
theorem zSf(m:Nat)(p:Nat×Nat×Bool):csts vr (m+1) p=cst vr (csts vr m p) m:=by
 unfold csts;rw[BF,BP];rfl
def crnd:Nat->Nat->Nat->Option (Nat×Nat)
 |0,_,_=>A1
 |k+1,P,S=>if(csts vr n (P,S,Ac)).2.2 then crnd k (csts vr n (P,S,Ac)).1 (csts vr n (P,S,Ac)).2.1 else Aw ((csts vr n (P,S,Ac)).1,(csts vr n (P,S,Ac)).2.1)
structure CI(P S:Nat):Prop where
 lt:∀j,P.testBit j=Ab->j<n
 s:∀b,S.testBit b=Ab↔∃j,P.testBit j=Ab/\(vr j).testBit b=Ab
variable {vr n}
theorem zM8{P j i:Nat}:(P|||2^j).testBit i=(P.testBit i||decide (j=i)):=by rw[A2,Bu]
theorem CI.add{P S j:Nat}(h:CI vr n P S)(hj:j<n):CI vr n (P|||2^j) (S|||vr j):=by
 refine⟨λi hi=>?_,λb=>?_⟩
 ·rw[zM8,Bc,decide_eq_true_eq]at hi;rcases hi with hi|rfl
  ·exact h.lt i hi
  exact hj
 rw[A2,Bc,h.s];constructor
 ·rintro(⟨i,h1,h2⟩|h1)
  ·exact⟨i,by rw[zM8,h1];rfl,h2⟩
  exact⟨j,by rw[zM8];simp,h1⟩
 rintro⟨i,h1,h2⟩;rw[zM8,Bc,decide_eq_true_eq]at h1;rcases h1 with h1|rfl
 ·exact .inl ⟨i,h1,h2⟩
 exact .inr h2
theorem CI.one{i:Nat}(hi:i<n):CI vr n (2^i) (vr i):=by
 refine⟨λj hj=>?_,λb=>⟨λh=>⟨i,by simp,h⟩,λ⟨j,h1,h2⟩=>?_⟩⟩
 ·rw[Bu,decide_eq_true_eq]at hj;omega
 rw[Bu,decide_eq_true_eq]at h1;rw[h1];exact h2
theorem zT3{P S:Nat}(h:CI vr n P S):∀m,m<=n->CI vr n (csts vr m (P,S,Ac)).1 (csts vr m (P,S,Ac)).2.1/\Sub P (csts vr m (P,S,Ac)).1/\((csts vr m (P,S,Ac)).2.2=Ac->(csts vr m (P,S,Ac)).1=P/\(csts vr m (P,S,Ac)).2.1=S/\∀j,j<m->P.testBit j=Ab\/vr j&&&S=0)/\((csts vr m (P,S,Ac)).2.2=Ab->(csts vr m (P,S,Ac)).1≠P)
 |0,_=>⟨h,Sub.refl _,λ_=>⟨rfl,rfl,λj hj=>by omega⟩,λe=>by cases e⟩
 | m +1,hm=>by
  obtain⟨h1,h2,h3,h4⟩:=zT3 h m (by omega);rw[zSf];generalize csts vr m (P,S,Ac)=q at*;obtain⟨Q,T,g⟩:=q;simp only at h1 h2 h3 h4;unfold cst;by_cases hc:Q.testBit m=Ac/\vr m&&&T≠0
  ·rw[if_pos hc];refine⟨h1.add (by omega),λi hi=>by show(Q|||2^m).testBit i=Ab;rw[zM8,h2 i hi];rfl,λe=>(by cases e),λ_ e=>?_⟩;have e:Q|||2^m=P:=e;have h5:P.testBit m=true:=by rw[<-e,zM8];simp
   have h6:=h2 m h5;rw[hc.1]at h6;cases h6
  rw[if_neg hc];refine⟨h1,h2,λhg=>?_,h4⟩;obtain⟨e1,e2,h5⟩:=h3 hg;have e1:Q=P:=e1;have e2:T=S:=e2;subst e1;subst e2;refine⟨rfl,rfl,λj hj=>?_⟩;rcases Ap j m with h6|h6
  ·exact h5 j h6
  obtain rfl:j=m:=by omega
  cases hb:Q.testBit j
  ·right;apply BH;intro h7;exact hc ⟨hb,h7⟩
  exact .inl rfl
def CP(vr:Nat->Nat)(n P:Nat):Prop:=(∀j,P.testBit j=Ab->j<n)/\∀i j,j<n->P.testBit i=Ab->P.testBit j=Ac->vr j&&&vr i=0
theorem zNb{P n:Nat}(h:∀j,P.testBit j=Ab->j<n):P<2^n:=by
 apply Nat.lt_pow_two_of_testBit;intro i hi;cases hb:P.testBit i
 ·rfl
 have:=h i hb;omega
theorem sub_lt'{P Q:Nat}(h:Sub P Q)(hne:Q≠P):P<Q:=by
 have:=sub_le h
 omega
theorem crnd_ex:∀(k P S:Nat),CI vr n P S->2^n-P<k->∃Q T,crnd vr n k P S=Aw (Q,T)/\CP vr n Q/\Sub P Q
 |0,P,S,_,hk=>by omega
 | k +1,P,S,h,hk=>by
  obtain⟨h1,h2,h3,h4⟩:=zT3 h n (AU _);unfold crnd;cases hg:(csts vr n (P,S,Ac)).2.2
  ·obtain⟨e1,e2,h5⟩:=h3 hg;rw[if_neg (by decide),e1,e2];refine⟨P,S,rfl,⟨h.lt,λi j hj hi hjP=>?_⟩,Sub.refl _⟩;rcases h5 j hj with h6|h6
   ·rw[h6]at hjP;cases hjP
   refine zVo.2 λb hb=>?_;cases h7:(vr i).testBit b
   ·rfl
   have:=zVo.1 h6 b hb
   rw[(h.s b).2 ⟨i,hi,h7⟩]at this;cases this
  rw[if_pos rfl];have h5:=h4 hg;have h6:=sub_lt' h2 h5;have h7:=zNb h1.lt;obtain⟨Q,T,k1,k2,k3⟩:=crnd_ex k _ _ h1 (by omega);exact⟨Q,T,k1,k2,h2.trans k3⟩
variable (vr n)
def zMb(i:Nat):Nat:=((crnd vr n (2^n+1) (2^i) (vr i)).getD (0,0)).1
def cmp1(p:Nat×List Nat)(i:Nat):Nat×List Nat:=if p.1.testBit i then p else(p.1|||zMb vr n i,p.2++[zMb vr n i])
def cmps(m:Nat):Nat×List Nat:=(As m).foldl (cmp1 vr n) (0,[])
theorem zSn(m:Nat):cmps vr n (m+1)=cmp1 vr n (cmps vr n m) m:=by
 unfold cmps;rw[BF,BP];rfl
variable {vr n}
theorem zXi{i:Nat}(hi:i<n):(∃T,crnd vr n (2^n+1) (2^i) (vr i)=Aw (zMb vr n i,T))/\CP vr n (zMb vr n i)/\(zMb vr n i).testBit i=true:=by
 have hp:0<2^i:=BV i;obtain⟨Q,T,h1,h2,h3⟩:=crnd_ex (2^n+1) (2^i) (vr i) (CI.one hi) (Nat.lt_succ_of_le (Nat.sub_le _ _));have e:zMb vr n i=Q:=by
  unfold zMb;rw[h1];rfl
 rw[e];exact⟨⟨T,h1⟩,h2,h3 i (by simp)⟩
theorem zT9:∀m,m<=n->(∀P∈(cmps vr n m).2,CP vr n P)/\(∀i,(cmps vr n m).1.testBit i=Ab↔∃P∈(cmps vr n m).2,P.testBit i=Ab)/\(∀i,i<m->(cmps vr n m).1.testBit i=Ab)/\(cmps vr n m).2.length<=m/\(cmps vr n m).1<2^n
 |0,_=>⟨λP h=>(by cases h),λi=>⟨λh=>(by rw[show(cmps vr n 0).1=0 from rfl,BC]at h;cases h),λ⟨P,h,_⟩=>(by cases h)⟩,λi h=>(by omega),AU _,BV n⟩
 | m +1,hm=>by
  obtain⟨h1,h2,h3,h4,h5⟩:=zT9 m (by omega);obtain⟨_,k2,k3⟩:=zXi (vr:=vr) (n:=n) (i:=m) (by omega);rw[zSn];unfold cmp1;generalize cmps vr n m=q at*;cases hb:q.1.testBit m
  ·rw [if_neg (by decide)];refine⟨λP hP=>?_,λi=>?_,λi hi=>?_,by simp;omega,Nat.or_lt_two_pow h5 (zNb k2.1)⟩
   ·rcases Br.1 hP with hP|hP
    ·exact h1 P hP
    rw[A0.1 hP];exact k2
   ·show(q.1|||zMb vr n m).testBit i=Ab↔∃P∈q.2++[zMb vr n m],P.testBit i=Ab;rw[A2,Bc,h2];constructor
    ·rintro(⟨P,hP,h⟩|h)
     ·exact⟨P,BZ _ hP,h⟩
     exact⟨_,Cg _ (A0.2 rfl),h⟩
    rintro⟨P,hP,h⟩;rcases Br.1 hP with hP|hP
    ·exact .inl ⟨P,hP,h⟩
    rw[A0.1 hP]at h;exact .inr h
   show(q.1|||zMb vr n m).testBit i=Ab;rw[A2,Bc];rcases Ap i m with h6|h6
   ·exact .inl (h3 i h6)
   obtain rfl:i=m:=by omega
   exact .inr k3
  rw[if_pos rfl];refine⟨h1,h2,λi hi=>?_,by omega,h5⟩;rcases Ap i m with h6|h6
  ·exact h3 i h6
  obtain rfl:i=m:=by omega
  exact hb
end
def zDu(A:List (List Nat×List Rw)):List Nat:=(cmps (λi=>msk (A.getD i Af).1) A.length A.length).2
theorem zRh(A:List (List Nat×List Rw)):(∀P∈zDu A,ClosP A P/\Sub P (2^A.length-1))/\(∀i,i<A.length->∃P∈zDu A,P.testBit i=Ab)/\(zDu A).length<=A.length:=by
 obtain⟨h1,h2,h3,h4,h5⟩:=zT9 (vr:=λi=>msk (A.getD i Af).1) (n:=A.length) A.length (AU _);refine⟨λP hP=>⟨λi j hi hj hPi hPj v hv hv2=>?_,λi hi=>?_⟩,λi hi=>(h2 i).1 (h3 i hi),h4⟩
 ·have:=(h1 P hP).2 i j hj hPi hPj
  have h6:=zVo.1 this v (by rw[zBu];exact decide_eq_true hv2);rw[zBu,decide_eq_true hv]at h6;cases h6
 rw[BO];exact decide_eq_true ((h1 P hP).1 i hi)
end
def kput(ks:List Nat)(s:Nat):List Nat:=if s∈ks then ks else ks++[s]
def zJ6(ks:List Nat)(l:List Nat):List Nat:=l.foldl kput ks
theorem zNd(ks l:List Nat)(s:Nat):zJ6 ks (l++[s])=kput (zJ6 ks l) s:=by
 unfold zJ6;rw[BP];rfl
def idxK(al:Nat->Bool)(sets ks:List Nat):List Nat:=match sets.findIdx? al with
 |none=>zJ6 ks sets
 |some i=>zJ6 ks (sets.take (i+1))
def gstep(al:Nat->Bool)(part:Nat)(p:Nat×List Nat)(i:Nat):Nat×List Nat:=
 if dif (part&&&2^i) p.1=0 then p else if al (p.1|||dif (part&&&2^i) p.1)then(p.1|||dif (part&&&2^i) p.1,kput p.2 (p.1|||dif (part&&&2^i) p.1))else(p.1,kput p.2 (p.1|||dif (part&&&2^i) p.1))
def zL2(al:Nat->Bool)(part:Nat)(l:List Nat)(p:Nat×List Nat):Nat×List Nat:=l.foldl (gstep al part) p
theorem zTs(al:Nat->Bool)(part:Nat)(l:List Nat)(p:Nat×List Nat)(i:Nat):zL2 al part (l++[i]) p=gstep al part (zL2 al part l p) i:=by
 unfold zL2;rw[BP];rfl
theorem zXc{al:Nat->Bool}{part:Nat}:∀(l:List Nat)(p:Nat×List Nat),(zL2 al part l p).1=zEl al part l p.1
 |[],p=>rfl
 | i::l,p=>by
  show(zL2 al part l (gstep al part p i)).1=_;rw[zXc l,show zEl al part (i::l) p.1=if dif (part&&&2^i) p.1≠0/\al (p.1|||dif (part&&&2^i) p.1)=Ab then zEl al part l (p.1|||dif (part&&&2^i) p.1)else zEl al part l p.1 from rfl];unfold gstep;by_cases h1:dif (part&&&2^i) p.1=0
  ·rw[if_pos h1,if_neg (λh=>h.1 h1)]
  rw[if_neg h1];cases h2:al (p.1|||dif (part&&&2^i) p.1)
  ·rw[if_neg (by decide),if_neg (λh=>by cases h.2)]
  rw[if_pos rfl,if_pos ⟨h1,rfl⟩]
def confK(al:Nat->Bool)(part:Nat):Nat->List Nat->List Nat->Option (List Nat×List Nat)
 |0,_,_=>A1
 |k+1,sets,ks=>match sets.find? al with
  |none=>Aw (sets,idxK al sets ks)
  |some s=>confK al part k (zDy sets (dif part (zEl al part (As 32) s))) (zL2 al part (As 32) (s,idxK al sets ks)).2
theorem zXm{al:Nat->Bool}{part:Nat}{r:List Nat}:∀(k:Nat)(sets ks:List Nat),zJ7 al part k sets=Aw r->∃ks',confK al part k sets ks=Aw (r,ks')
 |0,sets,ks,h=>by cases h
 | k+1,sets,ks,h=>by
  unfold zJ7 at h;unfold confK;split at h
  ·rename_i h0;cases h;try rw [h0]
   exact⟨_,rfl⟩
  rename_i s h0;try rw [h0]
  exact zXm k _ _ h
theorem zKn{kept:List Nat}{o s:Nat}:∀{l:List Nat},l.Nodup->(zA6 kept o s l).Nodup
 |[],_=>List.nodup_nil
 | i ::l,hn=>by
  obtain⟨h1,h2⟩:=B2.1 hn;unfold zA6;split
  ·exact zKn h2
  rename_i hne;split
  ·exact zKn h2
  refine B2.2 ⟨λhm=>?_,zKn h2⟩;obtain⟨j,hj,e,_⟩:=zCo hm;have hi:s.testBit i=Ac/\o.testBit i=true:=by
   apply BH;intro hh;apply hne;apply Bs;intro q;rw[A2,AZ,Bu];by_cases hq:i=q
   ·subst hq;cases h3:s.testBit i<;>cases h4:o.testBit i<;>simp_all
   simp[hq]
  have h3:=congrArg (λn=>n.testBit i) e;simp only[A2,AZ,Bu]at h3;rw[hi.1,hi.2]at h3;have hij:j≠i:=λe=>h1 (e▸hj);simp[hij]at h3
theorem zR0{kept:List Nat}{o s g:Nat}{l:List Nat}(h:g∈zA6 kept o s l)(hs:s&&&o=0):dif g o=s:=by
 obtain⟨i,_,rfl,_⟩:=zCo h;apply Bs;intro j;have h2:=congrArg (λn=>n.testBit j) hs;simp only[AZ,BC]at h2;rw[zBk,A2,AZ];cases h3:s.testBit j<;>cases h4:o.testBit j<;>simp_all
theorem meet_nd{sets:List Nat}(o:Nat)(h:sets.Nodup):(zDy sets o).Nodup:=by
 unfold zDy;refine List.nodup_append.2 ⟨h.filter _,?_,λa ha b hb e=>?_⟩
 ·refine List.pairwise_flatMap.2 ⟨λs hs=>zKn List.nodup_range,?_⟩;refine((h.filter λs=>s&&&o==0).imp_of_mem ?_);intro a b ha hb hne x hx y hy e;subst e;have h1:=zR0 hx (by simpa using(AL.1 ha).2);have h2:=zR0 hy (by simpa using(AL.1 hb).2);exact hne (h1.symm.trans h2)
 subst e;obtain⟨s,_,hg⟩:=Bt.1 hb;exact zHq hg a ha (Sub.refl a)
theorem zL3{kept:List Nat}{o s:Nat}:∀(l:List Nat),(zA6 kept o s l).length<=l.length
 |[]=>AU _
 | i::l=>by
  unfold zA6
  have:=zL3 (kept:=kept) (o:=o) (s:=s) l
  simp only[AR];split
  ·omega
  split
  ·omega
  simp only[AR];omega
theorem find_aa{al:Nat->Bool}:∀{sets:List Nat}{p:Nat},p<sets.length->al (sets.getD p 0)=Ab->(∀j,j<p->al (sets.getD j 0)=Ac)->sets.find? al=Aw (sets.getD p 0)/\sets.findIdx? al=Aw p
 |[],p,hp,_,_=>by cases hp
 |a::l,0,_,h1,_=>by
  have h1:al a=true:=h1;refine⟨?_,?_⟩
  ·rw[List.find?_cons_of_pos h1];rfl
  rw[CK,if_pos h1]
 |a::l,p+1,hp,h1,h2=>by
  have h0:al a=false:=h2 0 (by omega);obtain⟨k1,k2⟩:=find_aa (sets:=l) (p:=p) (by simpa using hp) (by simpa using h1) (λj hj=>by simpa using h2 (j+1) (by omega));refine⟨?_,?_⟩
  ·rw[List.find?_cons_of_neg (by rw[h0];decide),k1];rfl
  rw[CK,if_neg (by rw[h0];decide),k2];rfl
theorem find_nn{al:Nat->Bool}{sets:List Nat}(h:∀j,j<sets.length->al (sets.getD j 0)=Ac):sets.find? al=A1/\sets.findIdx? al=none:=by
 have hm:∀s∈sets,al s=false:=λs hs=>by
  obtain⟨j,hj,rfl⟩:=BU hs
  have:=h j hj
  rwa[Ao,Ar hj]at this
 exact⟨B8.2 λs hs=>by rw[hm s hs];decide,List.findIdx?_eq_none_iff.2 hm⟩
theorem fst_or(f:Nat->Bool):∀l:List Nat,(∃p,p<l.length/\f (l.getD p 0)=Ab/\∀j,j<p->f (l.getD j 0)=Ac)\/∀j,j<l.length->f (l.getD j 0)=Ac
 |[]=> .inr λj h=>by cases h
 | a::l=>by
  cases ha:f a
  ·rcases fst_or f l with⟨p,h1,h2,h3⟩|h
   ·refine .inl ⟨p+1,by simpa using h1,by simpa using h2,λj hj=>?_⟩;match j,hj with
    |0,_=>exact ha
    |j+1,hj=>simpa using h3 j (by omega)
   refine .inr λj hj=>?_;match j,hj with
   |0,_=>exact ha
   |j+1,hj=>simpa using h j (by simpa using hj)
  exact .inl ⟨0,by simp,ha,λj hj=>by omega⟩
theorem zNh(kept:List Nat)(o s:Nat):∀(l:List Nat)(i:Nat),zA6 kept o s (l++[i])=zA6 kept o s l++(if s|||(o&&&2^i)=s then[]else if kept.any (λk=>dif k (s|||(o&&&2^i))==0)then[]else[s|||(o&&&2^i)])
 |[],i=>by
  show zA6 kept o s [i]=_;unfold zA6;split
  ·rfl
  split<;>rfl
 | j::l,i=>by
  have ih:=zNh kept o s l i;have e:∀l',zA6 kept o s (j::l')=if s|||(o&&&2^j)=s then zA6 kept o s l' else if kept.any (λk=>dif k (s|||(o&&&2^j))==0)then zA6 kept o s l' else(s|||(o&&&2^j))::zA6 kept o s l':=λl'=>rfl
  rw[AM,e,e,ih];split
  ·rfl
  split
  ·rfl
  rfl
theorem zP1{α β:Type}(f:α->List β)(c:Nat)(h:∀a,(f a).length<=c):∀l:List α,(l.flatMap f).length<=c*l.length
 |[]=>BG _
 |a::l=>by
  rw[Cn,AV,AR,Nat.mul_succ];have h1:=zP1 f c h l;have h2:=h a;omega
theorem cnf_few{al:Nat->Bool}{part:Nat}{Cs sets:List Nat}(h:Cnf al part Cs sets)(hn:sets.Nodup):sets.length<=part+1:=zPk part sets hn λs hs=>sub_le (h.sub s hs)
theorem zXl{al:Nat->Bool}{part:Nat}:∀(k:Nat)(Cs sets r:List Nat),Cnf al part Cs sets->sets.Nodup->zJ7 al part k sets=Aw r->r.length<=part+1
 |0,_,_,_,_,_,h=>by cases h
 | k+1,Cs,sets,r,hc,hn,h=>by
  unfold zJ7 at h;split at h
  ·injection h with h;rw[<-h];exact cnf_few hc hn
  rename_i s h0;exact zXl k _ _ r (zKt hc (BX h0)) (meet_nd _ hn) h
section
open Go.RowKit
noncomputable def cflA (A:List (List Nat×List Rw)) (P:Nat):List Nat:=if alB A P then[]else(zJ7 (alB A) P (P+2) [0]).getD []
noncomputable def zJk (A:List (List Nat×List Rw)):Option (List Int):=(((zDu A).flatMap (cflA A)).map memL).foldl bstS A1
theorem zPz:∀(l L:List (List Int))(o:Option (List Int)),FstL L o->FstL (L++l) (l.foldl bstS o)
 |[],L,o,h=>by rw[Ce];exact h
 |a::l,L,o,h=>by
  have:=zPz l (L++[a]) (bstS o a) (bst_step h a)
  rwa[CH]at this
theorem zVi(A:List (List Nat×List Rw)){P:Nat}(hP:P<2^32)(m:Nat):m∈cflA A P↔MinC (alB A) P m:=by
 unfold cflA;split
 ·rename_i ha;refine⟨λh=>(by cases h),λh=>?_⟩
  have:=zHx A m P h.1 ha
  rw[h.2.1]at this;cases this
 obtain⟨r,hr,_⟩:=zMc (P+2) [] [0] (zEn (alB A) P) (by show P+1-0<P+2;omega);rw[hr];exact zXk (zHx A) hP (P+2) [] [0] r (zEn (alB A) P) (mht_start P) (λC hC=>by cases hC) hr m
theorem zXw(A:List (List Nat×List Rw))(hl:A.length<=32):∃L,FstL L (zJk A)/\∀l,l∈L↔∃m,MinC (alB A) (2^A.length-1) m/\l=memL m:=by
 obtain⟨h1,h2,_⟩:=zRh A;refine⟨((zDu A).flatMap (cflA A)).map memL,?_,λl=>?_⟩
 ·have:=zPz (((zDu A).flatMap (cflA A)).map memL) [] A1 rfl
  rwa[AP]at this
 have hp:=λm=>minc_part (A:=A) (parts:=zDu A) (full:=2^A.length-1) (λi=>by rw[BO,decide_eq_true_eq]) h1 h2 m;have h32:∀P∈zDu A,P<2^32:=λP hP=>by
  have h3:=sub_le (h1 P hP).2;have h4:2^A.length<=2^32:=Bo (by omega) hl
  have:=BV A.length
  omega
 constructor
 ·intro h;obtain⟨m,hm,rfl⟩:=Am.1 h;obtain⟨P,hP,hm⟩:=Bt.1 hm;exact⟨m,(hp m).2 ⟨P,hP,(zVi A (h32 P hP) m).1 hm⟩,rfl⟩
 rintro⟨m,hm,rfl⟩;obtain⟨P,hP,hm⟩:=(hp m).1 hm;exact Am.2 ⟨m,Bt.2 ⟨P,hP,(zVi A (h32 P hP) m).2 hm⟩,rfl⟩
theorem zXt:∀(l:List (List Int))(o:Option (List Int)),(∀x∈l,0<x.length)->(∀b,o=Aw b->0<b.length)->∀b,l.foldl bstS o=Aw b->0<b.length
 |[],o,_,ho,b,h=>ho b h
 | a::l,o,hl,ho,b,h=>by
  refine zXt l (bstS o a) (λx hx=>hl x<|Bj _ hx) (λc hc=>?_) b h;unfold bstS at hc;split at hc
  ·injection hc with hc;rw[<-hc];exact hl a (AW ..)
  split at hc
  ·injection hc with hc;rw[<-hc];exact hl a (AW ..)
  exact ho c hc
theorem zQd:∀(l:List (List Int))(o:Option (List Int)),(∀x∈l,x.length<=32)->(∀b,o=Aw b->b.length<=32)->∀b,l.foldl bstS o=Aw b->b.length<=32
 |[],o,_,ho,b,h=>ho b h
 | a::l,o,hl,ho,b,h=>by
  refine zQd l (bstS o a) (λx hx=>hl x<|Bj _ hx) (λc hc=>?_) b h;unfold bstS at hc;split at hc
  ·injection hc with hc;rw[<-hc];exact hl a (AW ..)
  split at hc
  ·injection hc with hc;rw[<-hc];exact hl a (AW ..)
  exact ho c hc
theorem zF4(s:Nat):(memL s).length<=32:=by
 unfold memL;rw[An]
 have:=Bv (λi=>s.testBit i) (As 32)
 rw[Ck]at this;exact this
theorem zTj{s:Nat}(hs:s<2^32)(h0:s≠0):0<(memL s).length:=by
 obtain⟨i,hi⟩:=CJ h0;have h32:i<32:=by
  rcases Ap i 32 with h|h
  ·exact h
  rw[B9 (BW hs (Bo (by omega) h))]at hi;cases hi
 exact List.length_pos_of_mem (zWv.2 ⟨h32,hi⟩)
theorem cfl_ok(A:List (List Nat×List Rw)){P:Nat}(hP:P<2^32){s:Nat}(h:s∈cflA A P):s<2^32/\s≠0:=by
 obtain⟨h1,h2,_⟩:=(zVi A hP s).1 h;refine⟨Nat.lt_of_le_of_lt (sub_le h1) hP,λe=>?_⟩;rw[e,alB_0]at h2;cases h2
def agrR(known:Rw)(V:List Nat)(r:Rw):Bool:=(As V.length).all λk=>decide (V.getD k 0<known.length->r.getD k Af=known.getD (V.getD k 0) Af)
def alwR(known:Rw)(a:List Nat×List Rw):Bool:=a.2.any (agrR known a.1)
structure ValsOk(A:List (List Nat×List Rw))(vf:Nat->List Va):Prop where
 mem:∀v,(∃a∈A,v∈a.1)->∃a∈A,v∈a.1/\∀x,x∈vf v↔∃r∈a.2,r.getD (a.1.idxOf v) Af=x
def zBz(A:List (List Nat×List Rw))(vf:Nat->List Va):Nat->Rw->List Rw
 |0,known=>if A.all (alwR known)then[known]else[]
 |m+1,known=>if A.all (alwR known)then(vf known.length).flatMap λv=>zBz A vf m (known++[v])else[]
section
variable {A : List (List Nat × List Rw)} {vf : Nat → List Va} (hl : ∀ a ∈ A, ∀ r ∈ a.2, r.length = a.1.length)
theorem agr_iff{known:Rw}{V:List Nat}{r:Rw}:agrR known V r=Ab↔∀k,k<V.length->V.getD k 0<known.length->r.getD k Af=known.getD (V.getD k 0) default:=by
 unfold agrR;rw[AY];constructor
 ·intro h k hk;exact of_decide_eq_true (h k (AT.2 hk))
 intro h k hk;exact decide_eq_true (h k (AT.1 hk))
theorem zWy(f:Nat->Va)(V:List Nat)(k:Nat)(h:k<V.length):(V.map f).getD k Af=f (V.getD k 0):=by
 rw[Ao,BE,Ar h,Ao,Ar h];rfl
theorem alw_of{known y:Rw}(hy:y.take known.length=known)(hs:SatA A λv=>y.getD v Af):A.all (alwR known)=true:=by
 rw[AY];intro a ha;refine Bp.2 ⟨_,hs a ha,agr_iff.2 λk hk hv=>?_⟩;rw[zWy _ _ _ hk];generalize a.1.getD k 0=j at hv⊢;have h:(y.take known.length)[j]?=known[j]?:=by rw[hy]
 rw[Cl,if_pos hv]at h;rw[Ao,Ao,h]
include hl
theorem zLz(hv:ValsOk A vf):∀(m:Nat)(known y:Rw),(∀a∈A,∀v∈a.1,v<known.length+m)->(∀v,known.length<=v->v<known.length+m->∃a∈A,v∈a.1)->(y∈zBz A vf m known↔y.length=known.length+m/\y.take known.length=known/\SatA A λv=>y.getD v Af)
 | 0, known,y,hlt,_=>by
  unfold zBz;constructor
  ·intro h;split at h
   ·rename_i ha;rw[A0.1 h];refine⟨by omega,A3,λa haA=>?_⟩;obtain⟨r,hr,hag⟩:=Bp.1 (AY.1 ha a haA);have e:a.1.map (λv=>known.getD v Af)=r:=by
     have hlr:=hl a haA r hr;apply List.ext_getElem (by rw[An,hlr]);intro k h1 h2;rw[An]at h1;have h3:=agr_iff.1 hag k h1 (by
      have:=hlt a haA (a.1.getD k 0) (by rw[Ao,Ar h1];exact Bl h1)
      omega)
     rw[Ao,Ar h2]at h3;rw[List.getElem_map];have h4:r[k]=known.getD (a.1.getD k 0) default:=h3;rw[h4,Ao (l:=a.1),Ar h1];rfl
    rw[e];exact hr
   cases h
  rintro⟨h1,h2,h3⟩;have e:y=known:=by
   rw[<-h2,AQ (by omega)]
  rw[if_pos (alw_of h2 h3),e];exact A0.2 rfl
 | m+1,known,y,hlt,hcv=>by
  unfold zBz;have hlen:∀v:Va,(known++[v]).length=known.length+1:=λv=>by simp
  have ih:=λv=>zLz hv m (known++[v]) y (λa ha w hw=>by rw[hlen];have:=hlt a ha w hw;omega) (λw h1 h2=>by rw[hlen]at h1 h2;exact hcv w (by omega) (by omega));have htk:∀v:Va,y.length=known.length+(m+1)->(y.take (known.length+1)=known++[v]↔y.take known.length=known/\y.getD known.length Af=v):=λv hy=>by
   rw[Bm (by omega),Ao,Ar (by omega:known.length<y.length)];constructor
   ·intro h;obtain⟨h1,h2⟩:=List.append_inj h (by rw[AS];omega);exact⟨h1,by simpa using h2⟩
   rintro⟨h1,h2⟩;have h2:y[known.length]=v:=h2;rw[h1,h2]
  constructor
  ·intro h;split at h
   ·obtain⟨v,hvv,h⟩:=Bt.1 h;obtain⟨h1,h2,h3⟩:=(ih v).1 h;rw[hlen]at h1 h2;exact⟨by omega,((htk v (by omega)).1 h2).1,h3⟩
   cases h
  rintro⟨h1,h2,h3⟩;rw[if_pos (alw_of h2 h3)];refine Bt.2 ⟨y.getD known.length Af,?_,(ih _).2 ⟨by rw[hlen];omega,by rw[hlen];exact(htk _ h1).2 ⟨h2,rfl⟩,h3⟩⟩;obtain⟨a,ha,hva,hx⟩:=hv.mem known.length (hcv known.length (AU _) (by omega));refine(hx _).2 ⟨_,h3 a ha,?_⟩;have hi:=BS.2 hva;rw[zWy _ _ _ hi,Ao (l:=a.1),Ar hi,B1,B6 hi]
end
def strR:List UInt8->List UInt8->Int
 |x::a,y::b=>if x<y then-1 else if y<x then 1 else strR a b
 |a,b=>(a.length:Int)-(b.length:Int)
theorem zK6{A B:Array UInt8}{i:Nat}(ha:i<A.size)(hb:i<B.size):strR (A.toList.drop i) (B.toList.drop i)=if A.getD i 0<B.getD i 0 then-1 else if B.getD i 0<A.getD i 0 then 1 else strR (A.toList.drop (i+1)) (B.toList.drop (i+1)):=by
 have ea:=BK (l:=A.toList) (i:=i) (by simpa using ha);have eb:=BK (l:=B.toList) (i:=i) (by simpa using hb);rw[ea,eb];simp[strR,Cb,ha,hb]
theorem strR_end{A B:List UInt8}{i:Nat}(h:i=A.length\/i=B.length)(h1:i<=A.length)(h2:i<=B.length):strR (A.drop i) (B.drop i)=(A.length:Int)-(B.length:Int):=by
 have e1:=Bn (i:=i) (l:=A);have e2:=Bn (i:=i) (l:=B);generalize A.drop i=X at*;generalize B.drop i=Y at*;match X,Y,e1,e2 with
 |[],Y,e1,e2=>simp only[strR,BR]at*;omega
 |x::X,[],e1,e2=>simp only[strR,BR]at*;omega
 |x::X,y::Y,e1,e2=>simp only[AR]at*;omega
theorem zQr:∀a b:List UInt8,(strR a b<0/\BM a b=-1)\/(strR a b=0/\BM a b=0)\/(0<strR a b/\BM a b=1)
 |[],[]=>by simp[strR,BM]
 |[],y::b=>by simp[strR,BM]<;>omega
 |x::a,[]=>by simp[strR,BM]<;>omega
 | x::a,y::b=>by
  have ih:=zQr a b;simp only[strR,BM];by_cases h1:x<y
  ·simp[h1]
  by_cases h2:y<x
  ·simp[h1,h2]
  simpa[h1,h2]using ih
def cntR(L:List Rw)(x:Rw):Nat:=(L.filter λy=>decide (rcmp y x<0)).length
def insR(L:List Rw)(x:Rw):List Rw:=if x∈L then L else L.take (cntR L x)++x::L.drop (cntR L x)
theorem zTp(L:List Rw)(x:Rw):cntR L x<=L.length:=Bv _ _
theorem zW6(L:List Rw)(r x:Rw):x∈insR L r↔x=r\/x∈L:=by
 unfold insR;split
 ·rename_i h;exact⟨.inr,λhh=>hh.elim (λe=>e▸h) id⟩
 conv=>rhs;rw[<-CL (cntR L r) L]
 simp only[Br,AO];constructor
 ·rintro(h|h|h)
  ·exact .inr (.inl h)
  ·exact .inl h
  exact .inr (.inr h)
 rintro(h|h|h)
 ·exact .inr (.inl h)
 ·exact .inl h
 exact .inr (.inr h)
theorem insR_len(L:List Rw)(r:Rw):(insR L r).length<=L.length+1:=by
 have:=zTp L r
 unfold insR;split
 ·omega
 simp only[AV,AR,AS,Bn];omega
theorem zQ3:∀{L:List Rw}(x:Rw),Rsc L->(∀y∈L.take (cntR L x),rcmp y x<0)/\(∀y∈L.drop (cntR L x),¬rcmp y x<0)
 |[],x,_=>⟨λy h=>(by cases h),λy h=>(by cases h)⟩
 | a::L,x,h=>by
  obtain⟨h1,h2⟩:=Bd.1 h;obtain⟨i1,i2⟩:=zQ3 x h2;unfold cntR at i1 i2⊢;by_cases ha:rcmp a x<0
  ·rw[List.filter_cons_of_pos (by rw[decide_eq_true ha]),AR];refine⟨λy hy=>?_,λy hy=>?_⟩
   ·rw[List.take_succ_cons]at hy;rcases AO.1 hy with rfl|hy
    ·exact ha
    exact i1 y hy
   rw[List.drop_succ_cons]at hy;exact i2 y hy
  have hz:L.filter (λy=>decide (rcmp y x<0))=[]:=List.filter_eq_nil_iff.2 λy hy hh=>by
   have:=of_decide_eq_true hh
   exact ha (zGm _ _ _ (h1 y hy) this)
  rw[List.filter_cons_of_neg (by rw[decide_eq_false ha];decide),hz];refine⟨λy hy=>(by cases hy),λy hy hh=>?_⟩;rw[BR,AJ]at hy;rcases AO.1 hy with rfl|hy
  ·exact ha hh
  exact ha (zGm _ _ _ (h1 y hy) hh)
theorem insR_rsc{L:List Rw}(r:Rw)(h:Rsc L):Rsc (insR L r):=by
 unfold insR;split
 ·exact h
 rename_i hne;obtain⟨hlt,hge⟩:=zQ3 r h;have hsp:Rsc (L.take (cntR L r)++L.drop (cntR L r)):=by rw[CL];exact h
 obtain⟨h1,h2,h3⟩:=List.pairwise_append.1 hsp;have hgt:∀x∈L.drop (cntR L r),rcmp r x<0:=λx hx=>by
  have hn:=hge x hx;obtain⟨c1,c2,c3⟩:=zBt x r;have:rcmp x r≠0:=λe=>hne (c2.1 e▸Cv hx);omega
 exact List.pairwise_append.2 ⟨h1,Bd.2 ⟨hgt,h2⟩,λx hx y hy=>by
  rcases AO.1 hy with rfl|hy
  ·exact hlt x hx
  exact h3 x hx y hy⟩
def prjL(cols:List Nat)(R:List Rw):List Rw:=R.foldl (λL r=>insR L (cols.map λc=>r.getD c Af)) []
theorem prjL_snoc(cols:List Nat)(R:List Rw)(r:Rw):prjL cols (R++[r])=insR (prjL cols R) (cols.map λc=>r.getD c Af):=by
 unfold prjL;rw[BP];rfl
theorem prjL_ok(cols:List Nat):∀(R L:List Rw),Rsc L->(∀x∈L,x.length=cols.length)->Rsc (R.foldl (λL r=>insR L (cols.map λc=>r.getD c Af)) L)/\(R.foldl (λL r=>insR L (cols.map λc=>r.getD c Af)) L).length<=L.length+R.length/\(∀x,x∈R.foldl (λL r=>insR L (cols.map λc=>r.getD c Af)) L↔x∈L\/∃r∈R,cols.map (λc=>r.getD c Af)=x)/\∀x∈R.foldl (λL r=>insR L (cols.map λc=>r.getD c Af)) L,x.length=cols.length
 |[],L,h,hl=>⟨h,AU _,λx=>⟨.inl,λhh=>hh.elim id λ⟨r,hr,_⟩=>(by cases hr)⟩,hl⟩
 | r ::R,L,h,hl=>by
  obtain⟨h1,h2,h3,h4⟩:=prjL_ok cols R (insR L (cols.map λc=>r.getD c Af)) (insR_rsc _ h) λx hx=>by
   rcases(zW6 _ _ _).1 hx with rfl|hx
   ·exact An _
   exact hl x hx
  refine⟨h1,?_,λx=>?_,h4⟩
  ·have:=insR_len L (cols.map λc=>r.getD c Af)
   rw[AR];exact AE h2 (by omega)
  rw[List.foldl_cons,h3,zW6];constructor
  ·rintro((rfl|hx)|⟨q,hq,e⟩)
   ·exact .inr ⟨r,AW ..,rfl⟩
   ·exact .inl hx
   exact .inr ⟨q,Bj _ hq,e⟩
  rintro(hx|⟨q,hq,e⟩)
  ·exact .inl (.inr hx)
  rcases AO.1 hq with rfl|hq
  ·exact .inl (.inl e.symm)
  exact .inr ⟨q,hq,e⟩
theorem zRg(cols:List Nat)(R:List Rw):Rsc (prjL cols R)/\(prjL cols R).length<=R.length/\(∀x,x∈prjL cols R↔∃r∈R,cols.map (λc=>r.getD c Af)=x)/\∀x∈prjL cols R,x.length=cols.length:=by
 obtain⟨h1,h2,h3,h4⟩:=prjL_ok cols R [] B4.nil λx hx=>(by cases hx);refine⟨h1,by rw[BR,Cj]at h2;exact h2,λx=>(h3 x).trans ⟨λhh=>hh.elim (λe=>(by cases e)) id, .inr⟩,h4⟩
def valF(A:List (List Nat×List Rw))(v:Nat):List Va:=match A.find? λa=>decide (v∈a.1)with
 |none=>[]
 |some a=>(prjL [a.1.idxOf v] a.2).map λx=>x.getD 0 Af
theorem zZj(A:List (List Nat×List Rw)):ValsOk A (valF A):=by
 refine⟨λv hv=>?_⟩;obtain⟨a,ha,hva⟩:=hv;cases hf:A.find? λa=>decide (v∈a.1)with
 |none=>exact absurd hva (by simpa using B8.1 hf a ha)
 | some b=>
  have hb:=BX hf;have hvb:v∈b.1:=by simpa using List.find?_some hf
  refine⟨b,hb,hvb,λx=>?_⟩;unfold valF;rw[hf];obtain⟨_,_,h3,_⟩:=zRg [b.1.idxOf v] b.2;simp only[Am];constructor
  ·rintro⟨y,hy,rfl⟩;obtain⟨r,hr,rfl⟩:=(h3 y).1 hy;exact⟨r,hr,rfl⟩
  rintro⟨r,hr,rfl⟩;exact⟨_,(h3 _).2 ⟨r,hr,rfl⟩,rfl⟩
theorem zGx(A:List (List Nat×List Rw))(h:∀a∈A,a.2.length<=10)(v:Nat):(valF A v).length<=10:=by
 unfold valF;split
 ·exact BG _
 rename_i b hf;rw[An];exact AE (zRg _ _).2.1 (h b (BX hf))
theorem zKm{A:List (List Nat×List Rw)}{vf:Nat->List Va}(h:∀v,(vf v).length<=10):∀(m:Nat)(known:Rw),(zBz A vf m known).length<=10^m
 |0,known=>by
  unfold zBz;split
  ·exact AU _
  exact BG _
 | m +1,known=>by
  unfold zBz;split
  ·have key:∀l:List Va,(l.flatMap λv=>zBz A vf m (known++[v])).length<=10^m*l.length:=λl=>by
    induction l with
    |nil=>exact BG _
    |cons v l ih=>
     rw[Cn,AV,AR,Nat.mul_succ]
     have:=zKm (A:=A) h m (known++[v])
     omega
   refine AE (key _) ?_;rw[Nat.pow_succ];exact Ci _ (h _)
  exact BG _
def snB(B:List (List Nat×List Rw))(v:Nat):Bool:=B.any λa=>decide (v∈a.1)
def rkN(f:Nat->Bool)(v:Nat):Nat:=((As v).filter f).length
theorem zKh(f:Nat->Bool)(v:Nat):rkN f (v+1)=rkN f v+if f v then 1 else 0:=by
 unfold rkN;rw[BF,BB,AV,Bq];cases f v<;>rfl
theorem rkN_le(f:Nat->Bool)(v:Nat):rkN f v<=v:=by
 have:=Bv f (As v)
 rw[Ck]at this;exact this
theorem zN9(f:Nat->Bool):∀{a b:Nat},a<=b->rkN f a<=rkN f b:=λ{a b} h=>by
 induction h with
 |refl=>exact AU _
 |step _ ih=>rw[zKh];omega
theorem rkN_lt{f:Nat->Bool}{v n:Nat}(hv:v<n)(hf:f v=Ab):rkN f v<rkN f n:=by
 have h1:=zKh f v;rw[hf,if_pos rfl]at h1;have h2:=zN9 f (a:=v+1) (b:=n) hv;omega
theorem rkN_at{f:Nat->Bool}{v:Nat}:∀{n:Nat},v<n->f v=Ab->((As n).filter f)[rkN f v]?=Aw v
 |0,h,_=>by omega
 | n+1,h,hf=>by
  rw[BF,BB];rcases Ap v n with h1|h1
  ·rw[CQ (rkN_lt h1 hf)];exact rkN_at h1 hf
  obtain rfl:v=n:=by omega
  rw[CR (show((As v).filter f).length<=rkN f v from AU _)];show([v].filter f)[rkN f v-rkN f v]?=Aw v;rw[Nat.sub_self,List.filter_cons_of_pos hf];rfl
theorem rkN_sur{f:Nat->Bool}:∀{n k:Nat},k<rkN f n->∃v,v<n/\f v=Ab/\rkN f v=k
 |0,k,h=>by cases h
 | n+1,k,h=>by
  rw[zKh]at h;rcases Ap k (rkN f n)with h1|h1
  ·obtain⟨v,h2,h3,h4⟩:=rkN_sur h1;exact⟨v,by omega,h3,h4⟩
  cases hf:f n
  ·rw[hf,if_neg (by decide)]at h;omega
  rw[hf,if_pos rfl]at h;exact⟨n,by omega,hf,by omega⟩
def renR(f:Nat->Bool)(a:List Nat×List Rw):List Nat×List Rw:=(a.1.map (rkN f),a.2)
def knK(f:Nat->Bool)(p:Rw)(n:Nat):Rw:=((As (min n p.length)).filter f).map λw=>p.getD w Af
theorem zTl(f:Nat->Bool)(p:Rw)(n:Nat):(knK f p n).length=rkN f (min n p.length):=An _
def alwS(B:List (List Nat×List Rw))(n:Nat)(p:Rw):List Rw:=zBz (B.map (renR (snB B))) (valF (B.map (renR (snB B)))) (rkN (snB B) n-(knK (snB B) p n).length) (knK (snB B) p n)
theorem sat_rest1{A:List (List Nat×List Rw)}{s:Nat}{p:Rw}(hl:∀a∈A,∀r∈a.2,r.length=a.1.length)(τ:Nat->Va):SatS (A.map (zAw p)) s τ↔SatS A s (shf p τ):=by
 have key:∀i,i<A.length->(((A.map (zAw p)).getD i Af).1.map τ∈((A.map (zAw p)).getD i Af).2↔(A.getD i Af).1.map (shf p τ)∈(A.getD i Af).2):=λi hi=>by
  have e:(A.map (zAw p)).getD i Af=zAw p (A.getD i Af):=by
   rw[Ao,BE,Ar hi,Ao,Ar hi];rfl
  have hm:A.getD i Af∈A:=by rw[Ao,Ar hi];exact Bl hi
  have h1:=zEw (A:=[A.getD i Af]) (p:=p) (λa ha r hr=>by
   rw[A0.1 ha]at hr⊢;exact hl _ hm r hr) τ
  rw[e];constructor
  ·intro h;exact h1.1 (λa ha=>by
    have:a=zAw p (A.getD i Af):=by simpa using ha
    rw[this];exact h) _ (A0.2 rfl)
  intro h;exact h1.2 (λa ha=>by rw[A0.1 ha];exact h) _ (by simp)
 unfold SatS;rw[An];exact⟨λh i hi hb=>(key i hi).1 (h i hi hb),λh i hi hb=>(key i hi).2 (h i hi hb)⟩
theorem zNt{A:List (List Nat×List Rw)}{n:Nat}{p:Rw}(s:Nat)(hlt:∀a∈A,∀v∈a.1,v<n)(hp:p.length<=n)(hl:∀a∈A,∀r∈a.2,r.length=a.1.length):alwS (zC8 A s) n p≠[]↔alB (A.map (zAw p)) s=true:=by
 have hsub:∀b∈zC8 A s,b∈A:=λb hb=>by
  obtain⟨i,hi,rfl⟩:=Am.1 hb;have h1:=AT.1 (AL.1 hi).1;rw[Ao,Ar h1];exact Bl h1
 have hal:alB (A.map (zAw p)) s=Ab↔∃τ,SatA (zC8 A s) (shf p τ):=by
  rw[zQi];exact exists_congr λτ=>(sat_rest1 hl τ).trans sat_chos.symm
 rw[hal];unfold alwS;generalize hB:zC8 A s=B at*;have hltB:∀a∈B,∀v∈a.1,v<n:=λa ha=>hlt a (hsub a ha);have hlB:∀a∈B,∀r∈a.2,r.length=a.1.length:=λa ha=>hl a (hsub a ha);have hfB:∀a∈B,∀v∈a.1,snB B v=true:=λa ha v hv=>Bp.2 ⟨a,ha,decide_eq_true hv⟩;have hfx:∀v,snB B v=Ab->∃a∈B,v∈a.1:=λv hv=>by
  obtain⟨a,ha,hv⟩:=Bp.1 hv;exact⟨a,ha,of_decide_eq_true hv⟩
 generalize snB B=f at*;have hkl:(knK f p n).length=rkN f p.length:=by rw[zTl,Nat.min_eq_right hp]
 have hle:rkN f p.length<=rkN f n:=zN9 f hp;have hK:knK f p n=((As p.length).filter f).map λw=>p.getD w default:=by
  unfold knK;rw[Nat.min_eq_right hp]
 have hKat:∀v,v<p.length->f v=Ab->(knK f p n).getD (rkN f v) Af=p.getD v default:=λv hv hf=>by
  rw[hK,Ao,BE,rkN_at hv hf];rfl
 have hspec:=λy=>zLz (A:=B.map (renR f)) (vf:=valF (B.map (renR f))) (λa ha r hr=>by
  obtain⟨b,hb,rfl⟩:=Am.1 ha;show r.length=(b.1.map (rkN f)).length;rw[An];exact hlB b hb r hr) (zZj _) (rkN f n-(knK f p n).length) (knK f p n) y (λa ha v hv=>by
  obtain⟨b,hb,rfl⟩:=Am.1 ha;obtain⟨w,hw,rfl⟩:=Am.1 hv
  have:=rkN_lt (hltB b hb w hw) (hfB b hb w hw)
  omega) (λv h1 h2=>by
  obtain⟨w,w1,w2,w3⟩:=rkN_sur (f:=f) (n:=n) (k:=v) (by omega);obtain⟨a,ha,hwa⟩:=hfx w w2;exact⟨renR f a,Am.2 ⟨a,ha,rfl⟩,Am.2 ⟨w,hwa,w3⟩⟩)
 rw[show(knK f p n).length+(rkN f n-(knK f p n).length)=rkN f n by omega]at hspec;constructor
 ·intro hne;obtain⟨y,hy⟩:=CS _ hne;obtain⟨y1,y2,y3⟩:=(hspec y).1 hy;refine⟨λv=>y.getD (rkN f (v+p.length)) Af,λa ha=>?_⟩;have h3:=y3 (renR f a) (Am.2 ⟨a,ha,rfl⟩);have e:(renR f a).1.map (λv=>y.getD v Af)=a.1.map (shf p λv=>y.getD (rkN f (v+p.length)) Af):=by
   show(a.1.map (rkN f)).map _=_;rw[By];refine BT λv hv=>?_;show y.getD (rkN f v) Af=shf p _ v;unfold shf;split
   ·rename_i hvp;have h4:=hKat v hvp (hfB a ha v hv);rw[<-h4,<-y2];have h5:rkN f v<(knK f p n).length:=by rw[hkl];exact rkN_lt hvp (hfB a ha v hv)
    rw[Ao,Ao,Cl,if_pos h5]
   rename_i hvp;show _=y.getD (rkN f (v-p.length+p.length)) Af;rw[show v-p.length+p.length=v by omega]
  rw[e]at h3;exact h3
 rintro⟨τ,hτ⟩;refine List.ne_nil_of_mem ((hspec (((As n).filter f).map (shf p τ))).2 ⟨An _,?_,λa ha=>?_⟩)
 ·have hsp:(As n).filter f=(As p.length).filter f++((List.range' p.length (n-p.length)).filter f):=by
   rw[<-BB];congr 1;rw[List.range_eq_range',List.range_eq_range',show n=p.length+(n-p.length) by omega,Nat.add_sub_cancel_left]
   have:=List.range'_append (s:=0) (m:=p.length) (n:=n-p.length) (step:=1)
   simpa using this.symm
  rw[hsp,Bb,hkl,CT (by rw[An];exact AU _),AQ (by rw[An];exact AU _),hK];refine BT λw hw=>?_
  have:=AT.1 (AL.1 hw).1
  show shf p τ w=_;unfold shf;rw[if_pos this]
 obtain⟨b,hb,rfl⟩:=Am.1 ha;have e:(renR f b).1.map (λv=>(((As n).filter f).map (shf p τ)).getD v Af)=b.1.map (shf p τ):=by
  show(b.1.map (rkN f)).map _=_;rw[By];refine BT λv hv=>?_;show(((As n).filter f).map (shf p τ)).getD (rkN f v) Af=shf p τ v;rw[Ao,BE,rkN_at (hltB b hb v hv) (hfB b hb v hv)];rfl
 rw[e];exact hτ b hb
theorem dif_add{s i:Nat}(h:s.testBit i=Ab):dif s (2^i)+2^i=s:=by
 have hp:=BV i;have e:s=2^i*(s/2^i)+s%2^i:=(Nat.div_add_mod s (2^i)).symm;have hr:s%2^i<2^i:=Nat.mod_lt _ hp;have hq:s/2^i%2=1:=by
  rw[Nat.testBit_eq_decide_div_mod_eq]at h;exact of_decide_eq_true h
 generalize s/2^i=q at*;generalize s%2^i=r at*;have hd:dif s (2^i)=2^i*(q-1)+r:=by
  apply Bs;intro j;rw[zBk,CU _ hr,e,CU _ hr,Bu];by_cases h1:j<i
  ·rw[if_pos h1,if_pos h1,decide_eq_false (by omega)];simp
  rw[if_neg h1,if_neg h1];rcases Ap i j with h2|h2
  ·rw[decide_eq_false (by omega)];obtain⟨k,hk⟩:∃k,j-i=k+1:=⟨j-i-1,by omega⟩;rw[hk,Nat.testBit_succ,Nat.testBit_succ,show(q-1)/2=q/2 by omega];simp
  obtain rfl:j=i:=by omega
  rw[decide_eq_true rfl,Nat.sub_self];have:(q-1).testBit 0=false:=by
   rw[Nat.testBit_zero];exact decide_eq_false (by omega)
  rw[this];simp
 rw[hd,e,Nat.mul_sub,A_];have:2^i*1<=2^i*q:=Ci _ (by omega);omega
def minB(al:Nat->Bool)(m s:Nat):Bool:=!al s&&(As m).all λi=>!s.testBit i||al (dif s (2^i))
theorem zPn{al:Nat->Bool}(hmo:∀a b,Sub a b->al b=Ab->al a=Ab){m s:Nat}(hs:s<2^m):minB al m s=Ab↔MinC al (2^m-1) s:=by
 have hfull:Sub s (2^m-1):=λi hi=>by
  rw[BO];refine decide_eq_true ?_;rcases Ap i m with h|h
  ·exact h
  rw[B9 (BW hs (Bo (by omega) h))]at hi;cases hi
 unfold minB;rw[Ba,Cx,AY];constructor
 ·rintro⟨h1,h2⟩;refine⟨hfull,h1,λt ht hta=>?_⟩;apply BH;intro hne;obtain⟨i,hi1,hi2⟩:∃i,s.testBit i=Ab/\t.testBit i=false:=by
   apply BH;intro hno;refine hne (ht.eq λi hi=>?_);cases hti:t.testBit i
   ·exact absurd ⟨i,hi,hti⟩ hno
   rfl
  have hi:=hfull i hi1;rw[BO,decide_eq_true_eq]at hi;have h3:=h2 i (AT.2 hi);rw[hi1,CC,Ch]at h3;have h4:=hmo t (dif s (2^i)) (λj hj=>by
   rw[zBk,ht j hj,Bu,decide_eq_false (λe=>by subst e;rw[hi2]at hj;cases hj)];rfl) h3
  rw[hta]at h4;cases h4
 rintro⟨_,h1,h2⟩;refine⟨h1,λi _=>?_⟩;cases hi:s.testBit i
 ·rfl
 rw[CC,Ch];cases ha:al (dif s (2^i))
 ·have:=h2 _ (zP6 s (2^i)) ha
  have h3:=congrArg (λn=>n.testBit i) this;simp only[zBk,hi,Bu]at h3;simp at h3
 rfl
def rbst(al:Nat->Bool)(m:Nat)(k:Nat):Option (List Int):=(((As k).filter λj=>minB al m (j+1)).map λj=>memL (j+1)).foldl bstS A1
theorem rbst_succ(al:Nat->Bool)(m k:Nat):rbst al m (k+1)=if minB al m (k+1)then bstS (rbst al m k) (memL (k+1))else rbst al m k:=by
 unfold rbst;rw[BF,BB,Bb,BP,Bq];cases minB al m (k+1)<;>rfl
theorem zYe{al al':Nat->Bool}{m k:Nat}(h:∀s,s<=k->al s=al' s):rbst al m k=rbst al' m k:=by
 have hm:∀j,j<k->minB al m (j+1)=minB al' m (j+1):=λj hj=>by
  unfold minB;rw[h _ (by omega)];congr 1;rw[BD,AY,AY];exact forall_congr' λi=>forall_congr' λ_=>by
   rw[h (dif (j+1) (2^i)) (AE (sub_le (zP6 _ _)) (by omega))]
 unfold rbst;rw[List.filter_congr λj hj=>hm j (AT.1 hj)]
theorem zXu(A:List (List Nat×List Rw))(hl:A.length<=32):zJk A=rbst (alB A) A.length (2^A.length-1):=by
 obtain⟨L,h1,h2⟩:=zXw A hl;have h3:=zPz (((As (2^A.length-1)).filter λj=>minB (alB A) A.length (j+1)).map λj=>memL (j+1)) [] A1 rfl;rw[AP]at h3;have hp:=BV A.length;refine fst_uniq (λl=>?_) h1 h3;rw[h2,Am];constructor
 ·rintro⟨m,hm,rfl⟩;have hle:=sub_le hm.1;have h0:m≠0:=λe=>by
   have:=hm.2.1
   rw[e,alB_0]at this;cases this
  refine⟨m-1,AL.2 ⟨AT.2 (by omega),?_⟩,by rw[Nat.sub_add_cancel (by omega)]⟩;rw[Nat.sub_add_cancel (by omega)];exact(zPn (zHx A) (by omega)).2 hm
 rintro⟨j,hj,rfl⟩;obtain⟨j1,j2⟩:=AL.1 hj
 have:=AT.1 j1
 exact⟨j+1,(zPn (zHx A) (by omega)).1 j2,rfl⟩
theorem okX_at{m:Nat}{xs:List Int}(h:okX m xs=Ab){i:Nat}(hi:i<xs.length):0<=xs.getD i 0/\xs.getD i 0<(m:Nat):=by
 have:=AY.1 h i (AT.2 hi)
 have:=of_decide_eq_true this
 exact⟨this.1,this.2.1⟩
theorem okX_mem{m:Nat}{xs:List Int}(h:okX m xs=Ab){z:Int}(hz:z∈xs):0<=z/\z<(m:Nat):=by
 obtain⟨i,hi,rfl⟩:=BU hz
 have:=okX_at h hi
 rwa[Ao,Ar hi]at this
theorem zN0{xs:List Int}{i:Nat}:(setX xs).testBit i=decide (i∈xs.map Aj):=zBu _ _
theorem minB_list(al:Nat->Bool){m:Nat}{xs:List Int}(h:okX m xs=Ab):minB al m (setX xs)=(!al (setX xs)&&xs.all λa=>al (dif (setX xs) (2^a.toNat))):=by
 unfold minB;congr 1;rw[BD,AY,AY];constructor
 ·intro h2 z hz;have hm:=okX_mem h hz
  have:=h2 z.toNat (AT.2 (by omega))
  rw[zN0,decide_eq_true (Am.2 ⟨z,hz,rfl⟩)]at this;simpa using this
 intro h2 i _;rw[zN0];by_cases hm:i∈xs.map Aj
 ·obtain⟨z,hz,rfl⟩:=Am.1 hm;rw[h2 z hz];simp
 rw[decide_eq_false hm];rfl
theorem okX_yes{m:Nat}{xs:List Int}(h:∀j,j<xs.length->stX m xs j=Ab):okX m xs=true:=AY.2 λj hj=>h j (AT.1 hj)
theorem memL_asc(s:Nat):(memL s).Pairwise (· <·):=by
 unfold memL;refine BQ.2 ?_;exact(B4.filter _ List.pairwise_lt_range).imp λh=>by omega
theorem okX_memL{m s:Nat}(hs:s<2^m):okX m (memL s)=true:=by
 refine okX_yes λj hj=>?_;have hget:(memL s).getD j 0=(memL s)[j]:=by rw[Ao,Ar hj];rfl
 have hm:=Bl hj;unfold stX;rw[hget];refine decide_eq_true ?_;have hx:0<=(memL s)[j]/\(memL s)[j]<(m:Nat):=by
  obtain⟨i,hi,e⟩:=Am.1 hm;have hb:=(AL.1 hi).2;have:i<m:=by
   rcases Ap i m with h|h
   ·exact h
   rw[B9 (BW hs (Bo (by omega) h))]at hb;cases hb
  omega
 refine⟨hx.1,hx.2,?_⟩;rcases B_ j with h0|h0
 ·exact .inl h0
 right
 have:=CF.1 (memL_asc s) (j-1) j (by omega) hj (by omega)
 rwa[Ao,Ar (by omega)]
theorem zZ8{s:Nat}(hs:s<2^32):setX (memL s)=s:=by
 apply Bs;intro i;rw[zN0];cases hb:s.testBit i
 ·refine decide_eq_false λhm=>?_;obtain⟨z,hz,e⟩:=Am.1 hm;obtain⟨j,hj,rfl⟩:=Am.1 hz
  have:=(AL.1 hj).2
  rw[show j=i by rw[<-e];simp]at this;rw[hb]at this;cases this
 refine decide_eq_true ?_;have h32:i<32:=by
  rcases Ap i 32 with h|h
  ·exact h
  rw[B9 (BW hs (Bo (by omega) h))]at hb;cases hb
 exact Am.2 ⟨(i:Int),zWv.2 ⟨h32,hb⟩,by simp⟩
theorem best_some{A:List (List Nat×List Rw)}(hl:A.length<=32)(h:¬∃τ,SatA A τ):∃s,zJk A=Aw (memL s)/\MinC (alB A) (2^A.length-1) s:=by
 have hp:=BV A.length;have hal:alB A (2^A.length-1)=false:=by
  cases ha:alB A (2^A.length-1)
  ·rfl
  obtain⟨τ,hτ⟩:=zQi.1 ha;exact absurd ⟨τ,λa ha=>by
   obtain⟨i,hi,rfl⟩:=BU ha
   have:=hτ i hi (by rw[BO];exact decide_eq_true hi)
   rwa[Ao,Ar hi]at this⟩ h
 obtain⟨L,h1,h2⟩:=zXw A hl;obtain⟨m,hm,_⟩:=minc_ex (al:=alB A) (part:=2^A.length-1) _ _ (AU (2^A.length-1)) (Sub.refl _) hal;have hin:=(h2 (memL m)).2 ⟨m,hm,rfl⟩;cases hb:zJk A with
 |none=>
  rw[hb]at h1;have h1:L=[]:=h1;rw[h1]at hin;cases hin
 |some l=>
  rw[hb]at h1;obtain⟨s,hs,e⟩:=(h2 l).1 h1.1;exact⟨s,by rw[e],hs⟩
theorem best_rest{n:Nat}{A:List (List Nat×List Rw)}(h:AtOk n A){p:Rw}(hp:p.length<=n)(ha:ansB n A p=Ac):∃s,zJk (A.map (zAw p))=Aw (memL s)/\s<2^A.length/\minB (alB (A.map (zAw p))) A.length s=true:=by
 have hl:=h.l;have hno:¬∃τ,SatA (A.map (zAw p)) τ:=λ⟨τ,hτ⟩=>by
  have:=(zFd hp h.lt).2 ⟨τ,(zEw h.len τ).1 hτ⟩
  rw[zSv.2 this]at ha;cases ha
 obtain⟨s,h1,h2⟩:=best_some (A:=A.map (zAw p)) (by rw[An];omega) hno;rw[An]at h2;have h3:=sub_le h2.1;have hpw:=BV A.length;have hs:s<2^A.length:=by omega
 exact⟨s,h1,hs,(zPn (zHx _) hs).2 h2⟩
structure FirB(n:Nat)(A:List (List Nat×List Rw))(r p:Rw):Prop where
 l1:r.length<=p.length
 l2:p.length<=n
 t:p.take r.length=r
 a:Ans n A p
 m:∀z:Rw,z.length=n->SatA A (λv=>z.getD v Af)->z.take r.length=r->z.take p.length=p\/rcmp p (z.take p.length)<0
theorem zQ7:∀(p q:List Va)(a c:Va),p.length=q.length->rcmp p q<0->rcmp (p++[a]) (q++[c])<0
 |[],[],a,c,_,h=>by simp[rcmp]at h
 | x::p,y::q,a,c,hl,h=>by
  have ih:=zQ7 p q a c (by simpa using hl);simp only[rcmp,AM]at h⊢;split at h
  ·rename_i hv;rw[if_pos hv];exact ih h
  rename_i hv;rw[if_neg hv];exact h
theorem zM5:∀(p:List Va)(a c:Va),rcmp (p++[a]) (p++[c])=rcmp [a] [c]
 |[],a,c=>rfl
 |x::p,a,c=>by
  have h:rcmp (x::(p++[a])) (x::(p++[c]))=rcmp (p++[a]) (p++[c]):=zG7 1 _ _ (by simp) (by simp) rfl;rw[AM,AM,h,zM5 p a c]
theorem FirB.nil{n:Nat}{A:List (List Nat×List Rw)}{r:Rw}(hr:r.length<=n)(h:Ans n A r):FirB n A r r:=⟨AU _,hr,A3,h,λz _ _ ht=> .inl ht⟩
theorem FirB.none{n:Nat}{A:List (List Nat×List Rw)}{r p:Rw}(hA:AtOk n A)(h:FirB n A r p):∃τ,SatA (A.map (zAw p)) τ:=by
 obtain⟨τ,hτ⟩:=(zFd h.l2 hA.lt).1 h.a;exact⟨τ,(zEw hA.len τ).2 hτ⟩
theorem FirB.step{n:Nat}{A:List (List Nat×List Rw)}{r p:Rw}(hA:AtOk n A)(h:FirB n A r p)(hp:p.length<n){x:Va}(hx:LstV (A.map (zAw p)) x):FirB n A r (p++[x]):=by
 obtain⟨⟨τ,h0,hτ⟩,hmin⟩:=hx;have hl:(p++[x]).length=p.length+1:=by simp
 have h1:=h.l1;refine⟨by omega,by omega,?_,?_,λz z1 z2 z3=>?_⟩
 ·rw[CT h.l1];exact h.t
 ·refine(zFd (by omega) hA.lt).2 ⟨λv=>τ (v+1),?_⟩;have e:shf (p++[x]) (λv=>τ (v+1))=shf p τ:=by
   funext v;unfold shf;rw[hl];rcases CN v p.length with h2|h2|h2
   ·rw[if_pos (by omega),if_pos h2,Ao,CQ h2,Ao]
   ·subst h2;rw[if_pos (by omega),if_neg (by omega),Ao,CR (AU _),Nat.sub_self];exact h0.symm
   rw[if_neg (by omega),if_neg (by omega)];show τ (v-(p.length+1)+1)=τ (v-p.length);rw[show v-(p.length+1)+1=v-p.length by omega]
  rw[e];exact(zEw hA.len τ).1 hτ
 rw [hl];have ez:z.take (p.length+1)=z.take p.length++[z.getD p.length Af]:=by
  rw[Bm (by omega),Ao,Ar (by omega)];rfl
 rw[ez];rcases h.m z z1 z2 z3 with h4|h4
 ·rw [h4,zM5];have hs:SatA (A.map (zAw p)) λv=>z.getD (v+p.length) default:=by
   rw[zEw hA.len];have e:shf p (λv=>z.getD (v+p.length) Af)=λv=>z.getD v default:=by
    funext v;unfold shf;split
    ·rename_i hv;have h5:(z.take p.length)[v]?=p[v]?:=by rw[h4]
     rw[Cl,if_pos hv]at h5;rw[Ao,Ao,h5]
    rename_i hv;show z.getD (v-p.length+p.length) Af=z.getD v Af;rw[show v-p.length+p.length=v by omega]
   rw[e];exact z2
  rcases hmin _ hs with h5|h5
  ·left;rw[h5];show p++[z.getD p.length Af]=p++[z.getD (0+p.length) Af];rw[Cj]
  right;simp only[Cj]at h5;exact h5
 right;refine zQ7 _ _ _ _ ?_ h4;rw[AS];omega
def witL(A:List (List Nat×List Rw))(y:Rw):List (Nat×Rw):=(As A.length).map λi=>(i,zT y (A.getD i Af).1)
theorem zGv(A:List (List Nat×List Rw))(y:Rw):(witL A y).length=A.length:=by simp[witL]
theorem zZb(A:List (List Nat×List Rw))(y:Rw)(i:Nat)(h:i<A.length):(witL A y).take (i+1)=(witL A y).take i++[(i,zT y (A.getD i Af).1)]:=by
 rw[Bm (by rw[zGv];exact h)];congr 2;simp[witL]
end
section
open Go.RowKit
attribute [local irreducible] seqW awp zV zY zR Weak updS zZ retL Pure Acts rP setP setQ cP nP fr
set_option maxRecDepth 4096
set_option maxHeartbeats 1000000 in
theorem strR_c(a b:ByteArray)(ha:a.size<=3000000)(hb:b.size<=3000000):Pure Al 72 [.val (.string a), .val (.string b)] [] (.val (.int .i64 (strR a.data.toList b.data.toList))):=by
 refine zH zAg mixed Tryz.func72 rfl<|vAu<|zB<|vAe<|zG ?_;have sa:a.size=a.data.toList.length:=rfl;have sb:b.size=b.data.toList.length:=rfl;have sa':a.size=a.data.size:=rfl;have sb':b.size=b.data.size:=rfl;refine zP (λ(i:Nat)=>fr 37 [(0,Ay<|Cr a),(1,Ay<|Cr b),(5,iD i)]) (λ_=>[]) (λi=>a.size-i) (λi=>i<=a.size/\i<=b.size/\strR (a.data.toList.drop i) (b.data.toList.drop i)=strR a.data.toList b.data.toList) 0 ?_ ?_ ?_
 ·exact⟨by omega,by omega,by simp⟩
 ·refine vk 0
 rintro i ⟨h1,h2,h3⟩;focus
  refine zB<|vAs<|vrT 5<|vspD 10 ((i:Int)<↑(Bg a)) (λhc=>?_)<|λhc=>?_;refine veT<|vcD ((i:Int)<↑(Bg b)) (λhc=>?_)<|λhc=>?_;refine vKB<|zB<|zB<|vd [0,1,2,3,4,5,6]<|ve (((0:Int)<=(i:Int)/\(i:Int)<↑(Bg a))/\(0:Int)<=(i:Int)/\(i:Int)<↑(Bg b))<|vcD ((↑(Ct<|Cb (Cu a) i (0:UInt8)):Int)<(↑(Ct<|Cb (Cu b) i (0:UInt8)):Int)) (λhc=>?_)<|λhc=>?_;refine vAe<|zJ<|zF<|zN<|zF<|zF<|zN<|zF<|vre (True) (q0_) (.inr rfl) ?_;rotate_left;refine vK<|zB<|vd [0,1,2,3,4,5,6]<|ve (((0:Int)<=(i:Int)/\(i:Int)<↑(Bg a))/\(0:Int)<=(i:Int)/\(i:Int)<↑(Bg b))<|vcD ((↑(Ct<|Cb (Cu a) i (0:UInt8)):Int)>(↑(Ct<|Cb (Cu b) i (0:UInt8)):Int)) (λhc=>?_)<|λhc=>?_;refine vAe<|zJ<|zN<|zF<|zF<|zN<|zF<|vre (True) (q1_) (.inr rfl) ?_;rotate_left;refine zK<|zE<|vN<|zA rfl<|vr 3 (i6 (↑i+1))<|vnil<|zC ?_;rotate_left;refine vZ2<|vA<|ve (i6 ((↑(Bg a):Int)-(↑(Bg b):Int)))<|zJ<|vre (True) (Ay<|Ax AX ((↑(Bg a):Int)-(↑(Bg b):Int))) (.inr rfl) ?_;rotate_left;refine veT<|vf<|vZ2<|vA<|ve (i6 ((↑(Bg a):Int)-(↑(Bg b):Int)))<|zJ<|vre (True) (Ay<|Ax AX ((↑(Bg a):Int)-(↑(Bg b):Int))) (.inr rfl) ?_;rotate_left
 ·rw[<-h3,zK6 (i:=i) (by omega) (by omega),if_pos (by rw[Cc];omega)]
 ·rw[<-h3,zK6 (i:=i) (by omega) (by omega),if_neg (by rw[Cc];omega),if_pos (by rw[Cc];omega)]
 ·refine⟨i+1,⟨by omega,by omega,?_⟩,by omega,?_⟩
  ·rw[<-h3,zK6 (i:=i) (by omega) (by omega),if_neg (by rw[Cc];omega),if_neg (by rw[Cc];omega)]
  refine vk 0
 all_goals rw [<-h3,strR_end (by omega) (by omega) (by omega)];rfl
theorem zZi(a b:Va)(ha:a.str.length<=3000000)(hb:b.str.length<=3000000):Pure Al 51 [vaD a,vaD b] [] (iD (vcmp a b)):=by
 have hs:=strR_c (bs a.str) (bs b.str) ha hb;rw[bs_data,bs_data]at hs;have h4:=zQr a.str b.str;unfold vcmp cmpD;generalize strR a.str b.str=z at*;generalize BM a.str b.str=y at*;obtain⟨ak,ai,as'⟩:=a;obtain⟨bk,bi,bs'⟩:=b;refine zH zAg mixed Tryz.func51 rfl ?_;focus
  refine vAu<|zB<|vA<|ve (True/\0<3/\True/\0<3/\True)<|zAr (t:=ak !=bk) (by kernel_rfl) (λhc=>?_)<|λhc=>?_;simp only[bne_iff_ne]at hc;refine zB<|vA<|ve (True/\0<3/\True/\0<3)<|vcD (ak<bk) (λhc=>?_)<|λhc=>?_;refine vAe<|zJ<|zF<|zF<|vre (True) (q0_) (.inr rfl) ?_;rotate_left;refine vK<|vAe<|zJ<|zF<|vre (True) (q1_) (.inr rfl) ?_;rotate_left;simp only[bne_eq_false_iff_eq]at hc;refine vK<|zB<|vA<|ve (True/\0<2/\True/\0<2/\True)<|zAr (t:=ai !=bi) (by kernel_rfl) (λhc=>?_)<|λhc=>?_;simp only[bne_iff_ne]at hc;refine zB<|vA<|ve (True/\0<2/\True/\0<2)<|vcD (ai<bi) (λhc=>?_)<|λhc=>?_;refine vAe<|zJ<|zF<|zF<|vre (True) (q0_) (.inr rfl) ?_;rotate_left;refine vK<|vAe<|zJ<|zF<|vre (True) (q1_) (.inr rfl) ?_;rotate_left;simp only[bne_eq_false_iff_eq]at hc;refine vK<|vA<|vr 4 (True/\0<1/\True/\0<1)<|vc hs<|veT<|zB<|vAe<|vcD (z<0) (λhc=>?_)<|λhc=>?_;refine vAe<|zJ<|zF<|vre (True) (q0_) (.inr rfl) ?_;rotate_left;refine vK<|zB<|vAe<|vcD (z>(0:Int)) (λhc=>?_)<|λhc=>?_;refine vAe<|zJ<|zF<|vre (True) (q1_) (.inr rfl) ?_;rotate_left;refine vK<|vAe<|zJ<|vre (True) (q2_) (.inr rfl) ?_;rotate_left
 all_goals (refine congrArg (λz=>iD z) ?_;simp only;(repeat' split)<;>omega)
def Sho(r:Rw):Prop:=r.length<=1000000/\∀v∈r,v.str.length<=3000000
theorem Sho.at{r:Rw}(h:Sho r){i:Nat}(hi:i<r.length):(r.getD i Af).str.length<=3000000:=by
 rw[Ao,Ar hi];exact h.2 _ (Bl hi)
set_option maxHeartbeats 1000000 in
theorem rcmpR_c(a b:Rw)(n m:Nat)(hn:a.length=n)(hm:b.length=m)(ha:Sho a)(hb:Sho b):Pure Al 24 [.row (zL a) n, .row (zL b) m] [] (iD (rcmp a b)):=by
 subst hn hm;have ha1:=ha.1;have hb1:=hb.1;refine zH zAg mixed Tryz.func24 rfl<|vAu<|zB<|vAe<|zG<|zP (λ(i:Nat)=>fr 41 [(0,Ae (zL a)<|Aa a),(1,Ae (zL b)<|Aa b),(5,iD (i:Int))]) (λ_=>[]) (λi=>a.length-i) (λi=>i<=a.length/\i<=b.length/\a.take i=b.take i) 0 ?_ ?_ ?_
 ·exact⟨by omega,by omega,by simp⟩
 ·refine vk 0
 rintro i ⟨h1,h2,h3⟩;by_cases h4:i<a.length/\i<b.length
 ·have hc:=zZi _ _ (ha.at h4.1) (hb.at h4.2);by_cases hz:vcmp (a.getD i Af) (b.getD i Af)=0
  ·rw[hz]at hc;have he:=(zBs _ _).2.1.1 hz;refine zB<|vAs<|vew [] [(4,Ab)] (decide ((i:Int)<↑(Aa a))=Ab)<|vT ((i:Int)<↑(Aa b))<|vKB<|zB<|vd [0,1,2,4,5,6,3,7,8,9]<|vr 7 (ix ↑i ↑(Aa a) (zL a≠[])/\ix ↑i ↑(Aa b) (zL b≠[])/\3<=Aa (Ag (i*3)<|zL a)) ?_ ⟨⟨(by omega),⟨(by omega),(by exact zCj _)⟩⟩,⟨(by omega),⟨(by omega),(by exact zCj _)⟩⟩,(by exact zB1 _ _)⟩;refine vs 22 (Aq<|Ai 3<|Ag (i*3)<|zL a) (Aq<|vaC<|AN a i Af) (hd:=by simp(disch:=omega) only[zBe])<|vr 1 (3<=Aa (Ag (i*3)<|zL b)) (vs 26 (Aq<|Ai 3<|Ag (i*3)<|zL b) (Aq<|vaC<|AN b i Af) (hd:=by simp(disch:=omega) only[zBe])<|vc hc<|veT<|vAe<|vf<|zK<|zE<|vN<|zA rfl ?_) (by exact zB1 _ _);refine vr 3 (i6 (↑i+1))<|vnil<|zC<|⟨i+1,⟨by omega,by omega,?_⟩,by omega,?_⟩
   ·rw[Bm h4.1,Bm h4.2,h3];rw[Ao,Ar h4.1,Ao,Ar h4.2]at he;have he:a[i]=b[i]:=he;rw[he]
   refine vk 0
  have hr:=rcmp_at i a b h4.1 h4.2 h3 hz;rw[hr];generalize vcmp (a.getD i Af) (b.getD i Af)=y at*;refine zB<|vAs<|vew [] [(4,Ab)] (decide ((i:Int)<↑(Aa a))=Ab)<|vT ((i:Int)<↑(Aa b))<|vKB<|zB<|vd [0,1,2,4,5,6,3,7,8,9]<|vr 7 (ix ↑i ↑(Aa a) (zL a≠[])/\ix ↑i ↑(Aa b) (zL b≠[])/\3<=Aa (Ag (i*3)<|zL a)) ?_ ⟨⟨(by omega),⟨(by omega),(by exact zCj _)⟩⟩,⟨(by omega),⟨(by omega),(by exact zCj _)⟩⟩,(by exact zB1 _ _)⟩;refine vs 22 (Aq<|Ai 3<|Ag (i*3)<|zL a) (Aq<|vaC<|AN a i Af) (hd:=by simp(disch:=omega) only[zBe])<|vr 1 (3<=Aa (Ag (i*3)<|zL b)) (vs 26 (Aq<|Ai 3<|Ag (i*3)<|zL b) (Aq<|vaC<|AN b i Af) (hd:=by simp(disch:=omega) only[zBe])<|vc hc<|veT<|vAe<|zDo (t:=y !=(0:Int)) (by kernel_rfl) (by simpa using by omega)<|vAe<|zJ<|zN ?_) (by exact zB1 _ _);refine zF<|zF<|zN<|zF<|vret (True)<|.inr rfl
 have hd:=zG7 i a b h1 h2 h3;rw[hd];rcases CN a.length b.length with h5|h5|h5
 ·obtain rfl:i=a.length:=by omega
  have e:rcmp (a.drop a.length) (b.drop a.length)=-1:=by
   rw[CO,BK h5];rfl
  rw[e];refine zB<|vAs<|vew [] [(4,Ac)] (decide ((Aa a:Int)<(Aa a:Int))=Ac)<|vf<|vZ2<|zB<|vAe<|vT ((Aa a:Int)<↑(Aa b))<|vAe<|zJ<|zF<|vret (True)<|.inr rfl
 ·obtain rfl:i=a.length:=by omega
  have e:rcmp (a.drop a.length) (b.drop a.length)=0:=by
   rw[CO,List.drop_eq_nil_of_le (by omega)];rfl
  rw[e];refine zB<|vAs<|vew [] [(4,Ac)] (decide ((Aa a:Int)<(Aa a:Int))=Ac)<|vf<|vZ2<|zB<|vAe<|vF ((Aa a:Int)<↑(Aa b))<|vK<|zB<|vAe<|vF ((Aa a:Int)>(Aa b:Int))<|vK<|vAe<|zJ<|vret (True)<|.inr rfl
 obtain rfl:i=b.length:=by omega
 have e:rcmp (a.drop b.length) (b.drop b.length)=1:=by
  rw[CO,BK h5];rfl
 rw[e];refine zB<|vAs<|vew [] [(4,Ab)] (decide ((Aa b:Int)<(Aa a:Int))=Ab)<|vF ((Aa b:Int)<↑(Aa b))<|vZ2<|zB<|vAe<|vF ((Aa a:Int)<↑(Aa b))<|vK<|zB<|vAe<|vT ((Aa a:Int)>(Aa b:Int))<|vAe<|zJ<|zF<|vret (True)<|.inr rfl
abbrev rrB(l:List D):Bk:=⟨l,55,1,Ab,Ac, .plain⟩
theorem zHn(L:List Rw)(i:Nat)(h:i<L.length):((L.map rowV).drop i).headD .unk=rowV (L.getD i []):=zA0 rowV L [] i h
set_option maxHeartbeats 1000000 in
theorem searchR_c(L:List Rw)(x:Rw)(n k:Nat)(hn:L.length=n)(hk:x.length=k)(ln:n<=1000000)(hL:∀y∈L,Sho y)(hx:Sho x):Pure Al 133 [.row (L.map rowV) n, .row (zL x) k] [] (.tup [iD (cntR L x:Nat),bD (decide (x∈L))]):=by
 subst hn hk;refine zH zAg mixed Tryz.func133 rfl<|vAu<|vAe<|vAe<|zB<|vAe<|zG<|zBd (λ(i:Nat)(c:Nat)(b:Bool)=>fr 30 [(0,Ae (Ad rowV L)<|Aa L),(1,Ae (zL x)<|Aa x),(4,iD 0),(5,bD Ac),(6,iD (c:Int)),(7,bD b),(8,iD (i:Int))]) (λ(i:Nat)(c:Nat)(b:Bool)=>[]) (λi c b=>L.length-i) (λ(i:Nat)(c:Nat)(b:Bool)=>i<=L.length/\c=cntR (L.take i) x/\b=decide (x∈L.take i)) 0 0 Ac ?_ ?_ ?_
 ·exact⟨by omega,rfl,by simp⟩
 ·refine vk 0
 rintro i c b ⟨h1,h2,h3⟩;rcases Ap i L.length with h4|h4
 ·have hg:=zHn L i h4;have hne:L.map rowV≠[]:=zAa;have hin:=zAc L [] i h4;have hc:=rcmpR_c (L.getD i []) x _ _ rfl rfl (hL _ hin) hx;have hci:c<=i:=by
   rw[h2];refine AE (zTp _ _) ?_;rw[AS];omega
  have htk:L.take (i+1)=L.take i++[L.getD i []]:=by
   rw[Bm h4,Ao,Ar h4];rfl
  have e1:cntR (L.take (i+1)) x=if rcmp (L.getD i []) x<0 then c+1 else c:=by
   rw[htk,h2];unfold cntR;rw[BB,AV,Bq];by_cases hh:rcmp (L.getD i []) x<0
   ·rw[if_pos hh,decide_eq_true hh];rfl
   rw[if_neg hh,decide_eq_false hh];rfl
  have e2:decide (x∈L.take (i+1))=(b||decide (rcmp (L.getD i []) x=0)):=by
   rw[htk,h3,BD];simp only[Br,A0,decide_eq_true_eq,Bc];rw[(zBt (L.getD i []) x).2.1];exact or_congr Iff.rfl eq_comm
  have hv:=(zBt (L.getD i []) x).1;generalize rcmp (L.getD i []) x=z at*;generalize L.getD i []=y at*;rcases hv with rfl|rfl|rfl
  ·refine zB<|vAu<|vT ((i:Int)<(Aa L:Int))<|vKB<|vA<|vr 3 (ix (i:Int) (Aa L:Int) (Ad rowV L≠[]))<|vp 18 (i) (Ad rowV L)<|vr 1 (0<Aa (Ag i<|Ad rowV L))<|vsh 19 hg<|vrT 1<|vc (hc)<|veT<|zB<|vAe<|vt<|zA rfl<|ve (i6 ((c:Int)+(1:Int)))<|vAe<|vf<|zK<|zE<|vN<|zA rfl<|vr 3 (i6 ((i:Int)+(1:Int)))<|vnil<|zC<|⟨i+1,c+1,b,⟨by omega,by rw[e1];rfl,by rw[e2];simp⟩,by omega,?_⟩;refine vk 0
  ·refine zB<|vAu<|vT ((i:Int)<(Aa L:Int))<|vKB<|vA<|vr 3 (ix (i:Int) (Aa L:Int) (Ad rowV L≠[]))<|vp 18 (i) (Ad rowV L)<|vr 1 (0<Aa (Ag i<|Ad rowV L))<|vsh 19 hg<|vrT 1<|vc (hc)<|veT<|zB<|vAe<|vf<|vK<|vAe<|vt<|zA rfl<|vrT 1<|vnil<|zE<|vN<|zA rfl<|vr 3 (i6 ((i:Int)+(1:Int)))<|vnil<|zC<|⟨i+1,c,Ab,⟨by omega,by rw[e1];rfl,by rw[e2];simp⟩,by omega,?_⟩;refine vk 0
  refine zB<|vAu<|vT ((i:Int)<(Aa L:Int))<|vKB<|vA<|vr 3 (ix (i:Int) (Aa L:Int) (Ad rowV L≠[]))<|vp 18 (i) (Ad rowV L)<|vr 1 (0<Aa (Ag i<|Ad rowV L))<|vsh 19 hg<|vrT 1<|vc (hc)<|veT<|zB<|vAe<|vf<|vK<|vAe<|vf<|zK<|zE<|vN<|zA rfl<|vr 3 (i6 ((i:Int)+(1:Int)))<|vnil<|zC<|⟨i+1,c,b,⟨by omega,by rw[e1];rfl,by rw[e2];simp⟩,by omega,?_⟩;refine vk 0
 obtain rfl:i=L.length:=by omega
 rw[A3]at h2 h3;subst h2 h3;refine zB<|vAu<|vF ((Aa L:Int)<↑(Aa L))<|vZ2<|vAe<|zJ<|vret (True)<|.inr rfl
set_option maxHeartbeats 1000000 in
theorem insertR_c(L:List Rw)(x:Rw)(n k:Nat)(hn:L.length=n)(hk:x.length=k)(ln:n<=100000)(hL:∀y∈L,Sho y)(hx:Sho x):Pure Al 93 [.row (L.map rowV) n, .row (zL x) k] [] (.row ((insR L x).map rowV) (insR L x).length):=by
 subst hn hk;have hs:=searchR_c L x _ _ rfl rfl (by omega) hL hx;have hle:=zTp L x;unfold insR;by_cases hm:x∈L
 ·rw[if_pos hm];rw[decide_eq_true hm]at hs;refine zH zAg mixed Tryz.func93 rfl<|vAu<|vA<|vrT 2<|vc (hs)<|ve (0<2/\1<2)<|zB<|vAe<|vt<|vAe<|zJ<|zF<|vret (True)<|.inr rfl
 rw[if_neg hm];rw[decide_eq_false hm]at hs;generalize cntR L x=c at*;have e1:(L.map rowV).take c=(L.take c).map rowV:=by rw[CM]
 have e2:(L.map rowV).drop c=(L.drop c).map rowV:=by rw[List.map_drop]
 have e3:((L.drop c).map rowV).take (L.length-c)=(L.drop c).map rowV:=AQ (by rw[An,Bn];exact AU _);have l1:((L.take c).map rowV).length=c:=by rw[An,AS];omega
 have l2:((L.drop c).map rowV).length=L.length-c:=by rw[An,Bn]
 have l3:(L.take c++x::L.drop c).length=c+1+(L.length-c):=by simp;omega
 have e4:((L.take c).map rowV++[Ae (zL x) x.length]++(L.drop c).map rowV).take (c+1+(L.length-c))=(L.take c++x::L.drop c).map rowV:=by
  rw[AQ (by simp;omega)];simp[rowV]
 rw[<-e4,l3];refine zH zAg mixed Tryz.func93 rfl<|vAu<|vA<|vrT 2<|vc (hs)<|ve (0<2/\1<2)<|zB<|vAe<|vf<|vK<|vAe<|vA<|vr 4 (True/\(0:Int)<=(c:Int)/\True/\0<1/\0<=Aj (c:Int)/\Aj (c:Int)<=Aa L/\Aj (c:Int)=Aj (c:Int))<|vs 19 (Ae (Ai ((Aj (c:Int)-0)*1)<|Ag 0<|Ad rowV L) (Aj (c:Int)-0)) (Ae (Ad rowV<|Ai c L) c) (hd:=by simp(disch:=omega) only[Au,Ca,A_,AJ,e1])<|vr 2 (Aa (Ad rowV<|Ai c L)=c*1/\0<1/\0<24/\55=55/\c*24<=140737488355328/\1=1)<|vs 7 (Ak 0 0 c (c*1) Ab) (Ak 0 0 c c Ab) (hd:=by simp(disch:=omega) only[A_])<|veT<|vA<|vr 5 (((1=1/\1<=1/\True)/\0<1/\1=1/\1<=16777216/\1<=9223372036854775807)/\Bi (Av (Ad rowV<|Ai c L) 55 1 Ab Ac<|kdOf Ac)=Ab/\Aa (Ad rowV<|Ai c L)=c*1/\c=c*1/\A8 (Av (Ad rowV<|Ai c L) 55 1 Ab Ac<|kdOf Ac)=55/\A9 (Av (Ad rowV<|Ai c L) 55 1 Ab Ac<|kdOf Ac)=1/\1=1/\0<1/\0<24/\55=55/\(c+1)*24<=140737488355328/\1=1/\A4 (AI<|Av (Ad rowV<|Ai c L) 55 1 Ab Ac<|kdOf Ac)=Ac/\(Ac=Ac\/A5 (AI<|Av (Ad rowV<|Ai c L) 55 1 Ab Ac<|kdOf Ac)=Ab))<|vs 7 (Ak 0 0 (c+1) ((c+1)*1) Ab) (Ak 0 0 (c+1) (c+1) Ab) (hd:=by simp(disch:=omega) only[A_])<|veT<|vA<|vr 4 ((0:Int)<=(c:Int)/\True/\True/\0<1/\Aj (c:Int)<=Aa L/\Aa L<=Aa L/\Aa L=Aa L)<|vs 28 (Ae (Ai ((Aa L-Aj (c:Int))*1)<|Ag (Aj (c:Int)*1)<|Ad rowV L) (Aa L-Aj (c:Int))) (Ae (Ad rowV<|Ag c L) (Aa L-c)) (hd:=by simp(disch:=omega) only[Au,A_,e2,e3])<|vr 2 (Bi (Av (Ad rowV (Ai c L)++[Ae (zL x)<|Aa x]) 55 1 Ab Ac<|kdOf Ac)=Ab/\Aa (Ad rowV (Ai c L)++[Ae (zL x)<|Aa x])=(c+1)*1/\c+1=(c+1)*1/\A8 (Av (Ad rowV (Ai c L)++[Ae (zL x)<|Aa x]) 55 1 Ab Ac<|kdOf Ac)=55/\A9 (Av (Ad rowV (Ai c L)++[Ae (zL x)<|Aa x]) 55 1 Ab Ac<|kdOf Ac)=1/\Aa (Ad rowV<|Ag c L)=(Aa L-c)*1/\0<1/\0<24/\55=55/\(c+1+(Aa L-c))*24<=140737488355328/\1=1/\A4 (AI<|Av (Ad rowV (Ai c L)++[Ae (zL x)<|Aa x]) 55 1 Ab Ac<|kdOf Ac)=Ac/\(Ac=Ac\/A5 (AI<|Av (Ad rowV (Ai c L)++[Ae (zL x)<|Aa x]) 55 1 Ab Ac<|kdOf Ac)=Ab))<|vs 4 (Ak 0 0 (c+1+(Aa L-c)) ((c+1+(Aa L-c))*1) Ab) (Ak 0 0 (c+1+(Aa L-c)) (c+1+(Aa L-c)) Ab) (hd:=by simp(disch:=omega) only[A_])<|veT<|zJ<|vret (True)<|.inr rfl
theorem Sho.pick{r:Rw}(h:Sho r)(cols:List Nat)(hc:cols.length<=1000000):Sho (cols.map λc=>r.getD c Af):=by
 refine⟨by rw[An];exact hc,λv hv=>?_⟩;obtain⟨c,_,rfl⟩:=Am.1 hv;rcases Ap c r.length with h1|h1
 ·exact h.at h1
 rw[Ao,List.getElem?_eq_none h1];exact BG _
set_option maxHeartbeats 2000000 in
theorem zYf(R:List Rw)(cols:List Nat)(n k:Nat)(hn:R.length=n)(hk:cols.length=k)(ln:n<=10000)(lk:k<=1000)(hR:∀y∈R,Sho y/\∀c∈cols,c<y.length):Pure Al 70 [.row (R.map rowV) n, .row (nsD cols) k] [] (.row ((prjL cols R).map rowV) (prjL cols R).length):=by
 subst hn hk;refine zH zAg mixed Tryz.func70 rfl<|vAu<|vAe<|zB<|vAe<|zG<|zP (λ(i:Nat)=>fr 38 [(0,Ae (Ad rowV R)<|Aa R),(1,Ae (nsD cols)<|Aa cols),(4,nl),(5,Ae (Ad rowV<|prjL cols<|Ai i R)<|Aa<|prjL cols<|Ai i R),(6,iD (i:Int))]) (λ(i:Nat)=>[]) (λi=>R.length-i) (λ(i:Nat)=>i<=R.length) 0 ?_ ?_ ?_
 ·omega
 ·refine vk 0
 rintro i h1;rcases Ap i R.length with h4|h4
 ·have hg:=zHn R i h4;have hne:R.map rowV≠[]:=zAa;obtain⟨s1,s2⟩:=hR _ (zAc R [] i h4);have htk:R.take (i+1)=R.take i++[R.getD i []]:=by
   rw[Bm h4,Ao,Ar h4];rfl
  have hsn:=prjL_snoc cols (R.take i) (R.getD i []);rw[<-htk]at hsn;obtain⟨p1,p2,p3,p4⟩:=zRg cols (R.take i);rw[AS]at p2;have hsh:∀y∈prjL cols (R.take i),Sho y:=λy hy=>by
   obtain⟨r,hr,rfl⟩:=(p3 y).1 hy;exact(hR r (List.mem_of_mem_take hr)).1.pick cols (by omega)
  have hin:=insertR_c (prjL cols (R.take i)) (cols.map λc=>(R.getD i []).getD c Af) _ _ rfl (An _) (by omega) hsh (s1.pick cols (by omega));rw[<-hsn]at hin;generalize prjL cols (R.take i)=L at*;generalize R.getD i []=y at*;refine zB<|vAu<|vT ((i:Int)<↑(Aa R))<|vKB<|vAe<|zB<|vAe<|zG<|zP (λ(j:Nat)=>fr 38 [(0,Ae (Ad rowV R)<|Aa R),(1,Ae (nsD cols)<|Aa cols),(4,nl),(5,Ae (Ad rowV L)<|Aa L),(6,iD i),(7,Ak 0 0 j (j*3) Ab),(8,iD j)]) (λ(j:Nat)=>[⟨zL ((cols.take j).map λc=>y.getD c Af),95,3,Ab,Ac,.plain⟩]) (λj=>cols.length-j) (λ(j:Nat)=>j<=cols.length) 0 ?_ ?_ ?_
  ·omega
  ·refine vk 0
  rintro j j1;have hl3:(zL ((cols.take j).map λc=>y.getD c Af)).length=j*3:=by
   rw[zAe,An,AS,Cd j1]
  rcases Ap j cols.length with j2|j2
  ·have hx:=zAq cols j j2;have hn1:nsD cols≠[]:=zAa;have hcy:=s2 _ (zAc cols 0 j j2);have hcs:zL ((cols.take (j+1)).map λc=>y.getD c Af)=zL ((cols.take j).map λc=>y.getD c Af)++vaC (y.getD (cols.getD j 0) Af):=by
    rw[zAs cols j j2,Bb,zCq];simp[zL]
   generalize zL ((cols.take j).map λc=>y.getD c Af)=q at*;generalize cols.getD j 0=c at*;have htv:=zBe y c (by omega);have hva:=zCj y;have hv3:=zB1 y c;refine zB<|vAu<|vT ((j:Int)<↑(Aa cols))<|vKB<|vd [0,1,2,3,5,6,7,4,8,9,10,11,12,13]<|vr 4 (ix ↑i ↑(Aa R) (Ad rowV R≠[]))<|vp 24 i (Ad rowV R)<|vr 3 (ix ↑j ↑(Aa cols) (nsD cols≠[]))<|vp 28 j (nsD cols)<|vr 1 (0<Aa (Ag i<|Ad rowV R))<|vsh 25 hg<|vr 1 (0<Aa (Ag j<|nsD cols))<|vsh 29 hx<|vr 2 (ix ↑c ↑(Aa y) (zL y≠[])/\3<=Aa (Ag (c*3)<|zL y))<|vs 31 (Aq<|Ai 3<|Ag (c*3)<|zL y) (Aq<|vaC<|AN y c Af) (hd:=by simp(disch:=omega) only[htv])<|vr 3 (((3=3/\3<=3/\True)/\0<3/\3=3/\3<=16777216/\1<=9223372036854775807)/\Ab=Ab/\Aa q=j*3/\j*3=j*3/\95=95/\3=3/\3=3/\0<3/\0<32/\95=95/\(j+1)*32<=140737488355328/\3=3/\A4 Az=Ac/\(Ac=Ac\/A5 Az=Ab))<|vnil<|zE<|vN<|zA rfl<|vr 3 (i6 (↑j+1))<|vnil<|zC<|⟨j+1,by omega,by omega,?_⟩;rw[hcs];refine vk 1
  obtain rfl:j=cols.length:=by omega
  rw[A3]at hl3⊢;have ht:(zL (cols.map λc=>y.getD c Af)).take (cols.length*3)=zL (cols.map λc=>y.getD c Af):=AQ (by omega);refine zB<|vAu<|vF ((Aa cols:Int)<↑(Aa cols))<|vZ2<|zA rfl<|vrT 2<|vcl [Ae (Ad rowV L)<|Aa L,Ae (Ai (Aa cols*3)<|Ag 0<|zL<|Ad (λ(c:Nat)=>AN y c Af) cols)<|Aa cols] [Ae (Ad rowV L)<|Aa L,Ae (zL<|Ad (λ(c:Nat)=>AN y c Af) cols)<|Aa cols] (LeL.of_eq (by simp(disch:=omega) only[AJ,ht])) (by exact hin)<|vrT 1<|vnil<|zE<|vN<|zA rfl<|vr 3 (i6 (↑i+1))<|vnil<|zC<|⟨i+1,by omega,by omega,?_⟩;refine vk 0
 obtain rfl:i=R.length:=by omega
 rw[A3];refine zB<|vAu<|vF ((Aa R:Int)<↑(Aa R))<|vZ2<|vAe<|zJ<|vret (True)<|.inr rfl
abbrev rvK(l:List D):Bk:=⟨l,95,3,Ab,Ac, .plain⟩
theorem rowL_c(r:Rw)(n:Nat)(hn:r.length=n)(hb:n<=2000000):Pure Al 15 [.row (zL r) n] [] (.row (zL r) n):=by
 subst hn;refine zH zAg mixed Tryz.func15 rfl<|vAu<|vAe<|zB<|vAe<|zG<|zP (λ(i:Nat)=>fr 18 [(2,nl),(3,Ak 0 0 i (i*3) Ab),(6,Ae (zL r)<|Aa r),(7,iD (Aa r:Int)),(8,iD (i:Int))]) (λ(i:Nat)=>[rvK<|zL<|r.take i]) (λi=>r.length-i) (λ(i:Nat)=>i<=r.length) 0 ?_ ?_ ?_
 ·omega
 ·refine vk 0
 rintro i h1;have hl3:(zL (r.take i)).length=i*3:=by rw[zAe,AS,Cd h1]
 rcases Ap i r.length with h2|h2
 ·have hcs:zL (r.take (i+1))=zL (r.take i)++vaC (r.getD i Af):=by
   rw[zAs r i h2,zCq];simp[zL]
  generalize zL (r.take i)=q at*;have htv:=zBe r i h2;have hva:=zCj r;have hv3:=zB1 r i (h:=h2);refine vAu<|zB<|vT ((i:Int)<↑(Aa r))<|vKB<|vA<|vr 2 (ix ↑i ↑(Aa r) (zL r≠[])/\3<=Aa (Ag (i*3)<|zL r))<|vs 11 (Aq<|Ai 3<|Ag (i*3)<|zL r) (Aq<|vaC<|AN r i Af) (hd:=by simp(disch:=omega) only[htv])<|ve (Ac=Ac/\Ab=Ab/\3=3/\3<=3)<|zA rfl<|vr 5 (3<=3/\((3=3/\3<=3/\True)/\0<3/\3=3/\3<=16777216/\1<=9223372036854775807)/\Bi (rvK q)=Ab/\Aa (AG<|rvK q)=i*3/\i*3=i*3/\A8 (rvK q)=95/\A9 (rvK q)=3/\3=3/\0<3/\0<32/\95=95/\(i+1)*32<=140737488355328/\3=3/\A4 (AI<|rvK q)=Ac/\(Ac=Ac\/A5 (AI<|rvK q)=Ab))<|vnil<|zE<|vN<|zA rfl<|vr 2 (i6 (↑i+1))<|vnil<|zC<|⟨i+1,by omega,by omega,?_⟩;rw[hcs];refine vk 1
 obtain rfl:i=r.length:=by omega
 rw[A3];rw[A3]at hl3;have ht:(zL r).take (r.length*3)=zL r:=AQ (by omega);refine vAu<|zB<|vF ((Aa r:Int)<↑(Aa r))<|vZ2<|vAe<|zJ<|zAu (True) (Ae (Ai (Aa r*3)<|Ag 0<|AG<|rvK<|zL r)<|Aa r) (Ae (zL r)<|Aa r) (.inr rfl) (by simp(disch:=omega) only[AJ,ht]) rfl
theorem rowsL_c(L:List Rw)(n:Nat)(hn:L.length=n)(hb:n<=2000000)(hl:∀r∈L,r.length<=2000000):Pure Al 41 [.row (L.map rowV) n] [] (.row (L.map rowV) n):=by
 subst hn;refine zH zAg mixed Tryz.func41 rfl<|vAu<|vAe<|zB<|vAe<|zG<|zP (λ(i:Nat)=>fr 19 [(2,nl),(3,Ak 0 0 i i Ab),(6,Ae (Ad rowV L)<|Aa L),(7,iD (Aa L:Int)),(8,iD (i:Int))]) (λ(i:Nat)=>[rrB<|(L.take i).map rowV]) (λi=>L.length-i) (λ(i:Nat)=>i<=L.length) 0 ?_ ?_ ?_
 ·omega
 ·refine vk 0
 rintro i h1;have hl1:((L.take i).map rowV).length=i:=by rw[An,AS,Cd h1]
 rcases Ap i L.length with h2|h2
 ·have hg:=zHn L i h2;have hne:L.map rowV≠[]:=zAa;have hrl:=rowL_c (L.getD i []) _ rfl (hl _ (zAc L [] i h2));have hcs:(L.take (i+1)).map rowV=(L.take i).map rowV++[rowV (L.getD i [])]:=by
   rw[Bm h2,Bb,Ao,Ar h2];rfl
  generalize (L.take i).map rowV=q at*;generalize L.getD i []=r at*;refine vAu<|zB<|vT ((i:Int)<↑(Aa L))<|vKB<|vA<|vr 1 (ix ↑i ↑(Aa L) (Ad rowV L≠[]))<|vp 10 i (Ad rowV L)<|vr 1 (0<Aa (Ag i<|Ad rowV L))<|vsh 11 hg<|veT<|zA rfl<|vrT 2<|vc hrl<|vr 3 (((1=1/\1<=1/\True)/\0<1/\1=1/\1<=16777216/\1<=9223372036854775807)/\Bi (rrB q)=Ab/\Aa (AG<|rrB q)=i*1/\i=i*1/\A8 (rrB q)=55/\A9 (rrB q)=1/\1=1/\0<1/\0<24/\55=55/\(i+1)*24<=140737488355328/\1=1/\A4 (AI<|rrB q)=Ac/\(Ac=Ac\/A5 (AI<|rrB q)=Ab))<|vs 3 (Ak 0 0 (i+1) ((i+1)*1) Ab) (Ak 0 0 (i+1) (i+1) Ab) (hd:=by simp(disch:=omega) only[A_])<|vnil<|zE<|vN<|zA rfl<|vr 2 (i6 (↑i+1))<|vnil<|zC<|⟨i+1,by omega,by omega,?_⟩;rw[hcs];refine vk 1
 obtain rfl:i=L.length:=by omega
 rw[A3];have ht:(L.map rowV).take L.length=L.map rowV:=AQ (by simp);refine vAu<|zB<|vF ((Aa L:Int)<↑(Aa L))<|vZ2<|vAe<|zJ<|zAu (True) (Ae (Ai (Aa L)<|Ag 0<|AG<|rrB<|Ad rowV L)<|Aa L) (Ae (Ad rowV L)<|Aa L) (.inr rfl) (by simp(disch:=omega) only[AJ,ht]) rfl
def grtR(r:Rw):Bool:=decide (8<r.length)||r.any λv=>decide (60<v.str.length)
theorem great_c(r:Rw)(hb:r.length<=2000000)(hs:∀v∈r,v.str.length<=2000000):Pure Al 31 [.row [rowV r] 1] [] (bD (grtR r)):=by
 refine zH zAg mixed Tryz.func31 rfl<|vAu<|zB<|vAe<|zG<|zP (λ(i:Nat)=>fr 31 [(0,Ae [rowV r] 1),(7,Ae [Ae (zL r)<|Aa r] 1),(8,iD (↑(1:Nat):Int)),(9,iD (i:Int))]) (λ(i:Nat)=>[]) (λi=>1-i) (λ(i:Nat)=>i=0\/i=1/\grtR r=Ac) 0 ?_ ?_ ?_
 ·exact .inl rfl
 ·refine vk 0
 rintro i (rfl|⟨rfl,h2⟩);case inr=>
  rw[h2];refine vAu<|zB<|vf<|vZ2<|vAe<|zJ<|vret (True)<|.inr rfl
 by_cases h8:8<r.length
 ·have hg:grtR r=true:=by unfold grtR;rw[decide_eq_true h8];rfl
  rw[hg];refine vAu<|zB<|vt<|vKB<|vA<|ve (ix ↑(0:Nat) ↑(1:Nat) ([(q3_ r)]≠[])/\0<1)<|zB<|vAe<|vT ((Aa r:Int)>(8:Int))<|vAe<|zJ<|zF<|zN<|zF<|zF<|zN ?_;refine zF<|vret (True)<|.inr rfl
 have hg:grtR r=r.any λv=>decide (60<v.str.length):=by unfold grtR;rw[decide_eq_false h8,Ch]
 rw[hg];refine vAu<|zB<|vt<|vKB<|vA<|ve (ix ↑(0:Nat) ↑(1:Nat) ([(q3_ r)]≠[])/\0<1)<|zB<|vAe<|vF ((Aa r:Int)>(8:Int))<|vK<|vAe<|zG<|zP (λ(j:Nat)=>fr 31 [(0,Ae [rowV r] 1),(7,Ae [(q3_ r)] 1),(8,iD ↑(1:Nat)),(9,iD ↑(0:Nat)),(16,(q3_ r)),(17,iD<|Aa r),(18,iD j)]) (λ(j:Nat)=>[]) (λj=>r.length-j) (λ(j:Nat)=>j<=r.length/\(r.take j).any (λv=>decide (60<v.str.length))=Ac) 0 ?_ ?_ ?_
 ·exact⟨by omega,rfl⟩
 ·refine vk 0
 rintro j ⟨j1,j2⟩;rcases Ap j r.length with j3|j3
 ·have hin:=zAc r Af j j3;have hss:=hs _ hin;have htk:=zAs r j j3;have hany:60<(r.getD j Af).str.length->(r.any λv=>decide (60<v.str.length))=true:=λhh=>Bp.2 ⟨_,hin,decide_eq_true hh⟩;have htv:=zBe r j j3;have hva:=zCj r;have hv3:=zB1 r j (h:=j3);generalize r.getD j Af=v at*;obtain⟨ka,ia,str⟩:=v;simp only at hany hss;have hsz:(bs str).size=str.length:=bs_size str;by_cases h60:60<str.length
  ·rw[hany h60];refine vAu<|zB<|vT ((j:Int)<↑(Aa r))<|vKB<|vA<|vr 2 (ix ↑j ↑(Aa r) (zL r≠[])/\3<=Aa (Ag (j*3)<|zL r))<|vs 21 (Aq<|Ai 3<|Ag (j*3)<|zL r) (Aq<|vaC<|BJ ka ia str) (hd:=by simp(disch:=omega) only[htv])<|ve (Ac=Ac/\Ab=Ab/\3=3/\3<=3)<|vA<|ve (True/\0<1)<|vT ((Aa str:Int)>(60:Int))<|vAe<|zJ<|zN<|zF<|zF<|zN ?_;refine zN<|zF<|zF<|zN<|zF<|vret (True)<|.inr rfl
  refine vAu<|zB<|vT ((j:Int)<(Aa r:Int))<|vKB<|vA<|vr 2 (ix (j:Int) (Aa r:Int) (zL r≠[])/\3<=Aa (Ag (j*3)<|zL r))<|vs 21 (Aq<|Ai 3<|Ag (j*3)<|zL r) (Aq<|vaC<|BJ ka ia str) (hd:=by simp(disch:=omega) only[htv])<|ve (Ac=Ac/\Ab=Ab/\3=3/\3<=3)<|vA<|ve (True/\0<1)<|vF ((Aa str:Int)>(60:Int))<|zK<|zE<|vN<|zA rfl<|vr 2 (i6 ((j:Int)+(1:Int)))<|vnil<|zC<|⟨j+1,⟨by omega,?_⟩,by omega,?_⟩
  ·rw[htk,List.any_append,j2];simpa using h60
  refine vk 0
 rw[AQ j3]at j2;obtain rfl:j=r.length:=by omega
 refine vAu<|zB<|vF ((Aa r:Int)<↑(Aa r))<|vY2<|zE<|vN<|zA rfl<|vr 2 (i6 (↑(0:Nat)+1))<|vnil<|zC ?_;exact⟨1, .inr ⟨rfl,j2⟩,by omega,by refine vk 0⟩
abbrev raN(a:List Nat×List Rw):List D:=[.row (nsD a.1) a.1.length, .row (a.2.map rowV) a.2.length]
theorem zBg(a:List Nat×List Rw):(raN a).length=2:=rfl
set_option maxHeartbeats 2000000 in
theorem atoms_c(z0 z1:Int)(cs2 cs3:List D)(m2 m3:Nat)(A:List (List Nat×List Rw))(hA:A.length<=1000)(h:∀a∈A,a.2.length<=10000/\∀r∈a.2,r.length<=2000000):Pure Al 13 [.agg (inpA (iD z0) (iD z1) (.row cs2 m2) (.row cs3 m3) A)] [] (.row (A.flatMap raN) A.length):=by
 refine zH zAg mixed Tryz.func13 rfl<|vAu<|vAe<|zB<|vA<|ve (True/\0<1)<|zG<|zP (λ(i:Nat)=>fr 25 [(2,nl),(3,Ak 1 0 i (i*2) Ab),(7,Ae (Ah atN A)<|Aa A),(8,iD (Aa A:Int)),(9,iD (i:Int))]) (λ(i:Nat)=>[⟨inpA (iD z0) (iD z1) (.row cs2 m2) (.row cs3 m3) A,32,0,Ac,Ac,.plain⟩,⟨(A.take i).flatMap raN,94,2,Ab,Ac,.plain⟩]) (λi=>A.length-i) (λ(i:Nat)=>i<=A.length) 0 ?_ ?_ ?_
 ·omega
 ·refine vk 1
 rintro i h1;have hl1:((A.take i).flatMap raN).length=i*2:=by rw[zDc zBg,AS,Cd h1]
 rcases Ap i A.length with h2|h2
 ·have hg:=zGq zAo A i h2;have hle:=zD2 zAo A i h2;have hne:=zD1 zAo (by decide) A;obtain⟨k1,k2⟩:=h _ (zAc A Af i h2);have hrr:=rRows_c ((A.getD i Af).1.length:Nat) (A.getD i Af).2 (by omega) k2;have hrl:=rowsL_c (A.getD i Af).2 _ rfl (by omega) k2;have hcs:(A.take (i+1)).flatMap raN=(A.take i).flatMap raN++raN (A.getD i Af):=by
   rw[zAs A i h2,BL];simp
  generalize (A.take i).flatMap raN=q at*;generalize A.getD i Af=a at*;obtain⟨V,R⟩:=a;refine vAu<|zB<|vT ((i:Int)<↑(Aa A))<|vKB<|vA<|vr 1 (ix ↑i ↑(Aa A) (Ah atN A≠[]))<|vs 11 (AB<|Ag (Aj (i:Int)*3)<|Ah atN A) (AB (Ae (Ad (λ(v:Nat)=>iD v) V) (Aa V)::iD (Aa V)::Ae (Ad rowV R) (Aa R)::Ah atN (Ag (i+1) A))) (hd:=by simp(disch:=omega) only[Au,AM,AP,hg])<|ve (3<=Aa (Ae (Ad (λ(v:Nat)=>iD v) V) (Aa V)::iD (Aa V)::Ae (Ad rowV R) (Aa R)::Ah atN (Ag (i+1) A))/\Ac=Ac/\Ab=Ab/\3=3/\3<=3)<|vd [0,1,3,2,4,5,6,7,8,9,10]<|vr 5 (True/\True/\0<3/\2<=2)<|vc hrr<|vc hrl<|vr 4 (((1=1/\1<=2/\1=1/\2<=2/\True)/\Ab=Ab)/\((2=2/\2<=2/\True)/\0<2/\2=2/\2<=16777216/\1<=9223372036854775807)/\Ab=Ab/\Aa q=i*2/\i*2=i*2/\94=94/\2=2/\2=2/\0<2/\0<48/\94=94/\(i+1)*48<=140737488355328/\2=2/\A4 Az=Ac/\(Ac=Ac\/A5 Az=Ab))<|vnil<|zE<|vN<|zA rfl<|vr 2 (i6 (↑i+1))<|vnil<|zC<|⟨i+1,by omega,by omega,?_⟩;rw[hcs];refine vk 2
 obtain rfl:i=A.length:=by omega
 rw[A3];have ht:=zEm zBg A A.length rfl;refine vAu<|zB<|vF ((Aa A:Int)<↑(Aa A))<|vZ2<|vAe<|zJ<|zAu (True) (Ae (Ai (Aa A*2)<|Ag 0<|Ah raN A)<|Aa A) (Ae (Ah raN A)<|Aa A) (.inr rfl) (by simp(disch:=omega) only[AJ,ht]) rfl
structure RaOk(A:List (List Nat×List Rw)):Prop where
 l:A.length<=1000
 v:∀a∈A,a.1.length<=1000
 r:∀a∈A,a.2.length<=10
 s:∀a∈A,∀r∈a.2,Sho r
 e:∀a∈A,∀r∈a.2,r.length=a.1.length
abbrev raK(a:List Nat×List Rw):Bk:=⟨raN a,94,0,Ac,Ac, .plain⟩
set_option maxHeartbeats 4000000 in
theorem zX0(a:List Nat×List Rw)(known:Rw)(hV:a.1.length<=1000)(hR:a.2.length<=10)(hs:∀r∈a.2,Sho r)(he:∀r∈a.2,r.length=a.1.length)(hk:Sho known):Pure Al 47 [.agg (raN a),rowV known] [] (bD (alwR known a)):=by
 obtain⟨V,R⟩:=a;simp only at hV hR hs he;have hk1:=hk.1;refine zH zAg mixed Tryz.func47 rfl<|vAu<|zB<|vAe<|zG<|zP (λ(i:Nat)=>fr 51 [(1,rowV known),(2,AC 0 0),(5,iD (i:Int))]) (λ(i:Nat)=>[raK (V,R)]) (λi=>R.length-i) (λ(i:Nat)=>i<=R.length/\(R.take i).any (agrR known V)=Ac) 0 ?_ ?_ ?_
 ·exact⟨by omega,rfl⟩
 ·refine vk 1
 rintro i ⟨i1,i2⟩;rcases Ap i R.length with i3|i3;case inr=>
  rw[AQ i3]at i2;have ha:alwR known (V,R)=false:=i2;rw[ha];refine zB<|vAs<|ve (True/\0<1)<|vF ((i:Int)<↑(Aa R))<|vZ2<|vAe<|zJ<|vret (True)<|.inr rfl
 have hin:=zAc R [] i i3;have hg:=zHn R i i3;have hne:R.map rowV≠[]:=zAa;have hsr:=hs _ hin;have hlr:=he _ hin;have htk:R.take (i+1)=R.take i++[R.getD i []]:=by
  rw[Bm i3,Ao,Ar i3];rfl
 have hyes:agrR known V (R.getD i [])=Ab->alwR known (V,R)=true:=λhh=>Bp.2 ⟨_,hin,hh⟩;generalize R.getD i []=r at*;refine zB<|vAs<|ve (True/\0<1)<|vT ((i:Int)<↑(Aa R))<|vKB<|vAe<|zB<|vAe<|zG<|zAl (λ(k:Nat)(b:Bool)=>fr 51 [(1,rowV known),(2,AC 0 0),(5,iD i),(6,bD b),(7,iD k)]) (λ(k:Nat)(b:Bool)=>[raK (V,R)]) (λk b=>V.length-k) (λ(k:Nat)(b:Bool)=>k<=V.length/\b=(As k).all λk=>decide (V.getD k 0<known.length->r.getD k Af=known.getD (V.getD k 0) Af)) 0 Ab ?_ ?_ ?_
 ·exact⟨by omega,rfl⟩
 ·refine vk 1
 rintro k b ⟨k1,k2⟩;rcases Ap k V.length with k3|k3
 ·have hx:=zAq V k k3;have hn1:nsD V≠[]:=zAa;have hst:(As (k+1)).all (λk=>decide (V.getD k 0<known.length->r.getD k Af=known.getD (V.getD k 0) Af))=(b&&decide (V.getD k 0<known.length->r.getD k Af=known.getD (V.getD k 0) Af)):=by
   rw[BF,List.all_append,<-k2];simp
  have htv:=zBe r k (by omega);have hva:=zCj r;have hv3:=zB1 r k;have hs1:=hsr.at (i:=k) (by omega);generalize V.getD k 0=v at*;by_cases hv:v<known.length
  ·have htw:=zBe known v hv;have hwa:=zCj known;have hw3:=zB1 known v (h:=hv);have hc:=zZi _ _ hs1 (hk.at hv);have hz:=(zBs (r.getD k Af) (known.getD v Af)).2.1;generalize r.getD k Af=y at*;generalize known.getD v Af=w at*;by_cases he2:y=w
   ·rw[hz.2 he2]at hc;rw[decide_eq_true (λ_=>he2),Bool.and_true]at hst;refine zB<|vAs<|ve (True/\0<2)<|vT ((k:Int)<↑(Aa V))<|vKB<|zB<|vd [0,2,5,6,1,3,4,7,8,9,11,14,17,18,20,10,12,13,15,16,19,21,22,23,24,25,26,27]<|vr 6 (True/\0<2/\ix ↑k ↑(Aa V) (nsD V≠[]))<|vp 25 k (nsD V)<|vr 1 (0<Aa (Ag k<|nsD V))<|vsh 26 hx<|vw 10 [] [(8,Ab)] (decide ((v:Int)<↑(Aa known))=Ab/\True/\True/\0<1/\ix ↑i ↑(Aa R) (Ad rowV R≠[]))<|vp 34 i (Ad rowV R)<|vr 1 (0<Aa (Ag i<|Ad rowV R))<|vsh 35 hg<|vr 2 (ix ↑k ↑(Aa r) (zL r≠[])/\3<=Aa (Ag (k*3)<|zL r))<|vs 38 (Aq<|Ai 3<|Ag (k*3)<|zL r) (Aq<|vaC y) (hd:=by simp(disch:=omega) only[htv])<|vr 2 (0<2/\ix ↑k ↑(Aa V) (nsD V≠[]))<|vp 43 k (nsD V)<|vr 1 (0<Aa (Ag k<|nsD V))<|vsh 44 hx<|vr 2 (ix ↑v ↑(Aa known) (zL known≠[])/\3<=Aa (Ag (v*3)<|zL known))<|vs 46 (Aq<|Ai 3<|Ag (v*3)<|zL known) (Aq<|vaC w) (hd:=by simp(disch:=omega) only[htw])<|vc hc<|veT<|vf<|zK<|zE<|vN<|zA rfl<|vr 3 (i6 (↑k+1))<|vnil<|zC<|⟨k+1,b,⟨by omega,hst.symm⟩,by omega,?_⟩;refine vk 1
   have hne2:vcmp y w≠0:=λe=>he2 (hz.1 e);rw[decide_eq_false (λh=>he2 (h hv)),Bool.and_false]at hst;generalize vcmp y w=z at*;have hz2:(z !=0)=true:=bne_iff_ne.2 hne2;refine zB<|vAs<|ve (True/\0<2)<|vT ((k:Int)<↑(Aa V))<|vKB<|zB<|vd [0,2,5,6,1,3,4,7,8,9,11,14,17,18,20,10,12,13,15,16,19,21,22,23,24,25,26,27]<|vr 6 (True/\0<2/\ix ↑k ↑(Aa V) (nsD V≠[]))<|vp 25 k (nsD V)<|vr 1 (0<Aa (Ag k<|nsD V))<|vsh 26 hx<|vw 10 [] [(8,Ab)] (decide ((v:Int)<↑(Aa known))=Ab/\True/\True/\0<1/\ix ↑i ↑(Aa R) (Ad rowV R≠[]))<|vp 34 i (Ad rowV R)<|vr 1 (0<Aa (Ag i<|Ad rowV R))<|vsh 35 hg<|vr 2 (ix ↑k ↑(Aa r) (zL r≠[])/\3<=Aa (Ag (k*3)<|zL r))<|vs 38 (Aq<|Ai 3<|Ag (k*3)<|zL r) (Aq<|vaC y) (hd:=by simp(disch:=omega) only[htv])<|vr 2 (0<2/\ix ↑k ↑(Aa V) (nsD V≠[]))<|vp 43 k (nsD V)<|vr 1 (0<Aa (Ag k<|nsD V))<|vsh 44 hx<|vr 2 (ix ↑v ↑(Aa known) (zL known≠[])/\3<=Aa (Ag (v*3)<|zL known))<|vs 46 (Aq<|Ai 3<|Ag (v*3)<|zL known) (Aq<|vaC w) (hd:=by simp(disch:=omega) only[htw])<|vc hc<|vrT 1<|vs 48 (bD (z !=(0:Int))) (bD Ab) (hd:=by simp(disch:=omega) only[hz2])<|veT<|vt<|zA rfl<|vrT 1<|vnil<|zE<|vN<|zA rfl<|vr 3 (i6 (↑k+1))<|vnil<|zC<|⟨k+1,Ac,⟨by omega,hst.symm⟩,by omega,?_⟩;refine vk 1
  rw[decide_eq_true (λh=>absurd h hv),Bool.and_true]at hst;refine zB<|vAs<|ve (True/\0<2)<|vT ((k:Int)<↑(Aa V))<|vKB<|zB<|vd [0,2,5,6,1,3,4,7,8,9,11,14,17,18,20,10,12,13,15,16,19,21,22,23,24,25,26,27]<|vr 6 (True/\0<2/\ix ↑k ↑(Aa V) (nsD V≠[]))<|vp 25 k (nsD V)<|vr 1 (0<Aa (Ag k<|nsD V))<|vsh 26 hx<|vew [] [(8,Ac)] (decide ((v:Int)<↑(Aa known))=Ac)<|vf<|zK<|zE<|vN<|zA rfl<|vr 3 (i6 (↑k+1))<|vnil<|zC<|⟨k+1,b,⟨by omega,hst.symm⟩,by omega,?_⟩;refine vk 1
 obtain rfl:k=V.length:=by omega
 have k2:b=agrR known V r:=k2;cases b
 ·refine zB<|vAs<|ve (True/\0<2)<|vF ((Aa V:Int)<(Aa V:Int))<|vZ2<|vAe<|vf<|zK<|zE<|vN<|zA rfl<|vr 3 (i6 ((i:Int)+(1:Int)))<|vnil<|zC<|⟨i+1,⟨by omega,?_⟩,by omega,?_⟩
  ·rw[htk,List.any_append,i2,List.any_cons,<-k2];rfl
  refine vk 1
 rw[hyes k2.symm];refine zB<|vAs<|ve (True/\0<2)<|vF ((Aa V:Int)<↑(Aa V))<|vZ2<|vAe<|vt<|vAe<|zJ<|zN<|zF<|zF<|zN<|zF<|vret (True)<|.inr rfl
def valL(A:List (List Nat×List Rw))(v:Nat):List Rw:=match A.find? λa=>decide (v∈a.1)with
 |none=>[]
 |some a=>prjL [a.1.idxOf v] a.2
theorem valL_F(A:List (List Nat×List Rw))(v:Nat):valF A v=(valL A v).map λx=>x.getD 0 default:=by
 unfold valF valL;cases A.find? (λa=>decide (v∈a.1))<;>rfl
theorem valL_at{A:List (List Nat×List Rw)}{v:Nat}:∀{i:Nat},i<A.length->v∈(A.getD i Af).1->(∀j,j<i->v∉(A.getD j Af).1)->A.find? (λa=>decide (v∈a.1))=Aw (A.getD i Af):=by
 induction A with
 |nil=>intro i h;cases h
 | cons a A ih=>
  intro i hi h1 h2;cases i with
  |zero=>
   have h1:v∈a.1:=h1;rw[List.find?_cons_of_pos (by simpa using h1)];rfl
  |succ i=>
   have h0:v∉a.1:=h2 0 (by omega);rw[List.find?_cons_of_neg (by simpa using h0)];exact ih (by simpa using hi) (by simpa using h1) (λj hj=>by simpa using h2 (j+1) (by omega))
theorem valL_no{A:List (List Nat×List Rw)}{v:Nat}(h:∀j,j<A.length->v∉(A.getD j Af).1):valL A v=[]:=by
 unfold valL;have:A.find? (λa=>decide (v∈a.1))=none:=B8.2 λa ha=>by
  obtain⟨j,hj,rfl⟩:=BU ha
  have:=h j hj
  rw[Ao,Ar hj]at this;simpa using this
 rw[this]
theorem valL_one{A:List (List Nat×List Rw)}(v:Nat):∀x∈valL A v,x.length=1:=λx hx=>by
 unfold valL at hx;split at hx
 ·cases hx
 exact(zRg _ _).2.2.2 x hx
theorem idx_first{V:List Nat}{v k:Nat}(hk:k<V.length)(h:V.getD k 0=v)(hn:∀q,q<k->V.getD q 0≠v):V.idxOf v=k:=by
 have h1:v∈V:=h▸zAc V 0 k hk;have h2:=BS.2 h1;have h3:V.getD (V.idxOf v) 0=v:=by
  rw[Ao,Ar h2];exact B6 h2
 rcases CN (V.idxOf v) k with h4|h4|h4
 ·exact absurd h3 (hn _ h4)
 ·exact h4
 have:=List.not_of_lt_findIdx (p:=λx=>x==v) (xs:=V) (i:=k) h4
 rw[Ao,Ar hk]at h;have h:V[k]=v:=h;rw[h]at this;simp at this
set_option maxHeartbeats 4000000 in
theorem values_c{A:List (List Nat×List Rw)}(hA:RaOk A)(v:Nat)(hv:v<=1000000):Pure Al 48 [iD (v:Nat), .row (A.flatMap raN) A.length] [] (.row (zL (valF A v)) (valF A v).length):=by
 have hAl:=hA.l;refine zH zAg mixed Tryz.func48 rfl<|vAu<|vAe<|zB<|vAe<|zG<|zAl (λ(i:Nat)(O:List Rw)=>fr 62 [(0,iD (v:Int)),(1,Ae (Ah raN A)<|Aa A),(4,nl),(5,Ae (Ad rowV O)<|Aa O),(6,iD (i:Int))]) (λ(i:Nat)(O:List Rw)=>[]) (λi O=>A.length+1-i) (λ(i:Nat)(O:List Rw)=>(i<=A.length/\O=[]/\∀j,j<i->v∉(A.getD j Af).1)\/(i=A.length+1/\O=valL A v)) 0 [] ?_ ?_ ?_
 ·exact .inl ⟨by omega,rfl,λj hj=>by omega⟩
 ·refine vk 0
 rintro i O hJ;have hend:A.length<=i->O=valL A v:=λhi=>by
  rcases hJ with⟨h1,h2,h3⟩|⟨h1,h2⟩
  ·obtain rfl:i=A.length:=by omega
   rw[h2,valL_no h3]
  exact h2
 rcases Ap i A.length with i3|i3;case inr=>
  obtain rfl:=hend i3;have hil:i<=1001:=by rcases hJ with⟨h1,_⟩|⟨h1,_⟩<;>omega
  have hone:=valL_one (A:=A) v;have hlen:(valL A v).length<=10:=by
   have:=zGx A hA.r v
   rw[valL_F,An]at this;exact this
  rw[valL_F];generalize valL A v=O at*;clear hend hJ;have hpl:(O.map λx=>x.getD 0 Af).length=O.length:=An _;rw[hpl];refine zB<|vAu<|vF ((i:Int)<↑(Aa A))<|vZ2<|vAe<|zB<|vAe<|zG<|zP (λ(q:Nat)=>fr 62 [(4,nl),(5,Ae (Ad rowV O)<|Aa O),(8,Ak 0 0 q (q*3) Ab),(9,iD q)]) (λ(q:Nat)=>[rvK<|zL<|(O.map λx=>x.getD 0 Af).take q]) (λq=>O.length-q) (λ(q:Nat)=>q<=O.length) 0 ?_ ?_ ?_
  ·omega
  ·refine vk 0
  rintro q q1;have hl3:(zL ((O.map λx=>x.getD 0 Af).take q)).length=q*3:=by rw[zAe,AS,hpl,Cd q1]
  rcases Ap q O.length with q2|q2
  ·have hg:=zHn O q q2;have hne:O.map rowV≠[]:=zAa;have hx1:=hone _ (zAc O [] q q2);have hcs:zL ((O.map λx=>x.getD 0 Af).take (q+1))=zL ((O.map λx=>x.getD 0 Af).take q)++vaC ((O.getD q []).getD 0 Af):=by
    rw[zAs _ q (by omega),zCq];have e:(O.map λx=>x.getD 0 Af).getD q Af=(O.getD q []).getD 0 default:=by
     rw[Ao,BE,Ar q2,Ao (l:=O),Ar q2];rfl
    rw[e];simp[zL]
   generalize zL ((O.map λx=>x.getD 0 Af).take q)=c at*;generalize O.getD q []=x at*;obtain⟨w,rfl⟩:∃w,x=[w]:=by
    match x,hx1 with
    |[w],_=>exact⟨w,rfl⟩
   have hcw:zL [w]=vaC w:=by simp[zL]
   have hrw:rowV [w]= .row (vaC w) 1:=by show Ae (zL [w]) 1=_;rw[hcw]
   rw[hrw]at hg;obtain⟨ka,ia,sa⟩:=w;have hcs:zL ((O.map λx=>x.getD 0 Af).take (q+1))=c++vaC ⟨ka,ia,sa⟩:=hcs;refine zB<|vAu<|vT ((q:Int)<↑(Aa O))<|vKB<|zA rfl<|vr 4 (ix ↑q ↑(Aa O) (Ad rowV O≠[]))<|vp 55 q (Ad rowV O)<|vr 1 (0<Aa (Ag q<|Ad rowV O))<|vsh 56 hg<|vr 5 (ix (0:Int) (↑(1:Nat):Int) (vaC (BJ ka ia sa)≠[])/\3<=3/\((3=3/\3<=3/\True)/\0<3/\3=3/\3<=16777216/\1<=9223372036854775807)/\Bi (rvK c)=Ab/\Aa (AG<|rvK c)=q*3/\q*3=q*3/\A8 (rvK c)=95/\A9 (rvK c)=3/\3=3/\0<3/\0<32/\95=95/\(q+1)*32<=140737488355328/\3=3/\A4 (AI<|rvK c)=Ac/\(Ac=Ac\/A5 (AI<|rvK c)=Ab))<|vnil<|zE<|vN<|zA rfl<|vr 3 (i6 (↑q+1))<|vnil<|zC<|⟨q+1,by omega,by omega,?_⟩;rw[hcs];refine vk 1
  obtain rfl:q=O.length:=by omega
  rw[AQ (by omega)]at hl3⊢;have ht:(zL (O.map λx=>x.getD 0 Af)).take (O.length*3)=zL (O.map λx=>x.getD 0 Af):=AQ (by omega);refine zB<|vAu<|vF ((Aa O:Int)<↑(Aa O))<|vZ2<|vAe<|zJ<|zAu (True) (Ae (Ai (Aa O*3)<|Ag 0<|AG<|rvK<|zL<|Ad (λ(x:Rw)=>AN x 0 Af) O)<|Aa O) (Ae (zL<|Ad (λ(x:Rw)=>AN x 0 Af) O)<|Aa O) (.inr rfl) (by simp(disch:=omega) only[AJ,ht]) rfl
 obtain⟨h1,rfl,h3⟩:i<=A.length/\O=[]/\∀j,j<i->v∉(A.getD j Af).1:=by
  rcases hJ with hJ|⟨hJ,_⟩
  ·exact hJ
  omega
 have hg:=zGq zBg A i i3;have hle:=zD2 zBg A i i3;have hne:=zD1 zBg (by decide) A;have hin:=zAc A Af i i3;have hVl:=hA.v _ hin;have hRl:=hA.r _ hin;have hRs:=hA.s _ hin;have hRe:=hA.e _ hin;have hval:v∈(A.getD i Af).1->valL A v=prjL [(A.getD i Af).1.idxOf v] (A.getD i Af).2:=λhm=>by
  unfold valL;rw[valL_at i3 hm h3]
 have hno:v∉(A.getD i Af).1->∀j,j<i+1->v∉(A.getD j Af).1:=λhm j hj=>by
  rcases Ap j i with h4|h4
  ·exact h3 j h4
  obtain rfl:j=i:=by omega
  exact hm
 generalize A.getD i Af=a at*;obtain⟨V,R⟩:=a;simp only at hVl hRl hRs hRe hval hno;refine zB<|vAu<|vT ((i:Int)<↑(Aa A))<|vKB<|vAe<|zG<|zP (λ(k:Nat)=>fr 62 [(0,iD v),(1,Ae (Ah raN A)<|Aa A),(4,nl),(5,Ae [] 0),(6,iD i),(7,iD k)]) (λ(k:Nat)=>[]) (λk=>V.length-k) (λ(k:Nat)=>k<=V.length/\∀q,q<k->V.getD q 0≠v) 0 ?_ ?_ ?_
 ·exact⟨by omega,λq hq=>by omega⟩
 ·refine vk 0
 rintro k ⟨k1,k2⟩;rcases Ap k V.length with k3|k3
 ·have hx:=zAq V k k3;have hn1:nsD V≠[]:=zAa;by_cases hvk:V.getD k 0=v
  ·have hid:=idx_first k3 hvk k2;have hvm:v∈V:=hvk▸zAc V 0 k k3;have hpj:=zYf R [k] R.length 1 rfl rfl (by omega) (by omega) λy hy=>⟨hRs y hy,λc hc=>by rw[A0.1 hc,hRe y hy];exact k3⟩;have hv2:=hval hvm;rw[hid]at hv2;rw[<-hv2]at hpj;rw[hvk]at hx;have e2:(((v:Nat):Int)==((v:Nat):Int))=true:=beq_self_eq_true _;generalize valL A v=O at*;refine zB<|vAs<|vr 4 (ix ↑i ↑(Aa A) (Ah raN A≠[]))<|vs 19 (AB<|Ag (Aj (i:Int)*2)<|Ah raN A) (AB (Ae (nsD V) (Aa V)::Ae (Ad rowV R) (Aa R)::Ah raN (Ag (i+1) A))) (hd:=by simp(disch:=omega) only[Au,AM,AP,hg])<|ve (True/\0<Aa (Ae (nsD V) (Aa V)::Ae (Ad rowV R) (Aa R)::Ah raN (Ag (i+1) A)))<|vT ((k:Int)<↑(Aa V))<|vKB<|vA<|vr 3 (ix ↑i ↑(Aa A) (Ah raN A≠[]))<|vs 28 (AB<|Ag (Aj (i:Int)*2)<|Ah raN A) (AB (Ae (nsD V) (Aa V)::Ae (Ad rowV R) (Aa R)::Ah raN (Ag (i+1) A))) (hd:=by simp(disch:=omega) only[Au,AM,AP,hg])<|vr 4 (True/\0<Aa (Ae (nsD V) (Aa V)::Ae (Ad rowV R) (Aa R)::Ah raN (Ag (i+1) A))/\ix ↑k ↑(Aa V) (nsD V≠[]))<|vp 32 k (nsD V)<|vr 1 (0<Aa (Ag k<|nsD V))<|vsh 33 hx<|vrT 2<|vs 35 (bD ((v:Int)==↑v)) (bD Ab) (hd:=by simp(disch:=omega) only[e2])<|veT<|vt<|vA<|vr 3 (ix ↑i ↑(Aa A) (Ah raN A≠[]))<|vs 38 (AB<|Ag (Aj (i:Int)*2)<|Ah raN A) (AB (Ae (nsD V) (Aa V)::Ae (Ad rowV R) (Aa R)::Ah raN (Ag (i+1) A))) (hd:=by simp(disch:=omega) only[Au,AM,AP,hg])<|vr 4 (True/\0<Aa (Ae (Ad rowV R) (Aa R)::Ah raN (Ag (i+1) A))/\(1=1/\1<=1/\True)/\0<1/\1=1/\1<=16777216/\1<=9223372036854775807)<|vc hpj<|veT<|vAe<|zS<|zY3 (by decide)<|zM<|zM<|zQ rfl<|zE<|vN<|zA rfl<|vr 3 (i6 (↑(Aa A)+1))<|vnil<|zC<|⟨A.length+1,O,.inr ⟨rfl,rfl⟩,by omega,?_⟩;refine vk 0
  have hv2:(((V.getD k 0:Nat):Int)==(v:Nat))=false:=beq_eq_false_iff_ne.2 λe=>hvk (by omega);have hk2:∀q,q<k+1->V.getD q 0≠v:=λq hq=>by
   rcases Ap q k with h4|h4
   ·exact k2 q h4
   obtain rfl:q=k:=by omega
   exact hvk
  generalize V.getD k 0=u at*;refine zB<|vAs<|vr 4 (ix ↑i ↑(Aa A) (Ah raN A≠[]))<|vs 19 (AB<|Ag (Aj (i:Int)*2)<|Ah raN A) (AB (Ae (nsD V) (Aa V)::Ae (Ad rowV R) (Aa R)::Ah raN (Ag (i+1) A))) (hd:=by simp(disch:=omega) only[Au,AM,AP,hg])<|ve (True/\0<Aa (Ae (nsD V) (Aa V)::Ae (Ad rowV R) (Aa R)::Ah raN (Ag (i+1) A)))<|vT ((k:Int)<↑(Aa V))<|vKB<|vA<|vr 3 (ix ↑i ↑(Aa A) (Ah raN A≠[]))<|vs 28 (AB<|Ag (Aj (i:Int)*2)<|Ah raN A) (AB (Ae (nsD V) (Aa V)::Ae (Ad rowV R) (Aa R)::Ah raN (Ag (i+1) A))) (hd:=by simp(disch:=omega) only[Au,AM,AP,hg])<|vr 4 (True/\0<Aa (Ae (nsD V) (Aa V)::Ae (Ad rowV R) (Aa R)::Ah raN (Ag (i+1) A))/\ix ↑k ↑(Aa V) (nsD V≠[]))<|vp 32 k (nsD V)<|vr 1 (0<Aa (Ag k<|nsD V))<|vsh 33 hx<|vrT 2<|vs 35 (bD ((u:Int)==↑v)) (bD Ac) (hd:=by simp(disch:=omega) only[hv2])<|veT<|vf<|zK<|zE<|vN<|zA rfl<|vr 3 (i6 (↑k+1))<|vnil<|zC<|⟨k+1,⟨by omega,hk2⟩,by omega,?_⟩;refine vk 0
 obtain rfl:k=V.length:=by omega
 have hnm:v∉V:=λhm=>by
  obtain⟨q,hq,e⟩:=BU hm;refine k2 q hq ?_;rw[Ao,Ar hq];exact e
 refine zB<|vAs<|vr 4 (ix ↑i ↑(Aa A) (Ah raN A≠[]))<|vs 19 (AB<|Ag (Aj (i:Int)*2)<|Ah raN A) (AB (Ae (nsD V) (Aa V)::Ae (Ad rowV R) (Aa R)::Ah raN (Ag (i+1) A))) (hd:=by simp(disch:=omega) only[Au,AM,AP,hg])<|ve (True/\0<Aa (Ae (nsD V) (Aa V)::Ae (Ad rowV R) (Aa R)::Ah raN (Ag (i+1) A)))<|vF ((Aa V:Int)<↑(Aa V))<|vY2<|zE<|vN<|zA rfl<|vr 3 (i6 (↑i+1))<|vnil<|zC<|⟨i+1,[],.inl ⟨by omega,rfl,hno hnm⟩,by omega,?_⟩;refine vk 0
theorem valF_sho{A:List (List Nat×List Rw)}(hA:RaOk A)(v:Nat):∀x∈valF A v,x.str.length<=3000000:=λx hx=>by
 unfold valF at hx;split at hx
 ·cases hx
 rename_i b hf;obtain⟨y,hy,rfl⟩:=Am.1 hx;obtain⟨r,hr,rfl⟩:=((zRg _ _).2.2.1 y).1 hy
 have:=(hA.s b (BX hf) r hr).pick [b.1.idxOf v] (by simp)
 exact this.at (i:=0) (by simp)
set_option maxHeartbeats 4000000 in
theorem joinR_c{A:List (List Nat×List Rw)}(hA:RaOk A):∀(m:Nat)(known:Rw),m<=8->known.length+m<=1000->Sho known->Pure Al 21 [iD ((known.length+m:Nat):Int),rowV known, .row (A.flatMap raN) A.length] [] (.row ((zBz A (valF A) m known).map rowV) (zBz A (valF A) m known).length):=λm=>by
 induction m with
 | zero=>
  intro known hm hk hs;have hAl:=hA.l;refine zH zAg mixed Tryz.func21 rfl<|vAu<|zB<|vAe<|zG<|zP (λ(i:Nat)=>fr 57 [(0,iD (↑(Aa known+0):Int)),(1,rowV known),(2,Ae (Ah raN A)<|Aa A),(7,iD (i:Int))]) (λ(i:Nat)=>[]) (λi=>A.length-i) (λ(i:Nat)=>i<=A.length/\(A.take i).all (alwR known)=Ab) 0 ?_ ?_ ?_
  ·exact⟨by omega,rfl⟩
  ·refine vk 0
  rintro i ⟨i1,i2⟩;rcases Ap i A.length with i3|i3
  ·have hg:=zGq zBg A i i3;have hle:=zD2 zBg A i i3;have hne:=zD1 zBg (by decide) A;have hin:=zAc A Af i i3;have hal:=zX0 (A.getD i Af) known (hA.v _ hin) (hA.r _ hin) (hA.s _ hin) (hA.e _ hin) hs;have hst:=zKz (alwR known) Af A i i3;have hno:=all_no (alwR known) Af A i i3;generalize A.getD i Af=a at*;cases hb:alwR known a
   ·rw[hb]at hal;have e:zBz A (valF A) 0 known=[]:=by
     unfold zBz;rw[if_neg (by rw[hno hb];decide)]
    rw[e];refine zB<|vAu<|vT ((i:Int)<↑(Aa A))<|vKB<|vA<|vr 3 (ix ↑i ↑(Aa A) (Ah raN A≠[]))<|vs 20 (AB<|Ag (Aj (i:Int)*2)<|Ah raN A) (AB (Ae (nsD<|AD a) (Aa<|AD a)::Ae (Ad rowV<|AK a) (Aa<|AK a)::Ah raN (Ag (i+1) A))) (hd:=by simp(disch:=omega) only[Au,AM,AP,hg])<|vr 2 (2<=Aa (Ae (nsD<|AD a) (Aa<|AD a)::Ae (Ad rowV<|AK a) (Aa<|AK a)::Ah raN (Ag (i+1) A)))<|vc hal<|veT<|vt<|vAe<|zJ<|zN<|zF<|zF<|zN<|zF<|vret (True)<|.inr rfl
   rw[hb]at hal;refine zB<|vAu<|vT ((i:Int)<↑(Aa A))<|vKB<|vA<|vr 3 (ix ↑i ↑(Aa A) (Ah raN A≠[]))<|vs 20 (AB<|Ag (Aj (i:Int)*2)<|Ah raN A) (AB (Ae (nsD<|AD a) (Aa<|AD a)::Ae (Ad rowV<|AK a) (Aa<|AK a)::Ah raN (Ag (i+1) A))) (hd:=by simp(disch:=omega) only[Au,AM,AP,hg])<|vr 2 (2<=Aa (Ae (nsD<|AD a) (Aa<|AD a)::Ae (Ad rowV<|AK a) (Aa<|AK a)::Ah raN (Ag (i+1) A)))<|vc hal<|veT<|vf<|zK<|zE<|vN<|zA rfl<|vr 3 (i6 (↑i+1))<|vnil<|zC<|⟨i+1,⟨by omega,by rw[hst,i2,hb];rfl⟩,by omega,?_⟩;refine vk 0
  obtain rfl:i=A.length:=by omega
  rw[A3]at i2;have e:zBz A (valF A) 0 known=[known]:=by
   unfold zBz;rw[if_pos i2]
  rw[e];refine zB<|vAu<|vF ((Aa A:Int)<↑(Aa A))<|vZ2<|zB<|vAe<|vEt ((Aa known:Int)) ((Aa known:Int))<|vA<|ve ((1=1/\1<=1/\True)/\0<1/\1=1/\1<=16777216/\1<=9223372036854775807)<|zJ<|zF<|vret (True)<|.inr rfl
 | succ m ih=>
  intro known hm hk hs;have hAl:=hA.l;refine zH zAg mixed Tryz.func21 rfl<|vAu<|zB<|vAe<|zG<|zP (λ(i:Nat)=>fr 57 [(0,iD (↑(Aa known+(m+1)):Int)),(1,rowV known),(2,Ae (Ah raN A)<|Aa A),(7,iD (i:Int))]) (λ(i:Nat)=>[]) (λi=>A.length-i) (λ(i:Nat)=>i<=A.length/\(A.take i).all (alwR known)=Ab) 0 ?_ ?_ ?_
  ·exact⟨by omega,rfl⟩
  ·refine vk 0
  rintro i ⟨i1,i2⟩;rcases Ap i A.length with i3|i3
  ·have hg:=zGq zBg A i i3;have hle:=zD2 zBg A i i3;have hne:=zD1 zBg (by decide) A;have hin:=zAc A Af i i3;have hal:=zX0 (A.getD i Af) known (hA.v _ hin) (hA.r _ hin) (hA.s _ hin) (hA.e _ hin) hs;have hst:=zKz (alwR known) Af A i i3;have hno:=all_no (alwR known) Af A i i3;generalize A.getD i Af=a at*;cases hb:alwR known a
   ·rw[hb]at hal;have e:zBz A (valF A) (m+1) known=[]:=by
     unfold zBz;rw[if_neg (by rw[hno hb];decide)]
    rw[e];refine zB<|vAu<|vT ((i:Int)<↑(Aa A))<|vKB<|vA<|vr 3 (ix ↑i ↑(Aa A) (Ah raN A≠[]))<|vs 20 (AB<|Ag (Aj (i:Int)*2)<|Ah raN A) (AB (Ae (nsD<|AD a) (Aa<|AD a)::Ae (Ad rowV<|AK a) (Aa<|AK a)::Ah raN (Ag (i+1) A))) (hd:=by simp(disch:=omega) only[Au,AM,AP,hg])<|vr 2 (2<=Aa (Ae (nsD<|AD a) (Aa<|AD a)::Ae (Ad rowV<|AK a) (Aa<|AK a)::Ah raN (Ag (i+1) A)))<|vc hal<|veT<|vt<|vAe<|zJ<|zN<|zF<|zF<|zN<|zF<|vret (True)<|.inr rfl
   rw[hb]at hal;refine zB<|vAu<|vT ((i:Int)<↑(Aa A))<|vKB<|vA<|vr 3 (ix ↑i ↑(Aa A) (Ah raN A≠[]))<|vs 20 (AB<|Ag (Aj (i:Int)*2)<|Ah raN A) (AB (Ae (nsD<|AD a) (Aa<|AD a)::Ae (Ad rowV<|AK a) (Aa<|AK a)::Ah raN (Ag (i+1) A))) (hd:=by simp(disch:=omega) only[Au,AM,AP,hg])<|vr 2 (2<=Aa (Ae (nsD<|AD a) (Aa<|AD a)::Ae (Ad rowV<|AK a) (Aa<|AK a)::Ah raN (Ag (i+1) A)))<|vc hal<|veT<|vf<|zK<|zE<|vN<|zA rfl<|vr 3 (i6 (↑i+1))<|vnil<|zC<|⟨i+1,⟨by omega,by rw[hst,i2,hb];rfl⟩,by omega,?_⟩;refine vk 0
  obtain rfl:i=A.length:=by omega
  rw[A3]at i2;have e:zBz A (valF A) (m+1) known=(valF A known.length).flatMap λv=>zBz A (valF A) m (known++[v]):=by
   conv=>lhs;unfold zBz
   rw[if_pos i2]
  rw[e];have hvl:=zGx A hA.r known.length;have hvs:=valF_sho hA known.length;have hvc:=values_c hA known.length (by omega);have hne0:¬((known.length:Int)=((known.length+(m+1):Nat):Int)):=by omega
  have hq:(((known.length:Nat):Int)==((known.length+(m+1):Nat):Int))=false:=beq_eq_false_iff_ne.2 hne0;have hpw:10^m<=10^8:=Bo (by omega) (by omega);have hjl:=λv=>zKm (A:=A) (vf:=valF A) (zGx A hA.r) m (known++[v]);generalize valF A known.length=W at*;refine zB<|vAu<|vF ((Aa A:Int)<↑(Aa A))<|vZ2<|zB<|vA<|vrT 4<|vs 28 (bD ((Aa known:Int)==(↑(Aa known+(m+1)):Int))) (bD Ac) (hd:=by simp(disch:=omega) only[hq])<|veT<|vf<|vK<|vAe<|vA<|vrT 3<|vc hvc<|veT<|zB<|vAe<|zG<|zAl (λ(q:Nat)(O:List Rw)=>fr 57 [(0,iD (↑(Aa known+(m+1)):Int)),(1,rowV known),(2,Ae (Ah raN A)<|Aa A),(8,Ak 0 0 (Aa O) (Aa O) Ab),(9,Ae (zL W)<|Aa W),(10,iD q)]) (λ(q:Nat)(O:List Rw)=>[rrB<|O.map rowV]) (λq O=>W.length-q) (λ(q:Nat)(O:List Rw)=>q<=W.length/\O=(W.take q).flatMap λv=>zBz A (valF A) m (known++[v])) 0 [] ?_ ?_ ?_
  ·exact⟨by omega,rfl⟩
  ·refine vk 0
  rintro q O ⟨q1,q2⟩;have hOl:O.length<=10^8*10:=by
   rw[q2];refine AE (zP1 _ (10^8) (λv=>AE (hjl v) hpw) _) (Ci _ ?_);rw[AS];omega
  have hol:(O.map rowV).length=O.length:=An ..
  rcases Ap q W.length with q3|q3
  ·have hstr:=hvs _ (zAc W Af q q3);have htv:=zBe W q q3;have hva:=zCj W;have hv3:=zB1 W q (h:=q3);have hcl:=zAe known;have hkv:(known++[W.getD q Af]).length=known.length+1:=by simp
   have hih:=ih (known++[W.getD q Af]) (by omega) (by omega) ⟨by omega,λv hv=>by
    rcases Br.1 hv with hv|hv
    ·exact hs.2 v hv
    rw[A0.1 hv];exact hstr⟩
   have hcs:zL (known++[W.getD q Af])=zL known++vaC (W.getD q Af):=by
    rw[zCq];simp[zL]
   have hrw:rowV (known++[W.getD q Af])= .row (zL known++vaC (W.getD q Af)) (known.length+1):=by
    show Ae _ (known++[W.getD q Af]).length=_;rw[hkv,hcs]
   rw[hrw,hkv,show known.length+1+m=known.length+(m+1) by omega]at hih;have hjq:=hjl (W.getD q Af);have hsn:(W.take (q+1)).flatMap (λv=>zBz A (valF A) m (known++[v]))=O++zBz A (valF A) m (known++[W.getD q Af]):=by
    rw[zAs W q q3,BL,<-q2,B7]
   have hkt:(zL known).take (known.length*3)=zL known:=AQ (by omega);have hlt:(zL known++vaC (W.getD q Af)).take ((known.length+1)*3)=zL known++vaC (W.getD q Af):=AQ (by rw[AV,hcl];show _+3<=_;omega);generalize W.getD q Af=w at*;generalize zBz A (valF A) m (known++[w])=J at*;have hJt:(J.map rowV).take J.length=J.map rowV:=AQ (by simp);have hJl:(J.map rowV).length=J.length:=An ..
   obtain⟨ka,ia,sa⟩:=w;refine zB<|vAu<|vT ((q:Int)<↑(Aa W))<|vKB<|vAe<|vA<|ve (Aa (zL known)=Aa known*3/\0<3/\0<32/\95=95/\Aa known*32<=140737488355328/\3=3)<|zA rfl<|vr 7 (ix ↑q ↑(Aa W) (zL W≠[])/\3<=Aa (Ag (q*3)<|zL W))<|vs 50 (Aq<|Ai 3<|Ag (q*3)<|zL W) (Aq<|vaC<|BJ ka ia sa) (hd:=by simp(disch:=omega) only[htv])<|vr 3 (((3=3/\3<=3/\True)/\0<3/\3=3/\3<=16777216/\1<=9223372036854775807)/\Ab=Ab/\Aa (zL known)=Aa known*3/\Aa known*3=Aa known*3/\95=95/\3=3/\3=3/\0<3/\0<32/\95=95/\(Aa known+1)*32<=140737488355328/\3=3/\A4 (kdOf Ac)=Ac/\(Ac=Ac\/A5 (kdOf Ac)=Ab))<|vcl [iD (↑(Aa known+(m+1)):Int),Ae (Ai ((Aa known+1)*3)<|Ag 0 (zL known++[iD ka,iD ia,Ay<|Cr<|bs sa])) (Aa known+1),Ae (Ah raN A)<|Aa A] [iD (↑(Aa known+(m+1)):Int),Ae (zL known++vaC (BJ ka ia sa)) (Aa known+1),Ae (Ah raN A)<|Aa A] (LeL.of_eq (by simp(disch:=omega) only[AJ,hlt])) (by exact hih)<|vr 2 (Ab=Ab/\Aa (Ad rowV O)=Aa O*1/\Aa O=Aa O*1/\55=55/\1=1/\Aa (Ad rowV J)=Aa J*1/\0<1/\0<24/\55=55/\(Aa O+Aa J)*24<=140737488355328/\1=1/\A4 Az=Ac/\(Ac=Ac\/A5 Az=Ab))<|vs 8 (Ak 0 0 (Aa O+Aa J) ((Aa O+Aa J)*1) Ab) (Ak 0 0 (Aa O+Aa J) (Aa O+Aa J) Ab) (hd:=by simp(disch:=omega) only[A_])<|vnil<|zE<|vN<|zA rfl<|vr 3 (i6 (↑q+1))<|vnil<|zC<|⟨q+1,O++J,⟨by omega,hsn.symm⟩,by omega,?_⟩;rw[Bb,AV];refine vk 1
  rw[AQ q3]at q2;rw[<-q2];have ht:(O.map rowV).take O.length=O.map rowV:=AQ (by omega);refine zB<|vAu<|vF ((q:Int)<↑(Aa W))<|vZ2<|vAe<|zJ<|zAu (True) (Ae (Ai (Aa O)<|Ag 0<|AG<|rrB<|Ad rowV O)<|Aa O) (Ae (Ad rowV O)<|Aa O) (.inr rfl) (by simp(disch:=omega) only[AJ,ht]) rfl
end
section
open Go.RowKit
def Cs.A(c:Cs):List (List Nat×List Rw):=(As c.V.length).map λi=>((c.V.getD i []).map Aj,relR (c.R.getD i []))
structure Cs.Good(c:Cs):Prop where
 s:c.Small
 l:c.V.length=c.R.length
 e:∀i,i<c.V.length->c.err i=0
 ck:icE c.n c.f c.desc.length c.P (c.ats c.V.length)=0
 f:c.Few
 t:c.Typ
theorem Cs.A_len(c:Cs):c.A.length=c.V.length:=by simp[Cs.A]
theorem Cs.Good.ok{c:Cs}(h:c.Good):AtOk c.n.toNat c.A:=by
 obtain⟨hs,hl,he,hc,hf,ht⟩:=h;obtain⟨i1,i2,i3,i4,i5,i6,i7,i8⟩:=Cs.ic hc;obtain⟨l1,l2,l3⟩:=Cs.lf hc;have hn6:c.n<=6:=by rcases hf.n with h|h<;>omega
 have hrow:∀i,i<c.V.length->(c.R.getD i []).length<=10/\∀x∈c.R.getD i [],x.length=(c.V.getD i []).length/\∀v∈x,vok v=Ab/\Vs v:=λi hi=>by
  have hm:c.R.getD i []∈c.R:=by rw[Ao,Ar (by omega)];exact Bl _
  refine⟨hf.r _ hm,λx hx=>?_⟩;have h1:=he i hi;unfold Cs.err rofA at h1;split at h1
  ·omega
  unfold rofE at h1;split at h1
  ·rename_i h2;exact absurd h1 h2
  rename_i h2;have h3:accL ((c.V.getD i []).length:Nat) (c.R.getD i [])=0:=BH h2;obtain⟨q1,q2⟩:=zX2 h3 x hx;refine⟨by omega,λv hv=>?_⟩;have h4:=AY.1 q2 v hv;exact⟨h4,(ht _ hm x hx v hv).vs h4⟩
 have hA:∀a∈c.A,∃i,i<c.V.length/\a=((c.V.getD i []).map Aj,relR (c.R.getD i [])):=λa ha=>by
  obtain⟨i,hi,e⟩:=Am.1 ha;exact⟨i,AT.1 hi,e.symm⟩
 refine⟨by omega,by rw[Cs.A_len];exact hf.V,λa ha=>?_,λa ha v hv=>?_,λv hv=>?_,λa ha=>?_,λa ha r hr=>?_,λa ha=>?_,λa ha r hr v hv=>?_⟩
 ·obtain⟨i,hi,rfl⟩:=hA a ha;obtain⟨q1,q2⟩:=Cs.vars hc hi;exact BQ.2 (q1.imp_of_mem λ{x y} hx hy h=>by have:=q2 x hx;have:=q2 y hy;omega)
 ·obtain⟨i,hi,rfl⟩:=hA a ha;obtain⟨z,hz,rfl⟩:=Am.1 hv
  have:=(Cs.vars hc hi).2 z hz
  omega
 ·have h1:(useP c.n.toNat (c.ats c.V.length) []).getD v Ab=true:=by
   cases e:(useP c.n.toNat (c.ats c.V.length) []).getD v Ab with
   |true=>rfl
   |false=>
    have hlen:=zKd c.n.toNat (c.ats c.V.length) [];rw[Ao,Ar (by omega),B1]at e;have:(useP c.n.toNat (c.ats c.V.length) []).contains Ac=true:=List.contains_iff_mem.2 (e▸Bl _);rw[l3]at this;cases this
  unfold useP at h1;rw[Ao,BE,List.getElem?_range hv,Option.map_some,B1]at h1;simp only[List.not_mem_nil,decide_false,Bool.or_false,Bp,decide_eq_true_eq]at h1;obtain⟨a,ha,hm⟩:=h1;obtain⟨i,hi,rfl⟩:=Am.1 ha;have hi:=AT.1 hi;exact⟨_,Am.2 ⟨i,AT.2 hi,rfl⟩,Am.2 ⟨(v:Int),hm,by omega⟩⟩
 ·obtain⟨i,hi,rfl⟩:=hA a ha;exact zWc _
 ·obtain⟨i,hi,rfl⟩:=hA a ha
  have:=((hrow i hi).2 r (zHd.1 hr)).1
  rw[this];simp
 ·obtain⟨i,hi,rfl⟩:=hA a ha;exact AE (zPa _) (hrow i hi).1
 obtain⟨i,hi,rfl⟩:=hA a ha;exact((hrow i hi).2 r (zHd.1 hr)).2 v hv
theorem Cs.Good.atD{c:Cs}(h:c.Good):c.A.flatMap atN=(c.ats c.V.length).flatMap atC:=by
 unfold Cs.A Cs.ats;rw[B3,B3,List.flatMap_def,List.flatMap_def];refine congrArg List.flatten (BT λi hi=>?_);have hi:=AT.1 hi;show[Ae (((c.V.getD i []).map Aj).map λv:Nat=>iD (v:Int)) ((c.V.getD i []).map Aj).length,iD (((c.V.getD i []).map Aj).length:Nat),_]=[Ae ((c.V.getD i []).map λz=>iD z) (c.V.getD i []).length,iD ((c.V.getD i []).length:Nat),_];rw[By,An];congr 2;exact BT λz hz=>by have:=(Cs.vars h.ck hi).2 z hz;show iD ((z.toNat:Nat):Int)=iD z;rw[show((z.toNat:Nat):Int)=z by omega]
theorem Cs.Good.inD{c:Cs}(h:c.Good):inpD c.n c.f c.desc c.P (c.ats c.V.length)= .agg [iD (c.n.toNat:Nat),iD (c.f.toNat:Nat), .row (c.desc.map bD) c.desc.length, .row (c.P.map λz=>iD z) c.P.length, .row (c.A.flatMap atN) c.A.length]:=by
 obtain⟨i1,i2,i3,i4,_⟩:=Cs.ic h.ck;rw[h.atD,Cs.A_len,show((c.n.toNat:Nat):Int)=c.n by omega,show((c.f.toNat:Nat):Int)=c.f by omega];show Aq [_,_,_,_, .row _ (c.ats c.V.length).length]=_;rw[Cs.ats_len]
theorem AtOk.ra{n:Nat}{A:List (List Nat×List Rw)}(h:AtOk n A):RaOk A:=by
 have hl:=h.l;have hv:∀a∈A,a.1.length<=32:=λa ha=>zB0 (A:=a.1) ⟨h.asc a ha,λv hv=>by have:=h.lt a ha v hv;have:=h.n8;omega⟩;refine⟨by omega,λa ha=>by have:=hv a ha;omega,h.few,λa ha r hr=>⟨by have:=hv a ha;rw[h.len a ha r hr];omega,λv hv=>?_⟩,h.len⟩
 have:=(h.val a ha r hr v hv).2.2.2
 omega
theorem AtOk.v32{n:Nat}{A:List (List Nat×List Rw)}(h:AtOk n A):∀a∈A,a.1.length<=32:=λa ha=>zB0 (A:=a.1) ⟨h.asc a ha,λv hv=>by have:=h.lt a ha v hv;have:=h.n8;omega⟩
theorem zPv{n:Nat}{A:List (List Nat×List Rw)}(h:AtOk n A){p:Rw}(hp:p.length<=n)(y:Rw):y∈zBz A (valF A) (n-p.length) p↔y.length=n/\y.take p.length=p/\SatA A λv=>y.getD v default:=by
 have:=zLz h.len (zZj A) (n-p.length) p y (λa ha v hv=>by have:=h.lt a ha v hv;omega) (λv _ hv=>h.cov v (by omega))
 rwa[show p.length+(n-p.length)=n by omega]at this
theorem zSw{n:Nat}{A:List (List Nat×List Rw)}(h:AtOk n A){p:Rw}(hp:p.length<=n):ansB n A p=decide (0<(zBz A (valF A) (n-p.length) p).length):=by
 rw[BD,zSv,decide_eq_true_eq,List.length_pos_iff];constructor
 ·rintro⟨y,hy⟩;exact List.ne_nil_of_mem ((zPv h hp y).2 hy)
 intro hne;obtain⟨y,hy⟩:=CS _ hne;exact⟨y,(zPv h hp y).1 hy⟩
theorem zPp{n:Nat}{A:List (List Nat×List Rw)}(h:AtOk n A){r:Rw}(hr:r.length<=n):lvlZ (λi=>decide (0<(zBz A (valF A) (n-i) (r.take i)).length)) r.length=lvlZ (λi=>ansB n A (r.take i)) r.length:=by
 refine zNa _ λi hi=>?_;have hl:(r.take i).length=i:=by rw[AS];omega
 rw[zSw h (by omega),hl]
theorem zXv{n:Nat}{A:List (List Nat×List Rw)}(h:AtOk n A){p:Rw}(hp:p.length<=n):zJk (A.map (zAw p))=rbst (λs=>decide (0<(alwS (zC8 A s) n p).length)) A.length (2^A.length-1):=by
 have hl:=h.l;rw[zXu _ (by rw[An];omega),An];refine zYe λs _=>?_;rw[BD,<-zNt (A:=A) (n:=n) (p:=p) s h.lt hp h.len,decide_eq_true_eq,List.length_pos_iff]
abbrev nuV(k:Int):Va:=⟨1,k,[]⟩
def whC:Cs:=⟨3,2,[Ac,Ac],[2],[[0,2],[1,2]],[[[nuV 1,nuV 5],[nuV 2,nuV 6]],[[nuV 7,nuV 5]]]⟩
def whA:List (List Nat×List Rw):=[([0,2],[[nuV 1,nuV 5],[nuV 2,nuV 6]]),([1,2],[[nuV 7,nuV 5]])]
theorem whC_s:whC.Small:=⟨by decide,by decide,by decide,by decide,by decide,by decide⟩
theorem whC_e:∀i,i<whC.V.length->whC.err i=0:=by
 have:∀i:Fin 2,whC.err i=0:=by decide+kernel
 exact λi hi=>this ⟨i,hi⟩
theorem whC_A:whC.A=whA:=by decide+kernel
theorem whC_g:whC.Good:=by
 refine⟨whC_s,rfl,whC_e,by decide+kernel,⟨by decide,by decide,by decide,by decide,by decide,by decide,by decide,by decide⟩,?_⟩;intro l hl x hx v hv;have hall:(whC.R.all λl=>l.all λx=>x.all λv=>decide ((-9223372036854775808<=v.kind/\v.kind<=9223372036854775807)/\(-9223372036854775808<=v.int/\v.int<=9223372036854775807)/\v.str.length<=2000000))=true:=by decide+kernel
 have h4:=AY.1 (AY.1 (AY.1 hall l hl) x hx) v hv;rw[decide_eq_true_eq]at h4;exact h4
theorem zFh:AtOk 3 whA:=whC_A▸whC_g.ok
theorem ex_ans:ansB 3 whA [nuV 1,nuV 7]=true:=by
 rw[zSw zFh (by decide)];decide+kernel
theorem ex_fir{y:Rw}(h:FirB 3 whA [nuV 1,nuV 7] y)(hy:y.length=3):y=[nuV 1,nuV 7,nuV 5]:=by
 obtain⟨z,z1,z2,z3⟩:=h.a;have e:y=z:=by
  rw[<-z2,AQ (by omega)]
 subst e;have hj:=(zPv zFh (p:=[nuV 1,nuV 7]) (by decide) y).2 ⟨z1,h.t,z3⟩;have he:zBz whA (valF whA) (3-[nuV 1,nuV 7].length) [nuV 1,nuV 7]=[[nuV 1,nuV 7,nuV 5]]:=by decide+kernel
 rw[he]at hj;exact A0.1 hj
theorem ex_lvl1:lvlZ (λi=>ansB 3 whA ([nuV 2,nuV 7].take i)) 2=0:=by
 have:=zPp zFh (r:=[nuV 2,nuV 7]) (by decide)
 rw[show 2=[nuV 2,nuV 7].length from rfl,<-this];decide+kernel
theorem ex_lvl2:lvlZ (λi=>ansB 3 whA ([nuV 1,nuV 8].take i)) 2=1:=by
 have:=zPp zFh (r:=[nuV 1,nuV 8]) (by decide)
 rw[show 2=[nuV 1,nuV 8].length from rfl,<-this];decide+kernel
theorem ex_best1:zJk (whA.map (zAw ([nuV 2,nuV 7].take 1)))=Aw [0,1]:=by
 rw[zXv zFh (by decide)];decide+kernel
theorem ex_best2:zJk (whA.map (zAw ([nuV 1,nuV 8].take 2)))=Aw [1]:=by
 rw[zXv zFh (by decide)];decide+kernel
end
section
open Go.RowKit
attribute [local irreducible] seqW awp zV zY zR Weak updS zZ retL Pure Acts rP setP setQ cP nP fr
set_option maxRecDepth 4096
theorem lfAll_c(n:Int)(ats:List At)(h0:0<=n)(hn:n<=32)(hl:∀a∈ats,a.V.length<=2000000):Pure Al 37 [iD n, .row (ats.flatMap atC) ats.length] [] (iD (lfE n ats)):=by
 obtain⟨k,rfl⟩:∃k:Nat,n=(k:Int):=⟨n.toNat,by omega⟩;grind [lfE,ats,lfMany_c,Au,lfCheck_c]
theorem Cs.ats_v{c:Cs}(h:c.Small){m:Nat}(hm:m<=c.V.length):∀a∈c.ats m,a.V.length<=2000000:=λa ha=>by
 obtain⟨i,hi,rfl⟩:=Am.1 ha;have hi:=AT.1 hi;refine h.v _ ?_;show c.V.getD i []∈c.V;rw[Ao,Ar (by omega)];exact Bl _
theorem zJj(c:Cs)(h:c.Small){m:Nat}(hm:m<=c.V.length):Pure Al 11 [inpD c.n c.f c.desc c.P (c.ats m)] [] (iD (icE c.n c.f c.desc.length c.P (c.ats m))):=by
 have hv:=Cs.ats_v h hm;have hV:=h.V;exact icheck_c c.n c.f c.desc c.P (c.ats m) h.d h.P (by rw[Cs.ats_len];omega) hv λh0 h1=>lfAll_c c.n _ h0 h1 hv
theorem valid_c(c:Cs)(h:c.Small):∃(m:Nat)(ok:Bool),m<=c.V.length/\(ok=Ab↔c.V.length=c.R.length/\(∀i,i<c.V.length->c.err i=0)/\icE c.n c.f c.desc.length c.P (c.ats c.V.length)=0)/\(ok=Ab->m=c.V.length)/\
  Pure Al 32 [.agg (csC c)] [] (.tup [inpD c.n c.f c.desc c.P (c.ats m),bD ok]):=by
 obtain⟨m,ok,h1,h2,h3,h4,h5⟩:=make_c c h;have hck:=zJj c h h1;cases ok
 ·refine⟨m,Ac,h1,⟨λhh=>(by cases hh),λhh=>?_⟩,λhh=>(by cases hh),?_⟩
  ·grind
  generalize c.ats m=ats at*;refine zH zBx mixed Tryz.func32 rfl<|vAu<|vA<|vr 1 (6<=6)<|vc (h5)<|ve (0<2/\1<2/\Ac=Ac/\Ab=Ab/\5=5/\5<=5)<|zB<|vd [1,2,0,3,4,5,6,7,8]<|ve (5<=5/\Ac=Ac/\Ab=Ab/\5=5/\5<=5)<|zJ<|vret (5<=5)<|.inr rfl
 have hm:=h4 rfl;obtain⟨q1,q2⟩:=h3.1 rfl;by_cases hz:icE c.n c.f c.desc.length c.P (c.ats m)=0
 ·refine⟨m,Ab,h1,⟨λ_=>⟨q1,q2,hm▸hz⟩,λ_=>rfl⟩,λ_=>hm,?_⟩;rw[hz]at hck;generalize c.ats m=ats at*;refine zH zBx mixed Tryz.func32 rfl<|vAu<|vA<|vr 1 (6<=6)<|vca [Aq [iD<|Cs.n c,iD<|Cs.f c,Ae (Ad bD<|BN c)<|Aa<|BN c,Ae (Ad (λ(z:Int)=>iD z)<|Cs.P c)<|Aa<|Cs.P c,Ae (Ad zBi<|Cs.V c)<|Aa<|Cs.V c,Ae (Ad zB8<|Cs.R c)<|Aa<|Cs.R c]] (by(first|exact h5|exact hck))<|ve (0<2/\1<2/\Ac=Ac/\Ab=Ab/\5=5/\5<=5)<|zB<|vd [1,2,0,3,4,5,6,7,8]<|vr 4 (5<=5/\5<=5)<|vca [Aq [iD<|Cs.n c,iD<|Cs.f c,Ae (Ad bD<|BN c)<|Aa<|BN c,Ae (Ad (λ(z:Int)=>iD z)<|Cs.P c)<|Aa<|Cs.P c,Ae (Ah atC ats)<|Aa ats]] (by(first|exact h5|exact hck))<|ve (True/\Ac=Ac/\Ab=Ab/\5=5/\5<=5)<|zJ<|vret (5<=5)<|.inr rfl
 refine⟨m,Ac,h1,⟨λhh=>(by cases hh),λhh=>absurd (hm▸hh.2.2) hz⟩,λhh=>(by cases hh),?_⟩;generalize icE c.n c.f c.desc.length c.P (c.ats m)=e at*;generalize c.ats m=ats at*;have hze:(e==0)=false:=by simpa using hz
 refine zH zBx mixed Tryz.func32 rfl<|vAu<|vA<|vr 1 (6<=6)<|vca [Aq [iD<|Cs.n c,iD<|Cs.f c,Ae (Ad bD<|BN c)<|Aa<|BN c,Ae (Ad (λ(z:Int)=>iD z)<|Cs.P c)<|Aa<|Cs.P c,Ae (Ad zBi<|Cs.V c)<|Aa<|Cs.V c,Ae (Ad zB8<|Cs.R c)<|Aa<|Cs.R c]] (by(first|exact h5|exact hck))<|ve (0<2/\1<2/\Ac=Ac/\Ab=Ab/\5=5/\5<=5)<|zB<|vd [1,2,0,3,4,5,6,7,8]<|vr 4 (5<=5/\5<=5)<|vca [Aq [iD<|Cs.n c,iD<|Cs.f c,Ae (Ad bD<|BN c)<|Aa<|BN c,Ae (Ad (λ(z:Int)=>iD z)<|Cs.P c)<|Aa<|Cs.P c,Ae (Ah atC ats)<|Aa ats]] (by(first|exact h5|exact hck))<|vrT 1<|vs 16 (bD (e==(0:Int))) (bD Ac)<|ve (Ac=Ac/\Ab=Ab/\5=5/\5<=5)<|zJ<|vret (5<=5)<|.inr rfl
def wckE(c:Cs)(m:Nat)(r:Rw):Int:=if icE c.n c.f c.desc.length c.P (c.ats m)≠0 then icE c.n c.f c.desc.length c.P (c.ats m)else if(r.length:Int)≠c.f then 6 else 0
theorem zVw(c:Cs)(h:c.Small){m:Nat}(hm:m<=c.V.length)(r:Rw)(hr:r.length<=2000000):Pure Al 33 [inpD c.n c.f c.desc c.P (c.ats m),rowV r] [] (iD (wckE c m r)):=by
 have hck:=zJj c h hm;unfold wckE;generalize icE c.n c.f c.desc.length c.P (c.ats m)=e at*;generalize c.ats m=ats at*;by_cases he:e=0
 ·subst he;rw[if_neg (by omega)];by_cases hf:(r.length:Int)=c.f
  ·rw[if_neg (by omega)];have h2:(((r.length:Nat):Int)!=c.f)=false:=by rw[hf];exact bne_self_eq_false _
   refine zH zBx mixed Tryz.func33 rfl<|vAu<|zB<|vA<|vr 1 (5<=5)<|vc (hck)<|veT<|vAe<|vf<|vK<|zB<|vA<|vr 5 (True/\0<4/\True)<|vs 15 (bD ((Aa r:Int)!=Cs.f c)) (bD Ac) (hd:=by simp(disch:=omega) only[h2])<|veT<|vf<|vK<|vAe<|zJ<|vret (True)<|.inr rfl
  rw[if_pos hf];have h2:(((r.length:Nat):Int)!=c.f)=true:=bne_iff_ne.2 hf;refine zH zBx mixed Tryz.func33 rfl<|vAu<|zB<|vA<|vr 1 (5<=5)<|vc (hck)<|veT<|vAe<|vf<|vK<|zB<|vA<|vr 5 (True/\0<4/\True)<|vs 15 (bD ((Aa r:Int)!=Cs.f c)) (bD Ab) (hd:=by simp(disch:=omega) only[h2])<|veT<|vt<|vAe<|zJ<|zF<|vret (True)<|.inr rfl
 rw[if_pos he];have h2:(e !=0)=true:=bne_iff_ne.2 he;refine zH zBx mixed Tryz.func33 rfl<|vAu<|zB<|vA<|vr 1 (5<=5)<|vc (hck)<|veT<|vA<|vrT 2<|vs 9 (bD (e !=(0:Int))) (bD Ab) (hd:=by simp(disch:=omega) only[h2])<|veT<|vt<|vAe<|zJ<|zF<|vret (True)<|.inr rfl
section
variable (n f : Int) (desc : List Bool) (P : List Int) (ats : List At) (cs : D) (r : Rw)
abbrev cs6(n f:Int)(a:List D)(b:Nat)(d:List D)(e:Nat)(g:List D)(h:Nat)(i:List D)(j:Nat):D:= .agg [iD n,iD f, .row a b, .row d e, .row g h, .row i j]
variable {a d g i : List D} {b e h j : Nat}
theorem wrong1_c(hm:Pure Al 29 [cs6 n f a b d e g h i j] [] (.tup [inpD n f desc P ats,bD Ac])):Pure Al 8 [cs6 n f a b d e g h i j,rowV r] [] (.tup [inpD n f desc P ats,iD 0,bD Ac]):=by
 refine zH zBx mixed BY rfl<|vAu<|vA<|vr 1 (6<=6)<|vc (hm)<|ve (0<2/\1<2/\Ac=Ac/\Ab=Ab/\5=5/\5<=5)<|zB<|vAe<|vt<|vA<|ve (5<=5/\Ac=Ac/\Ab=Ab/\5=5/\5<=5)<|zJ<|zF<|vret (5<=5)<|.inr rfl
theorem wrong2_c(hm:Pure Al 29 [cs6 n f a b d e g h i j] [] (.tup [inpD n f desc P ats,bD Ab]))(hfw:Pure Al 30 [cs6 n f a b d e g h i j] [] (bD Ac)):Pure Al 8 [cs6 n f a b d e g h i j,rowV r] [] (.tup [inpD n f desc P ats,iD 0,bD Ac]):=by
 refine zH zBx mixed BY rfl<|vAu<|vA<|vr 1 (6<=6)<|vc (hm)<|ve (0<2/\1<2/\Ac=Ac/\Ab=Ab/\5=5/\5<=5)<|zB<|vA<|vr 4 (6<=6)<|vc (hfw)<|veT<|vt<|vA<|ve (5<=5/\Ac=Ac/\Ab=Ab/\5=5/\5<=5)<|zJ<|zF<|vret (5<=5)<|.inr rfl
theorem wrong3_c(hm:Pure Al 29 [cs6 n f a b d e g h i j] [] (.tup [inpD n f desc P ats,bD Ab]))(hfw:Pure Al 30 [cs6 n f a b d e g h i j] [] (bD Ab))(hgr:Pure Al 31 [.row [rowV r] 1] [] (bD Ab)):Pure Al 8 [cs6 n f a b d e g h i j,rowV r] [] (.tup [inpD n f desc P ats,iD 0,bD Ac]):=by
 refine zH zBx mixed BY rfl<|vAu<|vA<|vr 1 (6<=6)<|vc (hm)<|ve (0<2/\1<2/\Ac=Ac/\Ab=Ab/\5=5/\5<=5)<|zB<|vA<|vr 4 (6<=6)<|vc (hfw)<|vr 5 ((1=1/\1<=1/\True)/\0<1/\1=1/\1<=16777216/\1<=9223372036854775807)<|vc (hgr)<|veT<|vt<|vA<|ve (5<=5/\Ac=Ac/\Ab=Ab/\5=5/\5<=5)<|zJ<|zF<|vret (5<=5)<|.inr rfl
theorem wrong4_c(k:Int)(hk:((r.length:Nat):Int)<=2000000)(hm:Pure Al 29 [cs6 n f a b d e g h i j] [] (.tup [inpD n f desc P ats,bD Ab]))(hfw:Pure Al 30 [cs6 n f a b d e g h i j] [] (bD Ab))(hgr:Pure Al 31 [.row [rowV r] 1] [] (bD Ac))(hck:Pure Al 11 [inpD n f desc P ats] [] (iD k)):Pure Al 8 [cs6 n f a b d e g h i j,rowV r] [] (.tup [inpD n f desc P ats,iD (if k≠0 then k else if(r.length:Int)≠f then 6 else 0),bD Ab]):=by
 by_cases he:k=0
 ·subst he;rw[if_neg (by omega)];by_cases hf:(r.length:Int)=f
  ·rw[if_neg (by omega)];have h2:(((r.length:Nat):Int)!=f)=false:=by rw[hf];exact bne_self_eq_false _
   refine zH zBx mixed BY rfl<|vAu<|vA<|vr 1 (6<=6)<|vc (hm)<|ve (0<2/\1<2/\Ac=Ac/\Ab=Ab/\5=5/\5<=5)<|zB<|vA<|vr 4 (6<=6)<|vc (hfw)<|vr 5 ((1=1/\1<=1/\True)/\0<1/\1=1/\1<=16777216/\1<=9223372036854775807)<|vc (hgr)<|veT<|vf<|vK<|vA<|vr 1 (5<=5)<|vc (hck)<|veT<|zB<|vA<|vr 8 (True/\True/\0<4/\True)<|vs 37 (bD ((Aa r:Int)!=f)) (bD Ac) (hd:=by simp(disch:=omega) only[h2])<|veT<|vf<|vK<|vA<|ve (5<=5/\Ac=Ac/\Ab=Ab/\5=5/\5<=5)<|zJ<|vret (5<=5)<|.inr rfl
  rw[if_pos hf];have h2:(((r.length:Nat):Int)!=f)=true:=bne_iff_ne.2 hf;refine zH zBx mixed BY rfl<|vAu<|vA<|vr 1 (6<=6)<|vc (hm)<|ve (0<2/\1<2/\Ac=Ac/\Ab=Ab/\5=5/\5<=5)<|zB<|vA<|vr 4 (6<=6)<|vc (hfw)<|vr 5 ((1=1/\1<=1/\True)/\0<1/\1=1/\1<=16777216/\1<=9223372036854775807)<|vc (hgr)<|veT<|vf<|vK<|vA<|vr 1 (5<=5)<|vc (hck)<|veT<|zB<|vA<|vr 8 (True/\True/\0<4/\True)<|vs 37 (bD ((Aa r:Int)!=f)) (bD Ab) (hd:=by simp(disch:=omega) only[h2])<|veT<|vt<|zA rfl<|veT<|vA<|ve (5<=5/\Ac=Ac/\Ab=Ab/\5=5/\5<=5)<|zJ<|vret (5<=5)<|.inr rfl
 rw[if_pos he];have h2:(k==0)=false:=beq_eq_false_iff_ne.2 he;refine zH zBx mixed BY rfl<|vAu<|vA<|vr 1 (6<=6)<|vc (hm)<|ve (0<2/\1<2/\Ac=Ac/\Ab=Ab/\5=5/\5<=5)<|zB<|vA<|vr 4 (6<=6)<|vc (hfw)<|vr 5 ((1=1/\1<=1/\True)/\0<1/\1=1/\1<=16777216/\1<=9223372036854775807)<|vc (hgr)<|veT<|vf<|vK<|vA<|vr 1 (5<=5)<|vc (hck)<|veT<|zB<|vA<|vrT 2<|vs 31 (bD (k==(0:Int))) (bD Ac) (hd:=by simp(disch:=omega) only[h2])<|veT<|vf<|vK<|vA<|ve (5<=5/\Ac=Ac/\Ab=Ab/\5=5/\5<=5)<|zJ<|vret (5<=5)<|.inr rfl
end
theorem wrong_c(c:Cs)(h:c.Small)(r:Rw)(hr:r.length<=2000000)(hs:∀v∈r,v.str.length<=2000000):∃(m:Nat)(ok:Bool)(e:Int),m<=c.V.length/\(ok=Ab->m=c.V.length/\c.V.length=c.R.length/\(∀i,i<c.V.length->c.err i=0)/\c.Few/\grtR r=Ac/\e=wckE c m r)/\Pure Al 8 [.agg (csC c),rowV r] [] (.tup [inpD c.n c.f c.desc c.P (c.ats m),iD e,bD ok]):=by
 obtain⟨m,ok,h1,_,h3,h4,h5⟩:=make_c c h;obtain⟨b,hb,hfw⟩:=few_c c h;have hgr:=great_c r hr hs;have hck:=zJj c h h1;cases ok
 ·exact⟨m,Ac,0,h1,λhh=>(by cases hh),wrong1_c _ _ _ _ _ r h5⟩
 cases b
 ·exact⟨m,Ac,0,h1,λhh=>(by cases hh),wrong2_c _ _ _ _ _ r h5 hfw⟩
 cases hg:grtR r;case true=>
  rw[hg]at hgr;exact⟨m,Ac,0,h1,λhh=>(by cases hh),wrong3_c _ _ _ _ _ r h5 hfw hgr⟩
 rw[hg]at hgr;exact⟨m,Ab,wckE c m r,h1,λ_=>⟨h4 rfl,(h3.1 rfl).1,(h3.1 rfl).2,hb rfl,rfl,rfl⟩,wrong4_c _ _ _ _ _ r _ (by omega) h5 hfw hgr hck⟩
end
end Go.Proofs.YthmfohpkimflhaaGreatDoor
