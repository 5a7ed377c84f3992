/- Texts of this claim, joined. -/
import Derived.Test.YthmfohpkimflhaaGreatDoorT03
import Derived.Lib.SlicesCompact
set_option linter.unusedVariables false
set_option linter.unusedSimpArgs false
namespace Go.Proofs.YthmfohpkimflhaaGreatDoor
open _root_.List renaming length->Aa,map->Ad,drop->Ag,flatMap->Ah,take->Ai,length_map->Al,getD_eq_getElem?_getD->Am,range->Ap,mem_map->Aq,getElem?_eq_getElem->Aw,replicate->AI,drop_zero->AJ,length_append->AL,take_of_length_le->AN,cons_append->AO,mem_filter->AP,getD->AQ,mem_cons->AR,nil_append->AS,length_cons->AT,length_take->AU,mem_cons_self->AZ,mem_range->A2,mem_singleton->A4,take_length->A5,all_eq_true->Bb,set->Bc,map_append->Bd,getElem_mem->Bg,pairwise_cons->Bh,filter_cons->Bl,mem_cons_of_mem->Bm,length_drop->Bn,any_eq_true->Bo,take_succ_eq_append_getElem->Bp,length_filter_le->Bq,filter_append->Br,mem_append->Bs,mem_flatMap->Bu,map_map->By,range_succ->BA,flatMap_append->BE,drop_eq_getElem_cons->BK,getElem?_map->BL,length_nil->BO,idxOf_lt_length_iff->BP,map_congr_left->BR,append_nil->BS,foldl_append->BU,pairwise_map->BV,length_singleton->BW,mem_of_find?_eq_some->BX,getElem_of_mem->BY,mem_append_left->B0,nodup_cons->B3,flatMap_map->B4,getElem_idxOf->B6,flatMap_singleton->B7,append_assoc->B8,find?_eq_none->B_,length_range->Ca,mem_append_right->Ce,Pairwise->Ch,getElem?_take->Cj,flatMap_cons->Ck,mem_of_mem_drop->Cv,map_replicate->Cy,map_cons->Cz,replicate_succ->CA,pairwise_iff_getElem->CG,findIdx?_cons->CK,take_append_drop->CL,drop_length->CN,eq_nil_of_length_eq_zero->CQ,getElem?_append_left->CR,getElem?_append_right->CS,exists_mem_of_ne_nil->CT,take_append_of_le_length->CU
open _root_.Bool renaming true->Ab,false->Ac,and_eq_true->Ba,or_eq_true->Bf,eq_iff_iff->Bt,false_or->Cf,not_eq_true'->Cx,not_true->CD,false_eq_true->CE
open D renaming row->Ae,osl->Aj,agg->Ar,val->Av,ptr->AB,own->AH
open _root_.Inhabited renaming default->Af
open _root_.Int renaming toNat->Ak,toNat_natCast->AA,fdiv->BJ
open _root_.Nat renaming lt_or_ge->An,le_trans->AE,le_refl->AK,testBit_and->A3,mul_one->A8,testBit_or->A9,le_mul_of_pos_right->Bv,pow_le_pow_right->Bx,zero_le->BC,testBit_two_pow->BD,zero_testBit->BF,eq_of_testBit_eq->BG,testBit_two_pow_sub_one->BT,min_eq_left->BZ,mul_le_mul_right->B1,succ->B5,zero_add->B9,lt_of_lt_of_le->Cg,testBit->Ci,two_pow_pos->Cq,lt_of_le_of_lt->Cr,shiftRight_eq_div_pow->CB,mul_le_mul_left->CC,exists_testBit_of_ne_zero->CH,testBit_lt_two_pow->CJ,lt_trichotomy->CM,and_le_left->CO
open _root_.Go.Proofs.Tryz renaming prog->Ao
open Value renaming int->As,string->Cp
open IntKind renaming u32->Au,wrap->AV,i64->AY,u64->Cd
open _root_.Option renaming some->Ax,none->AX,getD_some->B2
open _root_.BitVec renaming ofInt->Ay,toNat->AW
open Bk renaming mk->Az,cells->AD,kd->AF,ty->A6,sz->A7,arr->A_,fz->Bw
open Kd renaming plain->AC,isMap->A0,isSh->A1
open _root_.Prod renaming fst->AG,snd->AM
open Lib renaming compact->Bi,keeps->BB,compareBytes->BN,compactUpTo->CF
open _root_.ByteArray renaming size->Bj,data->Cu
open _root_.Classical renaming propDecidable->BH,byContradiction->BM
open Va renaming mk->BI
open LeL renaming of_eq->BQ
open _root_.Array renaming getD->Cb
open _root_.UInt8 renaming lt_iff_toNat_lt->Cc,toNat->Ct
open TypeInfo renaming desc->Cl,mk->Cn
open TypeDesc renaming int->Co
section
open Go.RowKit
attribute [local irreducible] seqW awp zW zY zR Weak updS zZ retL Pure Acts rP setP setQ cP nP fr
set_option maxRecDepth 4096
theorem zJj(l:List (Fa Bool)):(l.flatMap zAd).length=l.length*3:=zEl zAw l
theorem zXw(v:Nat)(fs:List (Fa Bool))(k:Nat)(h:k<fs.length):zGo v (fs.take (k+1))=zGo v (fs.take k)++(if v∈(fs.getD k Af).A then[fs.getD k Af]else[])/\zEz v (fs.take (k+1))=zEz v (fs.take k)++(if v∈(fs.getD k Af).A then[]else[fs.getD k Af]):=by
 rw[zAr fs k h];unfold zGo zEz;rw[Br,Br];constructor<;>congr 1<;>by_cases hc:v∈(fs.getD k Af).A<;>simp[Bl,hc]
theorem zPv(l:List (Fa Bool))(f:Fa Bool):(l++[f]).flatMap zAd=l.flatMap zAd++zAd f:=by simp
section
variable {Dm : List Va}
set_option maxHeartbeats 8000000 in
theorem zRx(hD:Okv Dm)(fs:List (Fa Bool))(v:Nat)(hf:∀f∈fs,FOk rcmp Dm f)(hl:fs.length<=500)(hr:pz rz fs<=900000)(hz:pz bz fs<=Bz)(hv:∃f∈fs,v∈f.A)(hv32:v<32):
  Pure Ao 91 [booD, .row (fs.flatMap zAd) fs.length,iD (v:Nat)] [] (.row ((elim rcmp Sb v fs).flatMap zAd) (elim rcmp Sb v fs).length):=by
 have hg:∀f∈fs,GofB Dm f:=λf h=>⟨hf f h,AE (zWa zK6 h) hr,AE (zWa zMk h) hz⟩;refine zH zY0 mixed Tryz.func91 rfl<|zB<|zA rfl<|v0s<|veT<|zB<|zA rfl<|veT<|zB<|zB<|zA rfl<|veT<|zF<|zBg (λ(k:Nat)(a:List (Fa Bool))(b:List (Fa Bool))=>fr 65 [(0,booD),(2,iD (v:Int)),(6,nl),(7,Aj 0 0 (Aa a) (Aa a*3) Ab),(8,Aj 1 0 (Aa b) (Aa b*3) Ab),(14,Ae (Ah zAd fs)<|Aa fs),(15,iD (Aa fs:Int)),(16,iD (k:Int))]) (λ(k:Nat)(a:List (Fa Bool))(b:List (Fa Bool))=>[fsBB<|a.flatMap zAd,fsBB<|b.flatMap zAd]) (λk a b=>fs.length-k) (λ(k:Nat)(a:List (Fa Bool))(b:List (Fa Bool))=>k<=fs.length/\a=zGo v (fs.take k)/\b=zEz v (fs.take k)) 0 [] [] ?_ ?_ ?_
 ·exact⟨by omega,rfl,rfl⟩
 ·refine vk 0
 rintro k a b ⟨h1,ha,hb⟩;rcases An k fs.length with h2|h2
 ·have hmf:=zAc fs Af k h2;have hg2:=zJy zAw fs k h2;have hle:=zDd zAw fs k h2;have hne2:=zDc zAw (by decide) fs;have hAf:=(hf _ hmf).asc;have nAf:=zB0 hAf;have sA:=zJh (fs.getD k Af).A _ rfl (by omega) hAf.2 (zAg (fs.getD k Af).l) (zAo (fs.getD k Af).l) (fs.getD k Af).l.length (fs.getD k Af).l.length;have hma:=zDl hAf.2;have w1:=zSb hma v;have w2:=bit_w hma v;rw[zBz]at w1 w2;have w3:=zEu (msk (fs.getD k Af).A) hv32;obtain⟨u1,u2⟩:=zXw v fs k h2;rw[<-ha]at u1;rw[<-hb]at u2;have la:a.length<=500:=by rw[ha];exact AE (Bq _ _) (by simp;omega)
  have lb:b.length<=500:=by rw[hb];exact AE (Bq _ _) (by simp;omega)
  have ca:=zJj a;have cb:=zJj b;generalize fs.getD k Af=f at*;focus
   refine zB<|zA rfl<|v0s<|veT<|zB<|vT ((k:Int)<(Aa fs:Int))<|zL<|zC<|zD<|zB<|zF<|zB<|zA rfl<|vr 2 (ix (k:Int) (Aa fs:Int) (Ah zAd fs≠[])/\3<=Aa (Ag (k*3)<|Ah zAd fs))<|vs 19 (Ar<|Ai 3<|Ag (k*3)<|Ah zAd fs) (Ar<|zAd f) (hd:=by simp(disch:=omega) only[hg2])<|ve (Ac=Ac/\Ab=Ab/\3=3/\3<=3)<|zB<|zA rfl<|vr 1 (3<=3)<|vc (sA)<|vr 2 ((0:Int)<=(v:Int))<|vs 23 (Av<|As Au<|BJ (↑(msk<|Fa.A f):Int) ((2:Int)^min (Ak (v:Int)) 32)) (dig (msk (Fa.A f)>>>v)) (hd:=by simp(disch:=omega) only[AA,w3])<|vrT 1<|vs 24 (Av<|As Au<|AV Au (↑(AW (Ay 32 (↑(msk (Fa.A f)>>>v):Int)&&&Ay 32 (1:Int))):Int)) (dig<|AW (Ay 32 (↑(msk (Fa.A f)>>>v):Int)&&&Ay 32 (1:Int))) (hd:=by simp(disch:=omega) only[zA8])<|vrT 1<|vs 25 (bD ((↑(AW (Ay 32 (↑(msk (Fa.A f)>>>v):Int)&&&Ay 32 (1:Int))):Int)==(1:Int))) (bD<|decide (v∈Fa.A f)) (hd:=by simp(disch:=omega) only[w1])<|veT<|vcD (v∈Fa.A f) (λhc=>?_)<|λhc=>?_;refine zA rfl<|vr 5 (3<=3/\((3=3/\3<=3/\True)/\0<3/\3=3/\3<=16777216/\1<=9223372036854775807)/\A_ (fsBB<|Ah zAd a)=Ab/\Aa (AD<|fsBB<|Ah zAd a)=Aa a*3/\Aa a*3=Aa a*3/\A6 (fsBB<|Ah zAd a)=133/\A7 (fsBB<|Ah zAd a)=3/\3=3/\0<3/\0<72/\133=133/\(Aa a+1)*72<=140737488355328/\3=3/\A0 (AF<|fsBB<|Ah zAd a)=Ac/\(Ac=Ac\/A1 (AF<|fsBB<|Ah zAd a)=Ab))<|vnil<|zE<|zC<|zD<|zA rfl<|vr 2 (i6 ((k:Int)+(1:Int)))<|vnil<|zC ?_;rotate_left;refine zA rfl<|vr 5 (3<=3/\((3=3/\3<=3/\True)/\0<3/\3=3/\3<=16777216/\1<=9223372036854775807)/\A_ (fsBB<|Ah zAd b)=Ab/\Aa (AD<|fsBB<|Ah zAd b)=Aa b*3/\Aa b*3=Aa b*3/\A6 (fsBB<|Ah zAd b)=133/\A7 (fsBB<|Ah zAd b)=3/\3=3/\0<3/\0<72/\133=133/\(Aa b+1)*72<=140737488355328/\3=3/\A0 (AF<|fsBB<|Ah zAd b)=Ac/\(Ac=Ac\/A1 (AF<|fsBB<|Ah zAd b)=Ab))<|vnil<|zE<|zC<|zD<|zA rfl<|vr 2 (i6 ((k:Int)+(1:Int)))<|vnil<|zC ?_;rotate_left
  ·rw[if_pos hc]at u1 u2;rw[BS]at u2;refine⟨k+1,a++[f],b,⟨by omega,u1.symm,u2.symm⟩,by omega,?_⟩;rw[zPv,zLr];refine vk 2
  rw[if_neg hc]at u1 u2;rw[BS]at u1;refine⟨k+1,a,b++[f],⟨by omega,u1.symm,u2.symm⟩,by omega,?_⟩;rw[zPv,zLr];refine vk 2
 rw[AN (by omega)]at ha hb;have hperm:=zD5 v fs;rw[<-ha,<-hb]at hperm;have hpr:=zS4 rz hperm;have hpv:=zS4 bz hperm;have hmem:=λf=>hperm.mem_iff (a:=f);have hvin:∀f∈a,v∈f.A:=λf h=>by
  rw[ha,zGo,AP]at h;simpa using h.2
 have hlen:=hperm.length_eq;rw[AL]at hlen;cases a with
 |nil=>
  exfalso;obtain⟨f,h5,h6⟩:=hv;have:f∈zGo v fs:=AP.2 ⟨h5,by simpa using h6⟩;rw[<-ha]at this;simp at this
 | cons p ws=>
  have hel:elim rcmp Sb v fs=b++[fsum rcmp Sb v (zC3 rcmp Sb p ws b)]:=by
   unfold elim;rw[<-ha,<-hb]
  rw[hel];clear hel ha hb hv;have h0:((p::ws).flatMap zAd).take 3=zAd p:=rfl;have hfa:=zFg zAw (p::ws) (ws.length+1) rfl;have hfb:=zFg zAw b _ rfl;refine zB<|zA rfl<|v0s<|veT<|zB<|vF ((k:Int)<(Aa fs:Int))<|zV<|zM<|zM<|zS rfl<|zC<|zD<|zB<|zA rfl<|vr 5 (((0:Int)<=(0:Int)/\(0:Int)<(↑(Aa ws+1):Int))/\3<=Aa (Ag 0<|AD<|fsBB<|Ah zAd (p::ws))/\Ac=Ac/\Ab=Ab/\3=3/\3<=3)<|vnil<|zC<|vnn (fr 65 [(0,booD),(2,iD (v:Int)),(6,nl),(7,Aj 0 0 (Aa (p::ws)) (Aa (p::ws)*3) Ab),(8,Aj 1 0 (Aa b) (Aa b*3) Ab),(11,AH 2 0),(14,Ae (Ah zAd fs)<|Aa fs),(15,iD (Aa fs:Int)),(16,iD (k:Int)),(17,bD<|decide ((k:Int)<(Aa fs:Int))),(35,Aj 0 0 (Aa ws+1) ((Aa ws+1)*3) Ab),(36,AH 0 0),(37,Ar [Ae (nsD<|Fa.A p)<|Aa<|Fa.A p,Ae (zAg<|Fa.l p)<|Aa<|Fa.l p,Ae (zAo<|Fa.l p)<|Aa<|Fa.l p])]) [fsBB<|Ah zAd (p::ws),fsBB<|Ah zAd b,Az [Ae (nsD<|Fa.A p)<|Aa<|Fa.A p,Ae (zAg<|Fa.l p)<|Aa<|Fa.l p,Ae (zAo<|Fa.l p)<|Aa<|Fa.l p] 133 0 Ac Ac AC] ?_;clear h1 h2 hperm;refine zCd (((Weak.osr (s:=7) (k:=0) (off:=0) (n:=ws.length+1) (m:=(ws.length+1)*3) (wh:=Ab) (cs:=(p::ws).flatMap zAd) (by kernel_rfl) (by exact(show Ax (Ae ((((p::ws).flatMap zAd).drop 0).take ((ws.length+1)*3)) (ws.length+1),[0])=_ by rw[AJ,hfa]))).trans (Weak.osr (s:=8) (k:=1) (off:=0) (n:=b.length) (m:=b.length*3) (wh:=Ab) (cs:=b.flatMap zAd) (by kernel_rfl) (by exact(show Ax (Ae (((b.flatMap zAd).drop 0).take (b.length*3)) b.length,[1])=_ by rw[AJ,hfb])))).trans<|Weak.leS (s:=7) (d':= .row ((p::ws).flatMap zAd) (ws.length+1)) (by kernel_rfl)<|LeD.osr_row 0 0 (ws.length+1) ((ws.length+1)*3) Ab<|(p::ws).flatMap zAd) ?_;have hs1:((p::ws).flatMap zAd).drop 3=ws.flatMap zAd:=rfl;have hs2:(ws.flatMap zAd).take (ws.length*3)=ws.flatMap zAd:=zFg zAw ws _ rfl;have hwl:ws.length<=500:=by simp only[AT]at hlen;omega
  refine zB<|zB<|zA rfl<|v0s<|vr 2 ((0:Int)<=(1:Int)/\True/\True/\0<3/\1<=Aa ws+1/\Aa ws+1<=Aa ws+1/\Aa ws+1=Aa ws+1)<|vs 39 (Ae (Ai ((Aa ws+1-1)*3)<|Ag 3<|Ah zAd (p::ws)) (Aa ws+1-1)) (Ae (Ah zAd ws)<|Aa ws) (hd:=by simp(disch:=omega) only[Nat.add_sub_cancel,hs1,hs2])<|veT<|zF ?_;have hp1:=hf p ((hmem p).1 (by simp));have hws:∀f∈ws,f∈fs:=λf h=>(hmem f).1 (B0 _ (Bm _ h));have hbs:∀f∈b,f∈fs:=λf h=>(hmem f).1 (Ce _ h);have b1:rz p*pz rz ws<=900000:=by
   rw[zQz,zCm]at hpr;exact AE (Bv _ (zJt zK6 b)) (by omega)
  have b2:bz p*pz bz ws<=Bz:=by
   rw[zQz,zCm]at hpv;exact AE (Bv _ (zJt zMk b)) (by omega)
  refine zBg (λ(t:Nat)(A:List Nat)(l:List (Rw×Bool))=>fr 65 [(0,booD),(2,iD (v:Int)),(6,nl),(7,Ae (Ah zAd (p::ws)) (Aa ws+1)),(8,D.osr 1 0 (Aa b) (Aa b*3) Ab<|Ah zAd b),(11,AH 2 0),(39,Ae (Ah zAd ws)<|Aa ws),(40,iD (Aa ws:Int)),(41,iD (t:Int))]) (λ(t:Nat)(A:List Nat)(l:List (Rw×Bool))=>[⟨(p::ws).flatMap zAd,133,3,Ab,Ab,.plain⟩,⟨b.flatMap zAd,133,3,Ab,Ab,.plain⟩,fB1B (.row (nsD A) A.length) (.row (zAg l) l.length)<|.row (zAo l) l.length]) (λt A l=>ws.length-t) (λ(t:Nat)(A:List Nat)(l:List (Rw×Bool))=>t<=ws.length/\zC3 rcmp Sb ⟨A,l⟩ (ws.drop t) b=zC3 rcmp Sb p ws b/\FOk rcmp Dm ⟨A,l⟩/\rz (⟨A,l⟩:Fa Bool)*pz rz (ws.drop t)<=900000/\bz (⟨A,l⟩:Fa Bool)*pz bz (ws.drop t)<=Bz/\v∈A) 0 p.A p.l ?_ ?_ ?_
  ·exact⟨by omega,rfl,hp1,b1,b2,hvin p (by simp)⟩
  ·refine vk 3
  rintro t A l ⟨t1,t2,t3,t4,t5,t6⟩;rcases An t ws.length with t7|t7
  ·have hmf:=zAc ws Af t t7;have hg2:=zJy zAw ws t t7;have hle:=zDd zAw ws t t7;have hne2:=zDc zAw (by decide) ws;have hdr:ws.drop t=ws.getD t Af::ws.drop (t+1):=by
    rw[BK t7,Am,Aw t7];rfl
   rw[hdr]at t2 t4 t5;rw[zCm,<-Nat.mul_assoc]at t4 t5;have q1:rz (⟨A,l⟩:Fa Bool)*rz (ws.getD t Af)<=900000:=AE (Bv _ (zJt zK6 _)) t4;have q2:bz (⟨A,l⟩:Fa Bool)*bz (ws.getD t Af)<=Bz:=AE (Bv _ (zJt zMk _)) t5;have gA:GofB Dm ⟨A,l⟩:=⟨t3,AE (Bv _ (zK6 _)) q1,AE (Bv _ (zMk _)) q2⟩;have hmul:=zJx hD ⟨A,l⟩ (ws.getD t Af) (ws.drop (t+1)++b) gA (hg _ (hws _ hmf)) (λo ho=>by
    rcases Bs.1 ho with h|h
    ·exact hg _ (hws _ (Cv h))
    exact hg _ (hbs _ h)) (by rw[AL,Bn];simp only[AT]at hlen;omega) q1
   have r1:=zTj (c:=rcmp) Sb ⟨A,l⟩ (ws.getD t Af) (ws.drop (t+1)++b);have r2:=zTk (c:=rcmp) ⟨A,l⟩ (ws.getD t Af) (ws.drop (t+1)++b);have r3:=zPr (S:=Sb) rcw t3 (hf _ (hws _ hmf)) (ws.drop (t+1)++b);have r4:=AE (B1 (pz rz (ws.drop (t+1))) r1) t4;have r5:=AE (B1 (pz bz (ws.drop (t+1))) r2) t5;have r6:v∈(fmul rcmp Sb ⟨A,l⟩ (ws.getD t Af) (ws.drop (t+1)++b)).A:=zFf.2 ⟨hv32, .inl t6⟩;rw[zC3]at t2;have hcc:=concat_cB ((ws.drop (t+1)).flatMap zAd) (b.flatMap zAd) (ws.drop (t+1)).length b.length (zJj _) (zJj _) (by rw[Bn];simp only[AT]at hlen;omega) (by simp only[AT]at hlen;omega) (λ_ _=>trivial);rw[<-BE,<-AL]at hcc;have hsl:((p::ws).flatMap zAd).drop ((t+2)*3)=(ws.drop (t+1)).flatMap zAd:=by
    rw[zTm zAw];rfl
   have hsn:ws.length+1-(t+2)=(ws.drop (t+1)).length:=by rw[Bn];omega
   have hst:=zFg zAw (ws.drop (t+1)) _ rfl;generalize ws.getD t Af=f at*;generalize fmul rcmp Sb ⟨A,l⟩ f (ws.drop (t+1)++b)=q at*;obtain⟨A',l'⟩:=q;have cast2:(t:Int)+2=((t+2:Nat):Int):=by omega
   refine zB<|zA rfl<|v0s<|veT<|zB<|vT ((t:Int)<(Aa ws:Int))<|zL<|zC<|zD<|zB<|zF<|zB<|zA rfl<|vr 3 (ix (t:Int) (Aa ws:Int) (Ah zAd ws≠[])/\3<=Aa (Ag (t*3)<|Ah zAd ws))<|vs 45 (Ar<|Ai 3<|Ag (t*3)<|Ah zAd ws) (Ar<|zAd f) (hd:=by simp(disch:=omega) only[hg2])<|ve (Ac=Ac/\Ab=Ab/\3=3/\3<=3)<|vd [0,3,4,5,6,7,1,2,8,9,10,11]<|vr 5 (i6 ((t:Int)+(2:Int))/\(0:Int)<=(↑(t+2):Int)/\True/\True/\0<3/\Ak (↑(t+2):Int)<=Aa ws+1/\Aa ws+1<=Aa ws+1/\Aa ws+1=Aa ws+1)<|vs 52 (Ae (Ai ((Aa ws+1-Ak (↑(t+2):Int))*3)<|Ag (Ak (↑(t+2):Int)*3)<|Ah zAd (p::ws)) (Aa ws+1-Ak (↑(t+2):Int))) (Ae (Ah zAd<|Ag (t+1) ws)<|Aa<|Ag (t+1) ws) (hd:=by simp(disch:=omega) only[AA,hst,hsl,hsn])<|vr 4 (3<=3/\3<=3/\(1=1/\1<=2/\1=1/\2<=2/\True)/\0<1/\1=1/\2<=16777216/\2<=9223372036854775807)<|vc (hcc)<|vc (hmul)<|vr 1 (Bw (fB1B (Ae (nsD A)<|Aa A) (Ae (zAg l)<|Aa l)<|Ae (zAo l)<|Aa l)=Ac/\Ab=Ab/\3=3/\3<=3)<|vnil<|zE<|zC<|zD<|zA rfl<|vr 2 (i6 ((t:Int)+(1:Int)))<|vnil<|zC<|⟨t+1,A',l',⟨by omega,t2,r3,r4,r5,r6⟩,by omega,?_⟩;refine vk 3
  rw[List.drop_of_length_le t7]at t2 t4 t5;simp only[pz,List.foldr_nil,A8,zC3]at t2 t4 t5;have hsum:=zX0 hD ⟨A,l⟩ ⟨t3,t4,t5⟩ v t6;rw[<-t2,zPv,zLr];have cb:=zJj b;generalize fsum rcmp Sb v ⟨A,l⟩=q at*;obtain⟨A',l'⟩:=q;have ht:(b.flatMap zAd++zAd ⟨A',l'⟩).take ((b.length+1)*3)=b.flatMap zAd++zAd ⟨A',l'⟩:=AN (by rw[AL,cb];show _+3<=_;omega);refine zB<|zA rfl<|v0s<|veT<|zB<|vF ((t:Int)<(Aa ws:Int))<|zV<|zM<|zM<|zS rfl<|zC<|zD<|zB<|zA rfl<|vr 4 (3<=3)<|vc (hsum)<|ve (((3=3/\3<=3/\True)/\0<3/\3=3/\3<=16777216/\1<=9223372036854775807)/\A_ (Az (Ah zAd b) 133 3 Ab Ab AC)=Ab/\Aa (Ah zAd b)=Aa b*3/\Aa b*3=Aa b*3/\A6 (Az (Ah zAd b) 133 3 Ab Ab AC)=133/\A7 (Az (Ah zAd b) 133 3 Ab Ab AC)=3/\3=3/\0<3/\0<72/\133=133/\(Aa b+1)*72<=140737488355328/\3=3/\A0 (AF<|Az (Ah zAd b) 133 3 Ab Ab AC)=Ac/\(Ac=Ac\/A1 (AF<|Az (Ah zAd b) 133 3 Ab Ab AC)=Ab))<|zJ<|zAs (True) (Ae (Ai ((Aa b+1)*3)<|Ag 0 (Ah zAd b++[Ae (nsD A')<|Aa A',Ae (zAg l')<|Aa l',Ae (zAo l')<|Aa l'])) (Aa b+1)) (Ae (Ah zAd b++zAd (Fa.mk A' l')) (Aa b+1)) (.inr rfl) (by simp(disch:=omega) only[AJ,ht]) rfl
end
section
variable {Dm : List Va}
set_option maxHeartbeats 8000000 in
theorem zTa(hD:Okv Dm)(hDn:Dm.Nodup)(n keep:Nat)(fs:List (Fa Bool))(hn:n<=8)(hk:keep<4294967296)(hf:∀f∈fs,FOk rcmp Dm f)(hl:fs.length<=500)(hr:2*pz rz fs<=900000)(hz:2*pz bz fs<=Bz)
  (hcv:∀v,v<n->∃f∈fs,v∈f.A)(hck:Pure Ao 88 [iD (n:Nat),u32D keep, .row (fs.flatMap zAd) fs.length] [] (iD 0)):
  Pure Ao 69 [booD,iD (n:Nat),u32D keep, .row (fs.flatMap zAd) fs.length] [] (.tup [faAB (zE4 popN rcmp Sb fs ((Ap n).filter λv=>!keep.testBit v)),iD 0]):=by
 have hcl:=cloneF_cB (fs.flatMap zAd) fs.length (zJj fs) (by omega);have w2:=zEv (v:=n) (by omega);have h2n:2^n<=256:=Bx (n:=2) (by omega) hn;have h1n:=Nat.one_le_two_pow (n:=n);have w3:((2^n:Nat):Int)-1=((2^n-1:Nat):Int):=by omega
 have w4:=zAx (n:=2^n-1) (by omega);have w5:=an_keep (n:=n) (by omega) hk;have hEa:Asc ((Ap n).filter λv=>!keep.testBit v):=⟨(List.pairwise_lt_range (n:=n)).filter _,λv hv=>by have:=(AP.1 hv).1;simp at this;omega⟩;have hEc:∀v∈(Ap n).filter (λv=>!keep.testBit v),∃f∈fs,v∈f.A:=λv hv=>hcv v (by have:=(AP.1 hv).1;simpa using this);generalize (Ap n).filter (λv=>!keep.testBit v)=E at*;have w6:=zAx (zDl hEa.2);refine zH (T:=Tc) (zVj _ _ _) mixed Tryz.func69 rfl<|zB<|zA rfl<|v0s<|veT<|zB<|zB<|zA rfl<|vrT 3<|vc (hck)<|veT<|zB<|zA rfl<|veT<|vf<|zL<|zC<|zD<|zB<|zA rfl<|vrT 1<|vc (hcl)<|veT<|zB<|zB<|zA rfl<|vr 2 ((0:Int)<=(n:Int))<|vs 28 (Av<|As Au<|AV Au ((1:Int)*(2:Int)^min (Ak (n:Int)) 32)) (dig ((2:Nat)^n)) (hd:=by simp(disch:=omega) only[AA,w2])<|vr 1 (u3 ((↑((2:Nat)^n):Int)-(1:Int)))<|vs 29 (Av<|As Au ((↑((2:Nat)^n):Int)-(1:Int))) (dig ((2:Nat)^n-1)) (hd:=by simp(disch:=omega) only[w3])<|vrT 2<|vs 31 (Av<|As Au<|AV Au (↑(AW (Ay 32 (↑((2:Nat)^n-1):Int)&&&~~~Ay 32 (keep:Int))):Int)) (dig<|msk E) (hd:=by simp(disch:=omega) only[w5,w6])<|veT<|zF<|zBg (λ(i:Nat)(L:List (Fa Bool))(F:List Nat)=>fr 68 [(0,booD),(8,AH 0 0),(9,iD 0),(11,Ae (Ah zAd L)<|Aa L),(12,u32D<|msk F)]) (λ(i:Nat)(L:List (Fa Bool))(F:List Nat)=>[fB1B nl nl nl]) (λi L F=>i) (λ(i:Nat)(L:List (Fa Bool))(F:List Nat)=>i=F.length/\Asc F/\(∀v∈F,∃f∈L,v∈f.A)/\(∀f∈L,FOk rcmp Dm f)/\L.length<=500/\2*pz rz L<=900000/\2*pz bz L<=Bz/\zGi popN rcmp Sb F.length L F=zGi popN rcmp Sb E.length fs E) E.length fs E ?_ ?_ ?_
 ·exact⟨rfl,hEa,hEc,hf,hl,hr,hz,rfl⟩
 ·refine vk 1
 rintro i L F ⟨rfl,f1,f2,f3,f4,f5,f6,f7⟩;by_cases hF:F=[]
 ·subst hF;have hL:zGi popN rcmp Sb E.length fs E=L:=f7.symm;have hres:zE4 popN rcmp Sb fs E=zC3 rcmp Sb (zJ3 Sb) L []:=by unfold zE4;rw[hL]
  rw[hres];have m0:msk []=0:=rfl;rw[m0];obtain⟨o,ho⟩:∃o:Bool,o=true:=⟨_,rfl⟩;refine zB<|zB<|zA rfl<|v0s<|veT<|vf<|zV<|zM<|zM<|zS rfl<|zC<|zD<|zB<|zA rfl<|vr 3 ((True/\0<3/\3=3/\0<=16777216/\0<=9223372036854775807)/\(1=1/\1<=1/\True)/\0<1/\1=1/\1<=16777216/\1<=9223372036854775807)<|vc (bone_c o ho)<|vr 4 (((1=1/\1<=1/\True)/\0<1/\1=1/\1<=16777216/\1<=9223372036854775807)/\((1=1/\2<=3/\1=1/\3<=3/\True)/\Ab=Ab)/\Ac=Ac/\Ab=Ab/\3=3/\3<=3)<|vnil<|zC<|vnn (fr 68 [(0,booD),(8,AH 0 0),(9,iD 0),(11,Ae (Ah zAd L)<|Aa L),(12,u32D 0),(14,AH 4 0),(33,bD Ac),(45,Aj 1 0 0 0 Ab),(46,Aj 2 0 1 1 Ab),(47,D.ifc 129<|Ar []),(48,bD o),(49,Aj 3 0 1 1 Ab),(50,Ar [nl,Aj 2 0 1 1 Ab,Aj 3 0 1 1 Ab])]) [fB1B nl nl nl,Az [] 73 3 Ab Ab AC,Az [Ae [] 0] 29 1 Ab Ac AC,Az [bD o] 4 1 Ab Ac AC,Az [nl,Aj 2 0 1 1 Ab,Aj 3 0 1 1 Ab] 133 0 Ac Ac AC] ?_;clear hck hcl hcv hEa hEc w5 w6 f1 f2 f7 hL hres;refine zCd ((Weak.fzCell (j:=4) (i:=1) (d:= .osl 2 0 1 1 Ab) (x:= .row [.row [] 0] 1) (ks:=[2]) rfl rfl rfl rfl (by exact rfl) (by decide)).trans<|(Weak.fzCell (j:=4) (i:=2) (d:= .osl 3 0 1 1 Ab) (x:= .row [bD o] 1) (ks:=[3]) rfl rfl rfl rfl (by exact rfl) (by decide)).trans<|Weak.leC (j:=4) (i:=0) (d':= .row [] 0) rfl rfl rfl LeD.nil_row) ?_;refine zB<|zB<|zA rfl<|v0s<|veT<|zF ?_;have hu:(zJ3 Sb:Fa Bool)=⟨[],[([],o)]⟩:=by rw[ho];rfl
  have hU:FOk rcmp Dm (⟨[],[([],o)]⟩:Fa Bool):=hu▸zSs;have u1:rz (⟨[],[([],o)]⟩:Fa Bool)=2:=rfl;have u2:bz (⟨[],[([],o)]⟩:Fa Bool)<=2:=by rw[ho];decide
  rw[hu];refine zBg (λ(t:Nat)(A:List Nat)(l:List (Rw×Bool))=>fr 68 [(0,booD),(8,AH 0 0),(9,iD 0),(11,Ae (Ah zAd L)<|Aa L),(14,AH 4 0),(51,Ae (Ah zAd L)<|Aa L),(52,iD (Aa L:Int)),(53,iD (t:Int))]) (λ(t:Nat)(A:List Nat)(l:List (Rw×Bool))=>[fB1B nl nl nl,⟨[],73,3,Ab,Ab,.plain⟩,⟨[.row [] 0],29,1,Ab,Ab,.plain⟩,⟨[bD o],4,1,Ab,Ab,.plain⟩,fB1B (.row (nsD A) A.length) (.row (zAg l) l.length)<|.row (zAo l) l.length]) (λt A l=>L.length-t) (λ(t:Nat)(A:List Nat)(l:List (Rw×Bool))=>t<=L.length/\zC3 rcmp Sb ⟨A,l⟩ (L.drop t) []=zC3 rcmp Sb ⟨[],[([],o)]⟩ L []/\FOk rcmp Dm ⟨A,l⟩/\rz (⟨A,l⟩:Fa Bool)*pz rz (L.drop t)<=900000/\bz (⟨A,l⟩:Fa Bool)*pz bz (L.drop t)<=Bz) 0 [] [([],o)] ?_ ?_ ?_
  ·exact⟨by omega,rfl,hU,by rw[u1];exact f5,AE (B1 _ u2) f6⟩
  ·refine vk 5
  rintro t A l ⟨t1,t2,t3,t4,t5⟩;rcases An t L.length with t7|t7
  ·have hmf:=zAc L Af t t7;have hg2:=zJy zAw L t t7;have hle:=zDd zAw L t t7;have hne2:=zDc zAw (by decide) L;have hdr:L.drop t=L.getD t Af::L.drop (t+1):=by
    rw[BK t7,Am,Aw t7];rfl
   rw[hdr]at t2 t4 t5;rw[zCm,<-Nat.mul_assoc]at t4 t5;have q1:rz (⟨A,l⟩:Fa Bool)*rz (L.getD t Af)<=900000:=AE (Bv _ (zJt zK6 _)) t4;have q2:bz (⟨A,l⟩:Fa Bool)*bz (L.getD t Af)<=Bz:=AE (Bv _ (zJt zMk _)) t5;have gA:GofB Dm ⟨A,l⟩:=⟨t3,AE (Bv _ (zK6 _)) q1,AE (Bv _ (zMk _)) q2⟩;have hg:∀f∈L,GofB Dm f:=λf h=>⟨f3 f h,AE (zWa zK6 h) (by omega),AE (zWa zMk h) (by omega)⟩;have hmul:=zJx hD ⟨A,l⟩ (L.getD t Af) (L.drop (t+1)) gA (hg _ hmf) (λo ho=>hg _ (Cv ho)) (by rw[Bn];omega) q1;have r1:=zTj (c:=rcmp) Sb ⟨A,l⟩ (L.getD t Af) (L.drop (t+1));have r2:=zTk (c:=rcmp) ⟨A,l⟩ (L.getD t Af) (L.drop (t+1));have r3:=zPr (S:=Sb) rcw t3 (f3 _ hmf) (L.drop (t+1));have r4:=AE (B1 (pz rz (L.drop (t+1))) r1) t4;have r5:=AE (B1 (pz bz (L.drop (t+1))) r2) t5;rw[zC3,BS]at t2;have hsl:(L.flatMap zAd).drop ((t+1)*3)=(L.drop (t+1)).flatMap zAd:=zTm zAw L (t+1);have hsn:L.length-(t+1)=(L.drop (t+1)).length:=by rw[Bn]
   have hst:=zFg zAw (L.drop (t+1)) _ rfl;generalize L.getD t Af=f at*;generalize fmul rcmp Sb ⟨A,l⟩ f (L.drop (t+1))=q at*;obtain⟨A',l'⟩:=q;refine zB<|zA rfl<|v0s<|veT<|zB<|vT ((t:Int)<(Aa L:Int))<|zL<|zC<|zD<|zB<|zF<|zB<|zA rfl<|vr 3 (ix (t:Int) (Aa L:Int) (Ah zAd L≠[])/\3<=Aa (Ag (t*3)<|Ah zAd L))<|vs 57 (Ar<|Ai 3<|Ag (t*3)<|Ah zAd L) (Ar<|zAd f) (hd:=by simp(disch:=omega) only[hg2])<|ve (Ac=Ac/\Ab=Ab/\3=3/\3<=3)<|vd [0,3,4,5,6,1,2,7,8]<|vr 5 (i6 ((t:Int)+(1:Int))/\(0:Int)<=(↑(t+1):Int)/\True/\True/\0<3/\Ak (↑(t+1):Int)<=Aa L/\Aa L<=Aa L/\Aa L=Aa L)<|vs 64 (Ae (Ai ((Aa L-Ak (↑(t+1):Int))*3)<|Ag (Ak (↑(t+1):Int)*3)<|Ah zAd L) (Aa L-Ak (↑(t+1):Int))) (Ae (Ah zAd<|Ag (t+1) L)<|Aa<|Ag (t+1) L) (hd:=by simp(disch:=omega) only[AA,hsl,hsn,hst])<|vr 2 (3<=3/\3<=3)<|vc (hmul)<|vr 1 (Bw (fB1B (Ae (nsD A)<|Aa A) (Ae (zAg l)<|Aa l)<|Ae (zAo l)<|Aa l)=Ac/\Ab=Ab/\3=3/\3<=3)<|vnil<|zE<|zC<|zD<|zA rfl<|vr 2 (i6 ((t:Int)+(1:Int)))<|vnil<|zC<|⟨t+1,A',l',⟨by omega,t2,r3,r4,r5⟩,by omega,?_⟩;refine vk 5
  rw[List.drop_of_length_le t7]at t2;simp only[zC3]at t2;rw[<-t2];refine zB<|zA rfl<|v0s<|veT<|zB<|vF ((t:Int)<(Aa L:Int))<|zV<|zM<|zM<|zS rfl<|zC<|zD<|zB<|zA rfl<|ve (3<=3/\Ac=Ac/\Ab=Ab/\3=3/\3<=3)<|zJ<|vret (3<=3)<|.inr rfl
 have hm:=zMh popN L hF;have hch:=zT6 L F f1 hF (λf h=>(f3 f h).asc) (by omega);have hv32:=f1.2 _ hm.1;have hel:=zRx hD L (zBv popN L F) f3 f4 (by omega) (by omega) (f2 _ hm.1) hv32;have hmn:=msk_ne hF;have x1:=zEv hv32;have x2:=an_less f1 hv32;have x3:=zAx (zDl (zPj f1 (zBv popN L F)).2);have hz1:=elim_z (c:=rcmp) (S:=Sb) (z:=rz) (zTj Sb) (fsum_rz Sb) (zBv popN L F) L;have hz2:=elim_z (c:=rcmp) (S:=Sb) (z:=bz) zTk fsum_bz (zBv popN L F) L;have hlen:=elim_len (c:=rcmp) (S:=Sb) (zBv popN L F) L;have hA:=elim_A (c:=rcmp) (S:=Sb) (fs:=L) (λf h=>(f3 f h).asc.2) (zBv popN L F);have hok:=elim_ok (S:=Sb) rcw f3 (zBv popN L F);have hll:=zWw f1.nd hm.1;have hla:=zPj f1 (zBv popN L F);have hmg:zGi popN rcmp Sb F.length L F=zGi popN rcmp Sb (less F (zBv popN L F)).length (elim rcmp Sb (zBv popN L F) L) (less F (zBv popN L F)):=by
  rw[<-hll];rfl
 have hcm:=hm.1;generalize zBv popN L F=v at*;generalize elim rcmp Sb v L=L' at*;refine zB<|zB<|zA rfl<|v0s<|veT<|zDw (t:=(↑(msk F):Int)!=(0:Int)) (by kernel_rfl) (by simpa using by omega)<|zL<|zC<|zD<|zF<|zB<|zA rfl<|vrT 2<|vc (hch)<|veT<|zB<|zA rfl<|vrT 3<|vc (hel)<|veT<|zA rfl<|vr 3 ((0:Int)<=(v:Int))<|vs 43 (Av<|As Au<|AV Au ((1:Int)*(2:Int)^min (Ak (v:Int)) 32)) (dig ((2:Nat)^v)) (hd:=by simp(disch:=omega) only[AA,x1])<|vrT 1<|vs 44 (Av<|As Au<|AV Au (↑(AW (Ay 32 (↑(msk F):Int)&&&~~~Ay 32 (↑((2:Nat)^v):Int))):Int)) (dig<|msk<|less F v) (hd:=by simp(disch:=omega) only[x3,x2])<|vrT 1<|vnil<|zE<|zC<|⟨(less F v).length,L',less F v,⟨rfl,hla,λw hw=>(hA w).2 ⟨f2 w (zDt.1 hw).1,(zDt.1 hw).2⟩,hok,by omega,by omega,by omega,by rw[<-hmg];exact f7⟩,by omega,?_⟩;refine vk 1
end
end
section
open Go.RowKit
attribute [local irreducible] seqW awp zW zY zR Weak updS zZ retL Pure Acts rP setP setQ cP nP fr
set_option maxRecDepth 4096
set_option maxRecDepth 4096
abbrev fcRB(V:List Int)(R:List Rw)(W:List D)(m:Nat):D:= .agg [.row (V.map λz=>iD z) V.length, .row (R.map rowV) R.length, .row W m]
set_option maxHeartbeats 4000000 in
theorem check_cB (n : Int) (V : List Int)(R:List Rw)(W:List D)(m:Nat)(hV:V.length<=1000000)(hR:R.length<=1000000):
    Pure Ao 121 [iD n,fcRB V R W m] [] (iD (chk n V R m)):=by
  refine zH Tq_ok mixed Tryz.func121 rfl<|zB<|zA rfl<|v0s<|veT<|zB<|zB<|zA rfl<|ve (True/\0<3)<|zF<|zQ (λ(i:Nat)=>fr 94 [(0,iD n),(3,AH 0 0),(13,Ae (Ad (λ(z:Int)=>iD z) V)<|Aa V),(14,iD (Aa V:Int)),(15,iD (i:Int))]) (λ(i:Nat)=>[fB1B (.row (V.map λz=>iD z) V.length) (.row (R.map rowV) R.length)<|.row W m]) (λi=>V.length-i) (λ(i:Nat)=>i<=V.length/\∀j,j<i->zG2 n V j=Ab) 0 ?_ ?_ ?_
  ·exact⟨by omega,λj h=>by omega⟩
  ·refine vk 1
  rintro i ⟨h1,h2⟩;rcases An i V.length with h3|h3
  · have hne:(V.map λz=>iD z)≠[]:=zAb
    have hx:=zEj V i h3;by_cases hs:zG2 n V i=Ab
    · have hs2:=hs
      simp only[zG2,Ba,Bf,decide_eq_true_eq]at hs2;obtain⟨s1,s2,s3⟩:=hs2;rcases i with _|k
      · rw[AJ]at hx
        refine zB<|zA rfl<|v0s<|veT<|zB<|vT ((↑(0:Nat):Int)<(Aa V:Int))<|zL<|zC<|zD<|zB<|zF<|zB<|zA rfl<|vr 3 (ix (↑(0:Nat):Int) (Aa V:Int) (Ad (λ(z:Int)=>iD z) V≠[])/\0<Aa (Ad (λ(z:Int)=>iD z) V))<|vsh 19 hx<|veT<|zB<|zA rfl<|vew [] [(2,Ac),(7,Ac)] (decide (AQ V 0 (0:Int)<0)=Ac/\decide (AQ V 0 (0:Int)>=n)=Ac) (vf<|zL<|zE<|zC<|zD<|zA rfl<|vr 2 (i6 ((↑(0:Nat):Int)+(1:Int)))<|vnil<|zC ?_) ⟨(by exact decide_eq_false (by omega)),(by exact decide_eq_false (by omega))⟩;refine⟨1,⟨by omega,λj hj=>?_⟩,by omega,?_⟩
        · obtain rfl:j=0:=by omega
          exact hs
        refine vk 1
      · have hx2:=zEj V k (by omega)
        have s4:V.getD k 0<V.getD (k+1) 0:=by
          rcases s3 with h|h
          ·omega
          exact h
        refine zB<|zA rfl<|v0s<|veT<|zB<|vT ((↑(k+1):Int)<(Aa V:Int))<|zL<|zC<|zD<|zB<|zF<|zB<|zA rfl<|vr 2 (ix (↑(k+1):Int) (Aa V:Int) (Ad (λ(z:Int)=>iD z) V≠[]))<|vp 18 (k+1) (Ad (λ(z:Int)=>iD z) V)<|vr 1 (0<Aa (Ag (k+1)<|Ad (λ(z:Int)=>iD z) V))<|vsh 19 hx<|veT<|zB<|zA rfl<|vw 15 [] [(2,Ac),(7,Ac),(10,Ab)] (decide (AQ V (k+1) (0:Int)<0)=Ac/\decide (AQ V (k+1) (0:Int)>=n)=Ac/\decide ((↑(k+1):Int)>(0:Int))=Ab/\True/\0<3/\i6 ((↑(k+1):Int)-(1:Int))) (vs 34 (iD ((↑(k+1):Int)-(1:Int))) (iD (k:Int)) (hd:=by simp(disch:=omega) only[pred1])<|vr 1 (ix (k:Int) (Aa V:Int) (Ad (λ(z:Int)=>iD z) V≠[]))<|vp 35 (k) (Ad (λ(z:Int)=>iD z) V)<|vr 1 (0<Aa (Ag k<|Ad (λ(z:Int)=>iD z) V))<|vsh 36 hx2<|veT<|vF (AQ V k (0:Int)>=AQ V (k+1) (0:Int)) ?_) ⟨(by exact decide_eq_false (by omega)),(by exact decide_eq_false (by omega)),(by exact decide_eq_true (by omega)),trivial,(by omega),(by omega)⟩;refine zL<|zE<|zC<|zD<|zA rfl<|vr 2 (i6 ((↑(k+1):Int)+(1:Int)))<|vnil<|zC<|⟨k+2,⟨by omega,λj hj=>?_⟩,by omega,?_⟩
        · rcases An j (k+1)with h|h
          ·exact h2 j h
          · obtain rfl:j=k+1:=by omega
            exact hs
        refine vk 1
    · have hc3:chk n V R m=3:=chk_v h3 (by simpa using hs)
      rw[hc3];rcases i with _|k
      · rw[AJ]at hx
        focus
          refine zB<|zA rfl<|v0s<|veT<|zB<|vT ((↑(0:Nat):Int)<(Aa V:Int))<|zL<|zC<|zD<|zB<|zF<|zB<|zA rfl<|vr 3 (ix (↑(0:Nat):Int) (Aa V:Int) (Ad (λ(z:Int)=>iD z) V≠[])/\0<Aa (Ad (λ(z:Int)=>iD z) V))<|vsh 19 hx<|veT<|zB<|zA rfl<|vrT 3<|vspD 22 (AQ V 0 (0:Int)<0) (λhc=>?_)<|λhc=>?_;refine veT<|vt<|zB<|zA rfl<|veT<|zJ<|zN<|zG<|zG<|zN<|zG<|vret (True)<|.inr rfl;refine vrT 5<|vspD 27 (AQ V 0 (0:Int)>=n) (λhc=>?_)<|λhc=>?_;refine veT<|vt<|zB<|zA rfl<|veT<|zJ<|zN<|zG<|zG<|zN<|zG<|vret (True)<|.inr rfl;refine veT<|vf<|zL<|zE<|zC<|zD<|zA rfl<|vr 2 (i6 ((↑(0:Nat):Int)+(1:Int)))<|vnil<|zC ?_;rotate_left
        all_goals exact absurd (zSr (by omega) (by omega) (.inl rfl)) hs
      · have hx2:=zEj V k (by omega)
        focus
          refine zB<|zA rfl<|v0s<|veT<|zB<|vT ((↑(k+1):Int)<(Aa V:Int))<|zL<|zC<|zD<|zB<|zF<|zB<|zA rfl<|vr 2 (ix (↑(k+1):Int) (Aa V:Int) (Ad (λ(z:Int)=>iD z) V≠[]))<|vp 18 (k+1) (Ad (λ(z:Int)=>iD z) V)<|vr 1 (0<Aa (Ag (k+1)<|Ad (λ(z:Int)=>iD z) V))<|vsh 19 hx<|veT<|zB<|zA rfl<|vrT 3<|vspD 22 (AQ V (k+1) (0:Int)<0) (λhc=>?_)<|λhc=>?_;refine veT<|vt<|zB<|zA rfl<|veT<|zJ<|zN<|zG<|zG<|zN<|zG<|vret (True)<|.inr rfl;refine vrT 5<|vspD 27 (AQ V (k+1) (0:Int)>=n) (λhc=>?_)<|λhc=>?_;refine veT<|vt<|zB<|zA rfl<|veT<|zJ<|zN<|zG<|zG<|zN<|zG<|vret (True)<|.inr rfl;refine vw 7 [] [(10,Ab)] (decide ((↑(k+1):Int)>(0:Int))=Ab/\True/\0<3/\i6 ((↑(k+1):Int)-(1:Int)))<|vs 34 (iD ((↑(k+1):Int)-(1:Int))) (iD (k:Int)) (hd:=by simp(disch:=omega) only[pred1])<|vr 1 (ix (k:Int) (Aa V:Int) (Ad (λ(z:Int)=>iD z) V≠[]))<|vp 35 (k) (Ad (λ(z:Int)=>iD z) V)<|vr 1 (0<Aa (Ag k<|Ad (λ(z:Int)=>iD z) V))<|vsh 36 hx2<|veT<|vcD (AQ V k (0:Int)>=AQ V (k+1) (0:Int)) (λhc=>?_)<|λhc=>?_;refine zB<|zA rfl<|veT<|zJ<|zN<|zG<|zG<|zN<|zG<|vret (True)<|.inr rfl;refine zL<|zE<|zC<|zD<|zA rfl<|vr 2 (i6 ((↑(k+1):Int)+(1:Int)))<|vnil<|zC ?_;rotate_left
        all_goals exact absurd (zSr (by omega) (by omega) (.inr (by simp only[Nat.add_sub_cancel];omega))) hs
  have hv:=zH8 (p:=zG2 n V) (n:=V.length) λj hj=>h2 j (by omega);by_cases hlm:R.length=m;case neg=>
    rw[chk_l hv hlm];refine zB<|zA rfl<|v0s<|veT<|zB<|vF ((i:Int)<(Aa V:Int))<|zV<|zM<|zM<|zS rfl<|zC<|zD<|zB<|zB<|zA rfl<|ve (True/\0<2/\True/\0<1/\True)<|zDw (t:=(Aa R:Int)!=(m:Int)) (by kernel_rfl) (by simpa using by omega)<|zB<|zA rfl<|veT<|zJ<|zG<|vret (True)<|.inr rfl
  refine zB<|zA rfl<|v0s<|veT<|zB<|vF ((i:Int)<(Aa V:Int))<|zV<|zM<|zM<|zS rfl<|zC<|zD<|zB<|zB<|zA rfl<|ve (True/\0<2/\True/\0<1/\True)<|zFv (t:=(Aa R:Int)!=(m:Int)) (by kernel_rfl) (by simpa using by omega)<|zL<|zC<|zD<|zB<|zB<|zA rfl<|ve (True/\0<2)<|zF<|zQ (λ(i:Nat)=>fr 94 [(3,AH 0 0),(50,Ae (Ad rowV R)<|Aa R),(51,iD (Aa R:Int)),(52,iD (i:Int))]) (λ(i:Nat)=>[fB1B (.row (V.map λz=>iD z) V.length) (.row (R.map rowV) R.length)<|.row W m]) (λi=>R.length-i) (λ(i:Nat)=>i<=R.length/\∀j,j<i->j<R.length->decide ((R.getD j []).length=V.length)=Ab) 0 ?_ ?_ ?_
  ·exact⟨by omega,λj h=>by omega⟩
  ·refine vk 1
  clear h1 h2 h3 i;rintro i ⟨h1,h2⟩;rcases An i R.length with h3|h3
  · have hne:R.map rowV≠[]:=zAb
    have hx:=zBk R i h3;have hca:=chk_a hv hlm h3;generalize hg:R.getD i []=r at*;focus
      refine zB<|zA rfl<|v0s<|veT<|zB<|vT ((i:Int)<(Aa R:Int))<|zL<|zC<|zD<|zB<|zF<|zB<|zA rfl<|vr 1 (ix (i:Int) (Aa R:Int) (Ad rowV R≠[]))<|vp 54 (i) (Ad rowV R)<|vr 1 (0<Aa (Ag i<|Ad rowV R))<|vsh 55 hx<|veT<|zB<|zA rfl<|ve (True/\0<3/\True)<|zAq (t:=(Aa r:Int)!=(Aa V:Int)) (by kernel_rfl) (λhc=>?_)<|λhc=>?_;simp only[bne_iff_ne]at hc;refine zB<|zA rfl<|veT<|zJ<|zN<|zG<|zG<|zN<|zG<|vre (True) (Av<|As AY (6:Int)) (.inr rfl) ?_;rotate_left;simp only[bne_eq_false_iff_eq]at hc;refine zL<|zE<|zC<|zD<|zA rfl<|vr 2 (i6 ((i:Int)+(1:Int)))<|vnil<|zC ?_;rotate_left
    ·rw[hca (by omega)]
    · refine⟨i+1,⟨by omega,λj hj hjl=>?_⟩,by omega,?_⟩
      · rcases An j i with h|h
        ·exact h2 j h hjl
        · obtain rfl:j=i:=by omega
          rw[hg];exact decide_eq_true (by omega)
      refine vk 1
  have ha:=zP8 (p:=λx:Rw=>decide (x.length=V.length)) (d:=[]) h3 h2;have hl:∀x∈R,x.length<=1000000000:=λx hx=>by
    have:=of_decide_eq_true (Bb.1 ha x hx)
    omega
  refine zB<|zA rfl<|v0s<|veT<|zB<|vF ((i:Int)<(Aa R:Int))<|zV<|zM<|zM<|zS rfl<|zC<|zD<|zB<|zB<|zA rfl<|ve (True/\0<2)<|zF<|zQ (λ(i:Nat)=>fr 94 [(3,AH 0 0),(64,Ae (Ad rowV R)<|Aa R),(65,iD (Aa R:Int)),(66,iD (i:Int))]) (λ(i:Nat)=>[fB1B (.row (V.map λz=>iD z) V.length) (.row (R.map rowV) R.length)<|.row W m]) (λi=>R.length-i) (λ(i:Nat)=>i<=R.length/\∀j,j<i->j<R.length->(R.getD j []).all vok=Ab) 0 ?_ ?_ ?_
  ·exact⟨by omega,λj h=>by omega⟩
  ·refine vk 1
  clear h1 h2 h3 i;rintro i ⟨h1,h2⟩;rcases An i R.length with h3|h3
  · have hne:R.map rowV≠[]:=zAb
    have hx:=zBk R i h3;have hco:=chk_o hv hlm ha h3;have hlr:=hl _ (zAc R [] i h3);generalize hg:R.getD i []=r at*;focus
      refine zB<|zA rfl<|v0s<|veT<|zB<|vT ((i:Int)<(Aa R:Int))<|zL<|zC<|zD<|zB<|zF<|zB<|zA rfl<|vr 1 (ix (i:Int) (Aa R:Int) (Ad rowV R≠[]))<|vp 68 (i) (Ad rowV R)<|vr 1 (0<Aa (Ag i<|Ad rowV R))<|vsh 69 hx<|veT<|zB<|zA rfl<|vrT 1<|vc (zV1 r _ rfl (by omega))<|veT<|zAq (t:=!List.all r vok) (by kernel_rfl) (λhc=>?_)<|λhc=>?_;simp only[Cx]at hc;refine zB<|zA rfl<|veT<|zJ<|zN<|zG<|zG<|zN<|zG<|vre (True) (Av<|As AY (4:Int)) (.inr rfl) ?_;rotate_left;simp only[Bool.not_eq_false']at hc;refine zL<|zE<|zC<|zD<|zA rfl<|vr 2 (i6 ((i:Int)+(1:Int)))<|vnil<|zC ?_;rotate_left
    ·rw[hco (by simpa using hc)]
    · refine⟨i+1,⟨by omega,λj hj hjl=>?_⟩,by omega,?_⟩
      · rcases An j i with h|h
        ·exact h2 j h hjl
        · obtain rfl:j=i:=by omega
          rw[hg];simpa using hc
      refine vk 1
  have ho:=zP8 (p:=λx:Rw=>x.all vok) (d:=[]) h3 h2;refine zB<|zA rfl<|v0s<|veT<|zB<|vF ((i:Int)<(Aa R:Int))<|zV<|zM<|zM<|zS rfl<|zC<|zD<|zB<|zB<|zA rfl<|veT<|zF<|zQ (λ(k:Nat)=>fr 94 [(3,AH 0 0),(11,iD ((k:Int)+(1:Int)))]) (λ(k:Nat)=>[fB1B (.row (V.map λz=>iD z) V.length) (.row (R.map rowV) R.length)<|.row W m]) (λk=>R.length-k) (λ(k:Nat)=>k<=R.length/\∀j,j<=k->j<R.length->zPe R j=Ab) 0 ?_ ?_ ?_
  · exact ⟨by omega, fun j h _ => by obtain rfl:j=0:=by omega
                                     rfl⟩
  ·refine vk 1
  clear h1 h2 h3 i;rintro k ⟨h1,h2⟩;rcases An (k+1) R.length with h3|h3
  · have hne:R.map rowV≠[]:=zAb
    have hx:=zBk R (k+1) h3;have hx0:=zBk R k (by omega);have hcs:=chk_s hv hlm ha ho h3;have hst:zPe R (k+1)=decide (rcmp (R.getD k []) (R.getD (k+1) [])<0):=by simp[zPe]
    have hcm:=zEc (R.getD k []) (R.getD (k+1) []) _ _ rfl rfl (hl _ (zAc R [] k (by omega))) (hl _ (zAc R [] (k+1) h3));generalize R.getD (k+1) []=r at*;generalize R.getD k []=r0 at*;focus
      refine zB<|zB<|zA rfl<|v0s<|ve (True/\0<2)<|vT ((↑(k+1):Int)<(Aa R:Int))<|zL<|zC<|zD<|zB<|zF<|zB<|vd [0,2,3,6,8,1,4,5,7,9,10,11,12]<|vr 3 (True/\i6 ((↑(k+1):Int)-(1:Int)))<|vs 84 (iD ((↑(k+1):Int)-(1:Int))) (iD (k:Int)) (hd:=by simp(disch:=omega) only[pred1])<|vr 4 (True/\0<2/\ix (k:Int) (Aa R:Int) (Ad rowV R≠[]))<|vp 85 (k) (Ad rowV R)<|vr 1 (0<Aa (Ag k<|Ad rowV R))<|vsh 86 hx0<|vr 2 (0<2/\ix (↑(k+1):Int) (Aa R:Int) (Ad rowV R≠[]))<|vp 90 (k+1) (Ad rowV R)<|vr 1 (0<Aa (Ag (k+1)<|Ad rowV R))<|vsh 91 hx<|vc (hcm)<|veT<|vcD (rcmp r0 r>=(0:Int)) (λhc=>?_)<|λhc=>?_;refine zB<|zA rfl<|veT<|zJ<|zN<|zG<|zG<|zN<|zG<|vre (True) (Av<|As AY (16:Int)) (.inr rfl) ?_;rotate_left;refine zL<|zE<|zC<|zD<|zA rfl<|vr 3 (i6 ((↑(k+1):Int)+(1:Int)))<|vnil<|zC ?_;rotate_left
    ·rw[hcs (by rw[hst];exact decide_eq_false (by omega))]
    · refine⟨k+1,⟨by omega,λj hj hjl=>?_⟩,by omega,?_⟩
      · rcases An j (k+1)with h|h
        ·exact h2 j (by omega) hjl
        · obtain rfl:j=k+1:=by omega
          rw[hst];exact decide_eq_true (by omega)
      refine vk 1
  rw[chk_0 hv hlm ha ho (zH8 λj hj=>h2 j (by omega) hj)];refine zB<|zB<|zA rfl<|v0s<|ve (True/\0<2)<|vF ((k:Int)+(1:Int)<(Aa R:Int))<|zV<|zM<|zM<|zS rfl<|zC<|zD<|zB<|zA rfl<|veT<|zJ<|vret (True)<|.inr rfl
end
section
open Go.RowKit
structure Rn where
 V:List Int
 R:List Rw
 W:List Nat
 deriving Inhabited
def chkR(n:Int)(f:Rn):Int:=chk n f.V f.R f.W.length
def errL(n:Int):List Rn->Int
 |[]=>0
 |f::fs=>if chkR n f≠0 then chkR n f else errL n fs
def covP(n:Nat)(fs:List Rn):Bool:=(Ap n).all λv=>fs.any λf=>decide ((v:Int)∈f.V)
def zGz(n:Int)(keep:Nat)(fs:List Rn):Int:=if n<0\/32<n\/keep>>>n.toNat≠0 then 3 else if errL n fs≠0 then errL n fs else if covP n.toNat fs then 0 else 22
theorem errL_at{n:Int}:∀{fs:List Rn}{i:Nat},(∀j,j<i->chkR n (fs.getD j Af)=0)->i<fs.length->chkR n (fs.getD i Af)≠0->errL n fs=chkR n (fs.getD i Af)
 |[],i,_,h,_=>by simp at h
 |f::fs,0,_,_,h=>by
  grind [chkR,errL]
 |f::fs,i+1,hb,hi,h=>by
  have h0:chkR n f=0:=hb 0 (by omega);rw[errL,if_neg (by omega)];exact errL_at (fs:=fs) (i:=i) (λj hj=>hb (j+1) (by omega)) (by simpa using hi) h
theorem errL_0{n:Int}:∀{fs:List Rn},(∀j,j<fs.length->chkR n (fs.getD j Af)=0)->errL n fs=0
 |[],_=>rfl
 |f::fs,h=>by
  have h0:chkR n f=0:=h 0 (by simp);rw[errL,if_neg (by omega)];exact errL_0 (fs:=fs) λj hj=>h (j+1) (by simpa using hj)
theorem zXb{n:Int}:∀{fs:List Rn},errL n fs=0->∀f∈fs,chkR n f=0
 |[],_,f,h=>by simp at h
 | g::fs,h,f,hf=>by
  rw[errL]at h;split at h
  ·grind
  rename_i k;rcases AR.1 hf with rfl|hf
  ·omega
  exact zXb h f hf
def covM(fs:List Rn):Nat:=fs.foldl (λm f=>m|||msk (f.V.map Ak)) 0
theorem zXf:∀(fs:List Rn)(m v:Nat),(fs.foldl (λm f=>m|||msk (f.V.map Ak)) m).testBit v=(m.testBit v||fs.any λf=>decide (v∈f.V.map Ak))
 |[],m,v=>by simp
 |f::fs,m,v=>by rw[List.foldl_cons,zXf fs,A9,zBz,List.any_cons,Bool.or_assoc]
theorem covM_lt:∀(fs:List Rn)(m:Nat),m<4294967296->(∀f∈fs,∀v∈f.V.map Ak,v<32)->fs.foldl (λm f=>m|||msk (f.V.map Ak)) m<4294967296
 |[],m,h,_=>h
 |f::fs,m,h,hf=>covM_lt fs _ (zLi h (zDl (hf f (AZ ..)))) λg hg=>hf g (Bm _ hg)
theorem mem_intL{A:List Nat}{v:Nat}:((v:Int)∈intL A)↔v∈A:=by
 grind
theorem zMw(A:List Nat):(intL A).map Ak=A:=by
 simp[intL,Function.comp_def]
theorem covM_eq(n:Nat)(fs:List Rn)(hf:∀f∈fs,∃A:List Nat,f.V=intL A/\∀v∈A,v<n):covM fs=2^n-1↔covP n fs=true:=by
 have hb:∀v,(covM fs).testBit v=fs.any λf=>decide ((v:Int)∈f.V):=λv=>by
  unfold covM;rw[zXf,BF,Cf,Bt,Bo,Bo];grind
 unfold covP;rw[Bb];constructor
 ·intro h v hv;rw[<-hb,h,BT];simpa using hv
 intro h;refine BG λv=>?_;rw[hb,BT];by_cases hv:v<n
 ·simp_all
 grind
end
section
open Go.RowKit
attribute [local irreducible] seqW awp zW zY zR Weak updS zZ retL Pure Acts rP setP setQ cP nP fr
set_option maxRecDepth 4096
abbrev rnC(f:Rn):List D:=[.row (f.V.map λz=>iD z) f.V.length, .row (f.R.map rowV) f.R.length, .row (f.W.map natD) f.W.length]
structure Rsz(f:Rn):Prop where
 v:f.V.length<=1000
 r:f.R.length<=1000
abbrev rnCB(f:Rn):List D:=[.row (f.V.map λz=>iD z) f.V.length, .row (f.R.map rowV) f.R.length, .row (f.W.map λx=>bD (g0 x)) f.W.length]
theorem zN2(f:Rn):(rnCB f).length=3:=rfl
set_option maxHeartbeats 4000000 in
theorem zT5(n keep:Nat)(fs:List Rn)(hn:n<=8)(hk:keep<4294967296)(hl:fs.length<=1000)(hs:∀f∈fs,Rsz f):Pure Ao 88 [iD (n:Nat),u32D keep, .row (fs.flatMap rnCB) fs.length] [] (iD (zGz n keep fs)):=by
 have w1:=zEu keep (v:=n) (by omega);have w2:=zEv (v:=n) (by omega);have h2n:2^n<=256:=Bx (n:=2) (by omega) hn;have h1n:=Nat.one_le_two_pow (n:=n);have w3:((2^n:Nat):Int)-1=((2^n-1:Nat):Int):=by omega
 have w4:=zAx (n:=2^n-1) (by omega);have ewr:zGz n keep fs=if keep>>>n≠0 then 3 else if errL n fs≠0 then errL n fs else if covP n fs then 0 else 22:=by
  unfold zGz;rw[AA];by_cases h:keep>>>n≠0
  ·rw[if_pos (.inr (.inr h)),if_pos h]
  rw[if_neg (by intro k;rcases k with k|k|k<;>first|omega|exact h k),if_neg h]
 generalize keep>>>n=kk at*;refine zH Tq_ok mixed Tryz.func88 rfl ?_;focus
  refine zB<|zA rfl<|v0s<|veT<|zB<|zB<|zA rfl<|vw 10 [] [(2,Ac),(6,Ac)] (decide ((n:Int)<0)=Ac/\decide ((n:Int)>(32:Int))=Ac/\(0:Int)<=(n:Int))<|vs 20 (Av<|As Au<|BJ (keep:Int) ((2:Int)^min (Ak (n:Int)) 32)) (dig kk) (hd:=by simp(disch:=omega) only[AA,w1])<|veT<|zAq (t:=(kk:Int)!=(0:Int)) (by kernel_rfl) (λhc=>?_)<|λhc=>?_;simp only[bne_iff_ne]at hc;refine zB<|zA rfl<|veT<|zJ<|zG<|vre (True) (Av<|As AY (3:Int)) (.inr rfl) ?_;rotate_left;simp only[bne_eq_false_iff_eq]at hc;refine zL<|zC<|zD<|zB<|zA rfl<|veT<|zB<|zB<|zA rfl<|veT<|zF ?_;rotate_left
 ·rw[ewr,if_pos (by omega)]
 have hcu:∀i,covM (fs.take i)<4294967296\/¬∀j,j<i->chkR n (fs.getD j Af)=0:=λi=>by
  by_cases h:∀j,j<i->chkR n (fs.getD j Af)=0
  ·refine .inl (covM_lt (fs.take i) 0 (by omega) λf hf v hv=>?_);obtain⟨j,hj,rfl⟩:=List.mem_iff_getElem.1 hf;have hj2:j<i/\j<fs.length:=by rw[AU]at hj;omega
   have:=h j hj2.1
   rw[Am,Aw hj2.2,B2]at this;obtain⟨A,hA,hfit⟩:=zT4 this;rw[List.getElem_take,hA,show A.map (λv:Nat=>(v:Int))=intL A from rfl,zMw]at hv
   have:=hfit.lt v hv
   omega
  exact .inr h
 refine zQ (λ(i:Nat)=>fr 45 [(0,iD (n:Int)),(7,u32D<|covM<|Ai i fs),(23,Ae (Ah rnCB fs)<|Aa fs),(24,iD (Aa fs:Int)),(25,iD (i:Int))]) (λ(i:Nat)=>[]) (λi=>fs.length-i) (λ(i:Nat)=>i<=fs.length/\∀j,j<i->chkR n (fs.getD j Af)=0) 0 ?_ ?_ ?_
 ·exact⟨by omega,λj h=>by omega⟩
 ·refine vk 0
 rintro i ⟨h1,h2⟩;have hcl:=(hcu i).resolve_right (λh=>h h2);rcases An i fs.length with h3|h3
 ·have hm:=zAc fs Af i h3;have hg2:=zJy zN2 fs i h3;have hle:=zDd zN2 fs i h3;have hne:=zDc zN2 (by decide) fs;have hsz:=hs _ hm;have hat:=errL_at h2 h3;have htk:covM (fs.take (i+1))=covM (fs.take i)|||msk ((fs.getD i Af).V.map Ak):=by
   rw[zAr fs i h3];unfold covM;rw[BU];rfl
  generalize hff:fs.getD i Af=f at*;obtain⟨V,R,W⟩:=f;have hch:=check_cB n V R (W.map λx=>bD (g0 x)) W.length (by have:=hsz.v;simp only at this;omega) (by have:=hsz.r;simp only at this;omega);by_cases e0:chk n V R W.length=0
  ·obtain⟨A,hA,hfit⟩:=zT4 e0;have hA:V=intL A:=hA;subst hA;rw[e0]at hch;have eA:(intL A).map (λz=>iD z)=nsD A:=by simp[intL]
   have eL:(intL A).length=A.length:=by simp
   have hv32:∀v∈A,v<32:=λv hv=>by have:=hfit.lt v hv;omega
   have nA:A.length<=1000:=by have:=hsz.v;simp only[eL]at this;exact this
   have sA:=zJh A _ rfl nA hv32 (R.map rowV) (W.map λx=>bD (g0 x)) R.length W.length;rw[zMw]at htk;have w5:=zMv hcl (zDl hv32);have w6:=zAx (zLi hcl (zDl hv32));simp only[rnCB,eA,eL]at hg2;simp only[fcRB,eA,eL]at hch;refine zB<|zA rfl<|v0s<|veT<|zB<|vT ((i:Int)<(Aa fs:Int))<|zL<|zC<|zD<|zB<|zF<|zB<|zA rfl<|vr 2 (ix (i:Int) (Aa fs:Int) (Ah rnCB fs≠[])/\3<=Aa (Ag (i*3)<|Ah rnCB fs))<|vs 28 (Ar<|Ai 3<|Ag (i*3)<|Ah rnCB fs) (Ar [Ae (nsD A)<|Aa A,Ae (Ad rowV R)<|Aa R,Ae (Ad (λ(x:Nat)=>bD (g0 x)) W)<|Aa W]) (hd:=by simp(disch:=omega) only[hg2])<|ve (Ac=Ac/\Ab=Ab/\3=3/\3<=3)<|zB<|zB<|zA rfl<|vr 2 (3<=3)<|vc (hch)<|veT<|zB<|zA rfl<|veT<|vf<|zL<|zC<|zD<|zA rfl<|vr 2 (3<=3)<|vc (sA)<|vrT 1<|vs 38 (Av<|As Au<|AV Au (↑(AW (Ay 32 (↑(covM<|Ai i fs):Int)|||Ay 32 (↑(msk A):Int))):Int)) (dig (covM (Ai i fs)|||msk A)) (hd:=by simp(disch:=omega) only[w5,w6])<|vrT 1<|vnil<|zE<|zC<|zD<|zA rfl<|vr 2 (i6 ((i:Int)+(1:Int)))<|vnil<|zC<|⟨i+1,⟨by omega,λj hj=>?_⟩,by omega,?_⟩
   ·rcases An j i with h|h
    ·exact h2 j h
    obtain rfl:j=i:=by omega
    rw[hff];exact e0
   rw[htk];refine vk 0
  have hat':=hat e0;have hat2:errL n fs=chk n V R W.length:=hat';generalize chk n V R W.length=e at*;refine zB<|zA rfl<|v0s<|veT<|zB<|vT ((i:Int)<(Aa fs:Int))<|zL<|zC<|zD<|zB<|zF<|zB<|zA rfl<|vr 2 (ix (i:Int) (Aa fs:Int) (Ah rnCB fs≠[])/\3<=Aa (Ag (i*3)<|Ah rnCB fs))<|vs 28 (Ar<|Ai 3<|Ag (i*3)<|Ah rnCB fs) (Ar<|rnCB<|Rn.mk V R W) (hd:=by simp(disch:=omega) only[hg2])<|ve (Ac=Ac/\Ab=Ab/\3=3/\3<=3)<|zB<|zB<|zA rfl<|vr 2 (3<=3)<|vc (hch)<|veT<|zB<|zA rfl<|veT<|zDw (t:=e !=(0:Int)) (by kernel_rfl) (by simpa using by omega)<|zB<|zA rfl<|veT<|zJ<|zG<|zN<|zG<|zG<|zN<|zG<|vre (True) (Av<|As AY e) (.inr rfl) ?_;rw[ewr,if_neg (by omega),if_pos (by omega),hat2]
 rw[AN h3]at hcl⊢;have h0:=errL_0 λj hj=>h2 j (by omega);have hce:=covM_eq n fs λf hf=>by
  obtain⟨A,hA,hfit⟩:=zT4 (zXb h0 f hf);exact⟨A,hA,λv hv=>by have:=hfit.lt v hv;omega⟩
 focus
  refine zB<|zA rfl<|v0s<|veT<|zB<|vF ((i:Int)<(Aa fs:Int))<|zV<|zM<|zM<|zS rfl<|zC<|zD<|zB<|zB<|zA rfl<|vr 3 ((0:Int)<=(n:Int))<|vs 42 (Av<|As Au<|AV Au ((1:Int)*(2:Int)^min (Ak (n:Int)) 32)) (dig ((2:Nat)^n)) (hd:=by simp(disch:=omega) only[AA,w2])<|vr 1 (u3 ((↑((2:Nat)^n):Int)-(1:Int)))<|vs 43 (Av<|As Au ((↑((2:Nat)^n):Int)-(1:Int))) (dig ((2:Nat)^n-1)) (hd:=by simp(disch:=omega) only[w3])<|veT<|zAq (t:=(↑(covM fs):Int)!=(↑((2:Nat)^n-1):Int)) (by kernel_rfl) (λhc=>?_)<|λhc=>?_;simp only[bne_iff_ne]at hc;refine zB<|zA rfl<|veT<|zJ<|zG<|vre (True) (Av<|As AY (22:Int)) (.inr rfl) ?_;rotate_left;simp only[bne_eq_false_iff_eq]at hc;refine zL<|zC<|zD<|zB<|zA rfl<|veT<|zJ<|vre (True) (Av<|As AY (0:Int)) (.inr rfl) ?_;rotate_left
 ·rw[ewr,if_neg (by omega),if_neg (by omega),if_neg (λh=>by have:=hce.2 h;omega)]
 rw[ewr,if_neg (by omega),if_neg (by omega),if_pos (hce.1 (by omega))]
section
variable (n e : Int) (keep : Nat) (cs : List D) (m : Nat)
theorem total_cB(f:Fa Bool)(hm:Pure Ao 69 [booD,iD n,u32D 0, .row cs m] [] (.tup [faAB f,iD 0])):Pure Ao 67 [booD,iD n, .row cs m] [] (.tup [bD ((f.l.map (·.2)).headD Ac),iD 0]):=by
 obtain⟨A,l⟩:=f;rcases l with _|⟨p,l⟩
 ·skip;obtain⟨z,hz⟩:∃z:Bool,z=false:=⟨_,rfl⟩;have hr:bD (([]:List (Rw×Bool)).map (·.2)|>.headD Ac)=bD z:=by rw[hz];rfl
  simp only[hr];refine zH (T:=Tc) (zVj _ _ _) mixed Tryz.func67 rfl<|zB<|zA rfl<|v0s<|veT<|zB<|zA rfl<|vrT 3<|vc (hm)<|ve (0<2/\1<2/\Ac=Ac/\Ab=Ab/\3=3/\3<=3)<|zB<|zB<|zA rfl<|veT<|vf<|zL<|zC<|zD<|zB<|zB<|zA rfl<|ve (True/\0<1/\True)<|vt<|zB<|zA rfl<|vrT 1<|vc (bzero_c z hz)<|veT<|zJ<|zG<|vret (True)<|.inr rfl
 skip;show Pure _ _ _ _ (.tup [bD p.2,iD 0]);have hx:(zAo (p::l)).headD .unk=bD p.2:=rfl;have hne:zAo (p::l)≠[]:=by simp
 refine zH (T:=Tc) (zVj _ _ _) mixed Tryz.func67 rfl<|zB<|zA rfl<|v0s<|veT<|zB<|zA rfl<|vrT 3<|vc (hm)<|ve (0<2/\1<2/\Ac=Ac/\Ab=Ab/\3=3/\3<=3)<|zB<|zB<|zA rfl<|veT<|vf<|zL<|zC<|zD<|zB<|zB<|zA rfl<|ve (True/\0<1/\True)<|vEf ((↑(Aa l+1):Int)) ((0:Int))<|zL<|zC<|zD<|zB<|zA rfl<|ve (True/\0<1/\ix (0:Int) (↑(Aa l+1):Int) (zAo (p::l)≠[])/\0<Aa (zAo (p::l)))<|zJ<|vret (True)<|.inr rfl
end
def Nor(ab:List D):Prop:=∀j,zBh j ab=Ac
section
variable (t : Tri) (l p e : Int) (ab : List D) (s : Int) (hab : ab.length = 64) (hno : Nor ab)
end
end
def gal(L:Nat->Bool)(e:Nat):Nat->Nat->Nat->Nat->Nat×Nat×Nat
 |0,low,step,s=>(low,step,s)
 |n+1,low,step,s=>if low+step<e then(if L (low+step)then gal L e n (low+step) (step*2) (s+1)else(low,step,s+1))else(low,step,s)
def bis(L:Nat->Bool):Nat->Nat->Nat->Nat->Nat×Nat
 |0,_,high,s=>(high,s)
 |n+1,low,high,s=>if 1<high-low then(if L (low+(high-low)/2)then bis L n (low+(high-low)/2) high (s+1)else bis L n low (low+(high-low)/2) (s+1))else(high,s)
def sek(L:Nat->Bool)(q e s:Nat):Nat×Nat:=
 if L q then
  let g:=gal L e e q 1 (s+1)
  let h:=min (g.1+g.2.1) e
  bis L e g.1 h g.2.2
 else(q,s+1)
section
open Go.RowKit
attribute [local irreducible] seqW awp zW zY zR Weak updS zZ retL Pure Acts rP setP setQ cP nP fr
set_option maxRecDepth 4096
abbrev fr0:List (Int×Int):=AI 32 (0,0)
end
structure It where
 t:Tri
 l:Nat
 p:Nat
 e:Nat
 fr:List (Int×Int)
 s:Nat
 deriving Inhabited
abbrev vls(t:Tri)(k:Nat):List Va:=(t.getD k Af).1
abbrev fst'(t:Tri)(k:Nat):List Nat:=(t.getD k Af).2
def onI(it:It):Bool:=decide (0<it.l)&&decide (it.p<it.e)
def opI(it:It):It:=match it.l with
 |0=>{it with l:=1,p:=0,e:=szT it.t,fr:=it.fr.set 0 ((it.p:Nat),(it.e:Nat))}
 |k+1=>{it with l:=k+2,p:=(fst' it.t k).getD it.p 0,e:=(fst' it.t k).getD (it.p+1) 0,fr:=it.fr.set (k+1) ((it.p:Nat),(it.e:Nat))}
def upI(it:It):It:={it with l:=it.l-1,p:=(it.fr.getD (it.l-1) (0,0)).1.toNat,e:=(it.fr.getD (it.l-1) (0,0)).2.toNat}
def keyI(it:It):Va:=(vls it.t (it.l-1)).getD it.p Af
def lsI(v:Va)(it:It)(i:Nat):Bool:=decide (vcmp ((vls it.t (it.l-1)).getD i Af) v<0)
def skI(v:Va)(it:It):It:={it with p:=(sek (lsI v it) it.p it.e it.s).1,s:=(sek (lsI v it) it.p it.e it.s).2}
def nxI(it:It):It:={it with p:=it.p+1}
def opAll(ix:List Nat)(its:List It):List It:=ix.foldl (λits i=>its.set i (opI (its.getD i Af))) its
def upAll(ix:List Nat)(its:List It):List It:=ix.foldl (λits i=>its.set i (upI (its.getD i Af))) its
def mtL(ix:List Nat):Nat->List It->Va->Nat->Nat->Nat->List It×Nat×Bool
 |0,its,key,same,k,s=>(its,s,Ab)
 | f+1,its,key,same,k,s=>if same<ix.length then
   if onI (skI key (its.getD (ix.getD (k%ix.length) 0) Af))then
    if vcmp (keyI (skI key (its.getD (ix.getD (k%ix.length) 0) Af))) key=0 then mtL ix f (its.set (ix.getD (k%ix.length) 0) (skI key (its.getD (ix.getD (k%ix.length) 0) Af))) key (same+1) (k+1) (s+1)
    else mtL ix f (its.set (ix.getD (k%ix.length) 0) (skI key (its.getD (ix.getD (k%ix.length) 0) Af))) (keyI (skI key (its.getD (ix.getD (k%ix.length) 0) Af))) 1 (k+1) (s+1)
   else(its.set (ix.getD (k%ix.length) 0) (skI key (its.getD (ix.getD (k%ix.length) 0) Af)),s,Ac)
  else(its,s,Ab)
def gtI(v:Va)(it:It):Nat:=((List.range' it.p (it.e-it.p)).filter λj=>decide (vcmp v ((vls it.t (it.l-1)).getD j Af)<0)).length
def gtA(ix:List Nat)(its:List It)(v:Va):Nat:=(ix.map λi=>gtI v (its.getD i Af)).sum
def msr(ix:List Nat)(its:List It)(key:Va)(same:Nat):Nat:=gtA ix its key*(ix.length+1)+(ix.length-same)
def metJ(ix:List Nat)(its:List It)(s:Nat):List It×Nat×Bool:=
 if onI (its.getD (ix.getD 0 0) Af)then mtL ix (msr ix its (keyI (its.getD (ix.getD 0 0) Af)) 1) its (keyI (its.getD (ix.getD 0 0) Af)) 1 1 s else(its,s,Ac)
structure Js where
 its:List It
 row:List Va
 s:Nat
 ys:List (List Va)
def lpJ(rec:Js->Js)(ix:List Nat)(v:Nat):Nat->Bool->Js->Js
 |f+1,Ab,S=>
  let S1:=rec {S with row:=S.row.set v (keyI (S.its.getD (ix.getD 0 0) Af))}
  let it:=nxI (S1.its.getD (ix.getD 0 0) Af)
  let its2:=S1.its.set (ix.getD 0 0) it
  if onI it then lpJ rec ix v f (metJ ix its2 S1.s).2.2 {S1 with its:=(metJ ix its2 S1.s).1,s:=(metJ ix its2 S1.s).2.1}else{S1 with its:=its2}
 |_,_,S=>S
def extJ(ats:Nat->List Nat):Nat->Nat->Js->Js
 |0,v,S=>{S with s:=S.s+1,ys:=S.ys++[S.row]}
 |m+1,v,S=>
  let its1:=opAll (ats v) S.its
  let r:=metJ (ats v) its1 S.s
  let S2:=lpJ (extJ ats m (v+1)) (ats v) v ((its1.getD ((ats v).getD 0 0) Af).e) r.2.2 {S with its:=r.1,s:=r.2.1}
  {S2 with its:=upAll (ats v) S2.its}
structure LvI(it:It):Prop where
 l1:1<=it.l
 l2:it.l<=it.t.length
 pe:it.p<=it.e
 sib:it.p<it.e->Sib (it.t.drop (it.l-1)) it.p it.e
def has(it:It)(d:Va):Prop:=∃j,it.p<=j/\j<it.e/\(vls it.t (it.l-1)).getD j Af=d
structure Adv(a b:It):Prop where
 t:b.t=a.t
 l:b.l=a.l
 e:b.e=a.e
 fr:b.fr=a.fr
 p:a.p<=b.p
def allHas(ix:List Nat)(its:List It)(d:Va):Prop:=∀i∈ix,has (its.getD i Af) d
structure Met(ix:List Nat)(its:List It)(r:List It×Nat×Bool):Prop where
 len:r.1.length=its.length
 out:∀i,i∉ix->r.1.getD i Af=its.getD i Af
 adv:∀i∈ix,Adv (its.getD i Af) (r.1.getD i Af)
 lv:∀i∈ix,LvI (r.1.getD i Af)
 com:∀d,allHas ix its d↔r.2.2=Ab/\allHas ix r.1 d
 key:r.2.2=Ab->∃c,∀i∈ix,(r.1.getD i Af).p<(r.1.getD i Af).e/\keyI (r.1.getD i Af)=c
def RSr(it:It):List (List Va):=rws (it.t.drop (it.l-1)) it.p it.e
def RS(it:It):List (List Va):=match it.l with
 |0=>rws it.t 0 (szT it.t)
 |k+1=>rws (it.t.drop (k+1)) ((fst' it.t k).getD it.p 0) ((fst' it.t k).getD (it.p+1) 0)
structure Res(a b:It):Prop where
 t:b.t=a.t
 l:b.l=a.l
 p:b.p=a.p
 e:b.e=a.e
 fl:b.fr.length=a.fr.length
 fr:∀j,j<a.l->b.fr.getD j (0,0)=a.fr.getD j (0,0)
structure AtI(d l:Nat)(it:It):Prop where
 tl:it.t.length=d
 ll:it.l=l
 fl:it.fr.length=32
 d32:d<=32
 root:d≠0->Sib it.t 0 (szT it.t)
 lv:0<l->LvI it/\it.p<it.e
structure InI(d l:Nat)(it:It):Prop where
 tl:it.t.length=d
 ll:it.l=l
 fl:it.fr.length=32
 d32:d<=32
 root:d≠0->Sib it.t 0 (szT it.t)
 lv:LvI it
section
variable (n na : Nat) (vs : Nat → List Nat)
def ats(v:Nat):List Nat:=(Ap na).filter λa=>decide (v∈vs a)
def cnt(a v:Nat):Nat:=((vs a).filter λw=>decide (w<v)).length
def prj(a v:Nat)(y:List Va):List Va:=((vs a).filter λw=>decide (v<=w)).map λw=>y.getD w Af
structure Vok:Prop where
 asc:∀a,a<na->(vs a).Pairwise (· <·)
 lt:∀a,a<na->∀w∈vs a,w<n
 cov:∀v,v<n->∃a,a<na/\v∈vs a
structure AtV(v:Nat)(its:List It):Prop where
 len:its.length=na
 one:∀a,a<na->AtI (vs a).length (cnt vs a v) (its.getD a Af)
structure InV(v:Nat)(its:List It):Prop where
 len:its.length=na
 inn:∀a,a<na->v∈vs a->InI (vs a).length (cnt vs a v+1) (its.getD a Af)
 out:∀a,a<na->v∉vs a->AtI (vs a).length (cnt vs a v) (its.getD a Af)
def Tv(v:Nat)(its:List It)(y:List Va):Prop:=∀a,a<na->if v∈vs a then prj vs a v y∈RSr (its.getD a Af)else prj vs a v y∈RS (its.getD a Af)
variable {n na vs}
end
section
variable {n na : Nat} {vs : Nat → List Nat}
structure ExtP(n na:Nat)(vs:Nat->List Nat)(v:Nat)(S S':Js):Prop where
 len:S'.its.length=na
 res:∀a,a<na->Res (S.its.getD a Af) (S'.its.getD a Af)
 row:S'.row.length=n
 take:S'.row.take v=S.row.take v
 ys:∃J,S'.ys=S.ys++J/\Rsc J/\∀y,y∈J↔(y.length=n/\y.take v=S.row.take v/\∀a,a<na->prj vs a v y∈RS (S.its.getD a Af))
structure LpP(n na:Nat)(vs:Nat->List Nat)(v:Nat)(S S':Js):Prop where
 len:S'.its.length=na
 res:∀a,a<na->v∉vs a->Res (S.its.getD a Af) (S'.its.getD a Af)
 adv:∀a,a<na->v∈vs a->(S'.its.getD a Af).t=(S.its.getD a Af).t/\(S'.its.getD a Af).l=(S.its.getD a Af).l/\(S'.its.getD a Af).fr.length=(S.its.getD a Af).fr.length/\∀j,j<(S.its.getD a Af).l->(S'.its.getD a Af).fr.getD j (0,0)=(S.its.getD a Af).fr.getD j (0,0)
 row:S'.row.length=n
 take:S'.row.take v=S.row.take v
 ys:∃J,S'.ys=S.ys++J/\Rsc J/\∀y,y∈J↔(y.length=n/\y.take v=S.row.take v/\Tv na vs v S.its y)
end
section
open Go.RowKit
structure Lay where
 N:Nat
 na:Nat
 n:Nat
 jb:Nat
 rb:Nat
 tb:Nat
 ab:Nat->Nat
 ib:Nat->Nat
 vs:Nat->List Nat
 cb:Nat
 ch:List Nat
 yb:List (List Va)->Nat->Option Bk
 bs:Nat->Bk
def namB(N:Nat)(b:Bk):Prop:=b.nob=Ab\/∀j,N<=j->zBh j b.cells=Ac
section
variable {L : Lay} {S : Js}
end
theorem zY7{T:Par}{N:Nat}{sl:List D}{st bs:List Bk}(hl:st.length=N)(hn:∀b∈st,namB N b)(hs:∀j∈ownL sl,j<N)(hk:∀k,N<=k->T.keep k=Ac):Weak T sl (st++bs) sl st:=by
 have ht:(st++bs).take N=st:=by rw[<-hl,List.take_left'];rfl
 have:=Weak.cut (T:=T) (sl:=sl) (st:=st++bs) N ?_ hk
 ·rw[ht]at this;exact this
 unfold zJu;simp only[Bb,A2,Ba,Cx,Bf];intro i hi;refine⟨zEd sl λj hj=>by have:=hs j hj;omega,λe he=>?_⟩;rw[ht]at he;rcases hn e he with h|h
 ·exact .inl h
 exact .inr (h _ (by omega))
def lts(N:Nat):List Nat->Prop
 |[]=>True
 |j::l=>j<N/\lts N l
theorem lts_mem{N:Nat}:∀{l:List Nat},lts N l->∀j∈l,j<N
 |[],_,j,hj=>by simp at hj
 |i::l,h,j,hj=>by
  rcases AR.1 hj with rfl|hj
  ·exact h.1
  exact lts_mem h.2 j hj
theorem zQf{T:Par}{N:Nat}{sl sl':List D}{st bs:List Bk}(C:Prop)(hl:st.length=N)(hn:∀b∈st,namB N b)(hk:∀k,N<=k->T.keep k=Ac)(hw:Weak T sl (st++bs) sl' (st++bs))(hC:lts N (ownL sl')=C)(hs:C):Weak T sl (st++bs) sl' st:=
 hw.trans (zY7 hl hn (lts_mem (hC▸hs)) hk)
structure BdI(it:It):Prop where
 vl:∀k,(vls it.t k).length<=1000000
 fl:∀k,(fst' it.t k).length<=1000001
 fc:∀k,∀c∈fst' it.t k,c<=1000000
 t32:it.t.length<=32
 f32:it.fr.length=32
section
variable {st : List Bk} {k : Nat} {it : It}
end
end
abbrev big:Nat:=100000000000000000
structure MI(ix:List Nat)(na M:Nat)(its:List It)(key:Va)(same k s f:Nat):Prop where
 len:its.length=na
 lt:∀i∈ix,i<na
 lv:∀i∈ix,LvI (its.getD i Af)/\(its.getD i Af).p<(its.getD i Af).e/\(its.getD i Af).e-(its.getD i Af).p<=M
 st:∀i∈ix,(its.getD i Af).s+f*(M+2)<=big
 s1:1<=same
 s2:same<=ix.length
 kf:k+f<=big
 sf:s+f<=big
 ms:msr ix its key same<=f
section
variable {ix : List Nat} {na M : Nat} {its : List It} {key : Va} {same k s f : Nat}
end
section
variable {n na : Nat} {vs : Nat → List Nat}
theorem ats_len(v:Nat):(ats na vs v).length<=na:=by
 grind [ats,AE,Bq]
end
section
open Go.RowKit
structure Mk where
 p:Nat
 n:Nat
 cb:Nat
 A:List (List Nat×List Rw)
 base:Nat->Bk
abbrev atN(a:List Nat×List Rw):List D:=[.row (a.1.map λv=>iD (v:Nat)) a.1.length,iD (a.1.length:Nat), .row (a.2.map rowV) a.2.length]
abbrev Mk.vs(m:Mk)(a:Nat):List Nat:=(m.A.getD a Af).1
abbrev Mk.tr(m:Mk)(a:Nat):Tri:=trieT (m.vs a).length (m.A.getD a Af).2
abbrev it0(t:Tri):It:=⟨t,0,0,0,fr0,0⟩
section
variable {m : Mk} {ix : Nat → List Nat} {al : List Nat} {c : Nat}
structure MOk(m:Mk):Prop where
 bs:∀k,k<m.p->namB m.p (m.base k)
 cb:m.cb<m.p
end
abbrev itS(m:Mk):List It:=(Ap m.A.length).map λi=>it0 (m.tr i)
abbrev S0(m:Mk):Js:=⟨itS m,AI m.n ⟨0,0,[]⟩,0,[]⟩
structure AOk(m:Mk):Prop where
 n:m.n<=32
 na:m.A.length<=1000
 p:m.p<=50000
 v:Vok m.n m.A.length m.vs
 r:∀a∈m.A,a.2.length<=65536/\(∀r∈a.2,r.length=a.1.length)/\Rsc a.2
structure YbOk(m:Mk)(ch:List Nat)(yb:List (List Va)->Nat->Option Bk):Prop where
 c:∀k∈ch,k<m.p
 cb:m.cb∉ch
 b:∀ys k b,yb ys k=Ax b->k<m.p/\namB m.p b
 z:∀k b,yb [] k=Ax b->b=m.base k
section
variable {m : Mk} {ch : List Nat} {yb : List (List Va) → Nat → Option Bk}
end
end
section
open Go.RowKit
attribute [local irreducible] seqW awp zW zY zR Weak updS zZ retL Pure Acts rP setP setQ cP nP fr
set_option maxRecDepth 4096
def sumS(its:List It):Nat->Nat
 |0=>0
 |i+1=>sumS its i+(its.getD i Af).s
abbrev S1(m:Mk):Js:=extJ (ats m.A.length m.vs) m.n 0 (S0 m)
abbrev S2(m:Mk)(k:Nat):Js:={S1 m with s:=(S1 m).s+sumS (S1 m).its k}
abbrev isD(l:List (Rw×Nat)):List D:=nsD (l.map (·.2))
abbrev rfC(A:List Nat)(l:List (Rw×Nat)):List D:=[.row (nsD A) A.length, .row (rwsD l) l.length, .row (isD l) l.length]
abbrev rfAc(f:Fa Nat):List D:=rfC f.A f.l
section
variable {Dm : List Va}
end
abbrev natI(W:List Nat):List Int:=W.map λw:Nat=>(w:Int)
abbrev rnR(f:Rn):Raw:=⟨f.V,f.R,natI f.W⟩
abbrev rwD(f:Rn):List D:=rawC (rnR f)
structure Rsm(f:Rn):Prop where
 v:f.V.length<=4
 r:f.R.length<=10
 w:f.W.length<=12
 b:∀w∈f.W,w<=1000
end
section
open Go.RowKit
def ddp:List Va->List Va
 |[]=>[]
 |a::l=>if a∈ddp l then ddp l else a::ddp l
theorem zL8:∀{l:List Va}{a:Va},a∈ddp l↔a∈l
 |[],a=>by simp[ddp]
 | b::l,a=>by
  rw[ddp];split
  ·rename_i h;rw[zL8,AR];constructor
   ·exact .inr
   rintro(rfl|h2)
   ·exact zL8.1 h
   exact h2
  rw[AR,AR,zL8]
theorem zFt:∀l:List Va,(ddp l).Nodup
 |[]=>by simp[ddp]
 |b::l=>by
  rw[ddp];split
  ·exact zFt l
  rename_i h;exact B3.2 ⟨h,zFt l⟩
def toFa(f:Rn):Fa Nat:=⟨f.V.map Ak,f.R.zip f.W⟩
structure Tofa(Dm:List Va)(f:Rn):Prop where
 c:rnC f=faAc (toFa f)
 w:rwD f=rfAc (toFa f)
 ok:FOk rcmp Dm (toFa f)
 r:rz (toFa f)<=11
 v:vz (toFa f)<=10001
 A:f.V=intL (toFa f).A
theorem pz_le{α:Type}{z:α->Nat}{b:Nat}:∀{l:List α},(∀a∈l,z a<=b)->pz z l<=b^l.length
 |[],_=>by simp[pz]
 |a::l,h=>by
  rw[zCm,AT,Nat.pow_succ,Nat.mul_comm];exact Nat.mul_le_mul (pz_le λc hc=>h c (Bm _ hc)) (h a (AZ ..))
def rn1(f:Rn):Rn:=⟨f.V,f.R,AI f.R.length 1⟩
section
variable {n : Nat} {fs : List Rn} (hn : n ≤ 8) (hl : fs.length ≤ 4) (hs : ∀ f ∈ fs, Rsm f) (h1 : errL n fs = 0) (h2 : covP n fs = true)
include hn hl hs h1 h2
end
end
section
open Go.RowKit
attribute [local irreducible] seqW awp zW zY zR Weak updS zZ retL Pure Acts rP setP setQ cP nP fr
set_option maxRecDepth 4096
abbrev afC(f:Rn):List D:=[.row (f.V.map λz=>iD z) f.V.length,iD (f.V.length:Nat), .row (f.R.map rowV) f.R.length]
abbrev afB(f:Rn):Bk:=⟨afC f,45,0,Ac,Ac, .plain⟩
theorem rep_succ{α:Type}(f:α->D)(a:α)(i:Nat):(AI (i+1) a).map f=(AI i a).map f++[f a]:=by
 rw[List.replicate_succ',Bd];rfl
set_option maxHeartbeats 2000000 in
theorem fromB_c(f:Rn)(hV:f.V.length<=1000)(hR:f.R.length<=1000)(hl:∀r∈f.R,r.length<=2000000):Pure Ao 87 [booD, .agg (afC f)] [] (.agg (rnCB (rn1 f))):=by
 obtain⟨V,R,W⟩:=f;simp only at hV hR hl;have hcl:=zYq (V.map λz=>iD z) V.length (by simp) (by omega);have hrr:=rRows_c (V.length:Nat) R (by omega) hl;show Pure _ _ _ [] (.agg [.row (V.map λz=>iD z) V.length, .row (R.map rowV) R.length, .row ((AI R.length 1).map λx=>bD (g0 x)) (AI R.length 1).length]);obtain⟨o,ho⟩:∃o:Bool,o=true:=⟨Ab,rfl⟩;have e1:(AI R.length 1).map (λx=>bD (g0 x))=(AI R.length o).map bD:=by
  rw[Cy,Cy,ho];rfl
 rw[List.length_replicate,e1];have hone:=bone_c o ho;refine zH (T:=Tc) (zVj _ _ _) mixed Tryz.func87 rfl<|vAu<|zB<|vd [0,3,1,2,4,5,6,7,8]<|vr 3 (True/\True/\0<3)<|vc (hcl)<|vr 1 (2<=2)<|vc (hrr)<|vr 3 (((1=1/\1<=3/\1=1/\2<=3/\True)/\Ab=Ab)/\Ac=Ac/\Ab=Ab/\3=3/\3<=3)<|vnil<|zC<|vnn (fr 27 [(0,booD),(3,AH 0 0),(4,AH 1 0),(5,AH 2 0),(6,AH 0 0),(7,Ae (Ad (λ(z:Int)=>iD z) V)<|Aa V),(8,Ae (Ad (λ(z:Int)=>iD z) V)<|Aa V),(9,AH 0 1),(10,Ar [iD (Aa V:Int),Ae (Ad rowV R)<|Aa R]),(11,Ae (Ad rowV R)<|Aa R),(12,Ar [Ae (Ad (λ(z:Int)=>iD z) V)<|Aa V,Ae (Ad rowV R)<|Aa R,nl])]) [Az [Ae (Ad (λ(z:Int)=>iD z) V)<|Aa V,iD (Aa V:Int),Ae (Ad rowV R)<|Aa R] 45 0 Ac Ac AC,Az [nl,nl,nl] 133 0 Ac Ac AC,Az [Ae (Ad (λ(z:Int)=>iD z) V)<|Aa V,Ae (Ad rowV R)<|Aa R,nl] 133 0 Ac Ac AC]<|zCd (Weak.nilC (j:=2) (i:=2) (zDk []) rfl rfl rfl rfl) ?_;refine zB<|vAs<|ve (True/\0<2)<|zF<|zQ (λ(i:Nat)=>fr 27 [(0,booD),(4,AH 1 0),(5,AH 2 0),(15,iD<|Aa R),(16,iD i)]) (λ(i:Nat)=>[afB ⟨V,R,W⟩,fB1B nl nl nl,fB1B (.row (V.map λz=>iD z) V.length) (.row (R.map rowV) R.length)<|.osl 3 0 i i Ab,zDk<|(AI i o).map bD]) (λi=>R.length-i) (λ(i:Nat)=>i<=R.length) 0 ?_ ?_ ?_
 ·omega
 ·refine vk 4
 rintro i h1;have hll:((AI i o).map bD).length=i:=by simp
 rcases An i R.length with h2|h2
 ·have e0:=rep_succ bD o i;refine vAu<|zB<|vT ((i:Int)<↑(Aa R))<|vKB<|vd [0,2,1,3,4,5,6,7]<|vr 3 (True/\0<1)<|vc hone<|vr 4 (((1=1/\1<=1/\True)/\0<1/\1=1/\1<=16777216/\1<=9223372036854775807)/\(A_ (zDk<|Ad bD<|AI i o)=Ab/\Aa (AD<|zDk<|Ad bD<|AI i o)=i*1/\i=i*1/\A6 (zDk<|Ad bD<|AI i o)=4/\A7 (zDk<|Ad bD<|AI i o)=1/\1=1/\0<1/\0<1/\4=4/\(i+1)*1<=140737488355328/\1=1/\A0 (AF<|zDk<|Ad bD<|AI i o)=Ac/\(Ac=Ac\/A1 (AF<|zDk<|Ad bD<|AI i o)=Ab))/\True/\Ac=Ac/\Ab=Ab/\1=1/\3<=3)<|vb 2 (Az [Ae (Ad (λ(z:Int)=>iD z) V)<|Aa V,Ae (Ad rowV R)<|Aa R,Aj 3 0 (i+1) ((i+1)*1) Ab] 133 0 Ac Ac AC) (Az [Ae (Ad (λ(z:Int)=>iD z) V)<|Aa V,Ae (Ad rowV R)<|Aa R,Aj 3 0 (i+1) (i+1) Ab] 133 0 Ac Ac AC) (hd:=by simp(disch:=omega) only[A8])<|vnil<|zE<|vN<|zA rfl<|vr 2 (i6 (↑i+1))<|vnil<|zC<|⟨i+1,by omega,by omega,?_⟩;rw[e0];refine vk 4
 obtain rfl:i=R.length:=by omega
 have ht:((AI R.length o).map bD).take R.length=(AI R.length o).map bD:=AN (by simp);refine vAu<|zB<|vF ((Aa R:Int)<↑(Aa R))<|vZ2<|vA<|ve (3<=3/\Ac=Ac/\Ab=Ab/\3=3/\3<=3)<|zJ<|zAs (3<=3) (Ar [Ae (Ad (λ(z:Int)=>iD z) V)<|Aa V,Ae (Ad rowV R)<|Aa R,Ae (Ai (Aa R)<|Ag 0<|AD<|zDk<|Ad bD<|AI (Aa R) o)<|Aa R]) (Ar [Ae (Ad (λ(z:Int)=>iD z) V)<|Aa V,Ae (Ad rowV R)<|Aa R,Ae (Ad bD<|AI (Aa R) o)<|Aa R]) (.inr rfl) (by simp(disch:=omega) only[AJ,ht]) rfl (hc:=by omega)
def okC(x:Option Nat):Prop:=Sm (x.getD 0)
def okP(p:Nat×Option Nat):Prop:=Sm p.1/\okC p.2
end
section
open Go.RowKit
set_option maxRecDepth 4096
abbrev FnK:Type:=List Nat×List (Rw×(Option Nat))
section
variable (A B : List Nat) (lb : List (Rw × (Option Nat))) (ok : Rw → Bool)
variable {A B lb ok}
end
end
section
open Go.RowKit
attribute [local irreducible] seqW awp zW zY zR Weak updS zZ retL Pure Acts rP setP setQ cP nP fr
set_option maxRecDepth 4096
structure FVK(f:FnK):Prop where
 asc:Asc f.1
 len:∀p∈f.2,p.1.length=f.1.length
 vs:∀p∈f.2,∀x∈p.1,Vs x
 sz:f.2.length<=1000000
 sm:∀p∈f.2,okC p.2
 nd:Ndk f.2
end
section
open Go.RowKit
set_option maxRecDepth 4096
structure GofK(Dm:List Va)(f:Fa (Option Nat)):Prop where
 ok:FOk rcmp Dm f
 r:rz f<=900000
 v:kz f<=Bz
section
variable {Dm : List Va} (hD : Okv Dm)
end
abbrev FnP:Type:=List Nat×List (Rw×(Nat×Option Nat))
section
variable (A B : List Nat) (lb : List (Rw × (Nat × Option Nat))) (ok : Rw → Bool)
variable {A B lb ok}
end
end
section
open Go.RowKit
attribute [local irreducible] seqW awp zW zY zR Weak updS zZ retL Pure Acts rP setP setQ cP nP fr
set_option maxRecDepth 4096
structure FVP(f:FnP):Prop where
 asc:Asc f.1
 len:∀p∈f.2,p.1.length=f.1.length
 vs:∀p∈f.2,∀x∈p.1,Vs x
 sz:f.2.length<=1000000
 sm:∀p∈f.2,okP p.2
 nd:Ndk f.2
end
section
open Go.RowKit
set_option maxRecDepth 4096
structure GofP(Dm:List Va)(f:Fa (Nat×Option Nat)):Prop where
 ok:FOk rcmp Dm f
 r:rz f<=900000
 v:qz f<=Bz
section
variable {Dm : List Va} (hD : Okv Dm)
end
section
variable {α β γ : Type} (g : α → β)
theorem mp_ok{c:Rw->Rw->Int}{Dm:List Va}{f:Fa α}(h:FOk c Dm f):FOk c Dm (f.mp g):=
 ⟨h.asc,λp hp=>by obtain⟨q,hq,rfl⟩:=Aq.1 hp;exact h.len q hq,BV.2 h.srt,λp hp=>by obtain⟨q,hq,rfl⟩:=Aq.1 hp;exact h.dom q hq⟩
end
@[irreducible] def Mz:Nat:=1000
section
variable {n : Nat} {fs : List Rn} (hn : n ≤ 8) (hl : fs.length ≤ 4) (hs : ∀ f ∈ fs, Rsm f) (hv : ∀ f ∈ fs, ∀ x ∈ f.R, ∀ a ∈ x, Vi a) (h0 : zGz n 0 fs = 0)
include hn hl hs hv h0
end
structure AtOk(n:Nat)(A:List (List Nat×List Rw)):Prop where
 n8:n<=8
 l:A.length<=5
 asc:∀a∈A,a.1.Pairwise (· <·)
 lt:∀a∈A,∀v∈a.1,v<n
 cov:∀v,v<n->∃a∈A,v∈a.1
 srt:∀a∈A,Rsc a.2
 len:∀a∈A,∀r∈a.2,r.length=a.1.length
 few:∀a∈A,a.2.length<=10
 val:∀a∈A,∀r∈a.2,∀v∈r,vok v=Ab/\Vs v
def rnA(a:List Nat×List Rw):Rn:=⟨intL a.1,a.2,[]⟩
abbrev rnAB(a:List Nat×List Rw):List D:=rnCB (rn1 (rnA a))
def valsA(A:List (List Nat×List Rw)):List Va:=ddp (A.flatMap λa=>a.2.flatten)
theorem rnAB_eq(a:List Nat×List Rw):rnAB a=zAd (faT a):=by
 obtain⟨V,R⟩:=a;have e1:((intL V).map λz=>iD z)=nsD V:=by simp[intL]
 have e2:(intL V).length=V.length:=by simp[intL]
 have e3:(R.map λr=>(r,Ab)).map (·.1)=R:=by rw[By];exact List.map_id _
 have e4:((R.map λr=>(r,Ab)).map (·.2)).map bD=(AI R.length 1).map λx=>bD (g0 x):=by
  rw[Cy,By,By];have h:∀R:List Rw,R.map ((bD∘λx:Rw×Bool=>x.2)∘λr=>(r,Ab))=AI R.length (bD (g0 1)):=λR=>by
   induction R with
   |nil=>rfl
   |cons r R ih=>rw[Cz,ih,AT,CA];rfl
  exact h R
 show[Ae ((intL V).map λz=>iD z) (intL V).length, .row (R.map rowV) R.length, .row ((AI R.length 1).map λx=>bD (g0 x)) (AI R.length 1).length]=[.row (nsD V) V.length, .row (((R.map λr=>(r,Ab)).map (·.1)).map rowV) (R.map λr=>(r,Ab)).length, .row (((R.map λr=>(r,Ab)).map (·.2)).map bD) (R.map λr=>(r,Ab)).length];rw[e1,e2,e3,e4,Al,List.length_replicate]
theorem afC_rnA(a:List Nat×List Rw):afC (rnA a)=atN a:=by
 obtain⟨V,R⟩:=a;have e1:((intL V).map λz=>iD z)=nsD V:=by simp[intL]
 have e2:(intL V).length=V.length:=by simp[intL]
 show[Ae ((intL V).map λz=>iD z) (intL V).length,iD ((intL V).length:Nat),_]=[Ae (nsD V) V.length,iD (V.length:Nat),_];rw[e1,e2];rfl
section
variable {n : Nat} {A : List (List Nat × List Rw)} (h : AtOk n A)
include h
theorem AtOk.fok:∀a∈A,FOk rcmp (valsA A) (faT a):=λa ha=>by
 have hn:=h.n8;refine⟨⟨h.asc a ha,λv hv=>by have:=h.lt a ha v hv;omega⟩,λp hp=>?_,?_,λp hp v hv=>?_⟩
 ·obtain⟨r,hr,rfl⟩:=Aq.1 hp;exact h.len a ha r hr
 ·exact BV.2 (h.srt a ha)
 obtain⟨r,hr,rfl⟩:=Aq.1 hp;exact zL8.2 (Bu.2 ⟨a,ha,List.mem_flatten.2 ⟨r,hr,hv⟩⟩)
theorem AtOk.okv:Okv (valsA A):=λv hv=>by
 obtain⟨a,ha,h1⟩:=Bu.1 (zL8.1 hv);obtain⟨r,hr,h2⟩:=List.mem_flatten.1 h1;exact h.val a ha r hr v h2
theorem AtOk.chk:∀a∈A,chkR n (rn1 (rnA a))=0:=λa ha=>by
 have hk:=mp_ok (λ_:Bool=>(0:Nat)) (h.fok a ha);have hc:=chk_ok (n:=n) hk h.okv λv hv=>by have:=h.lt a ha v hv;omega
 have e:((faT a).mp λ_:Bool=>(0:Nat)).l.map (·.1)=a.2:=by
  show(((a.2.map λr=>(r,Ab)).map λp=>(p.1,0)).map (·.1))=_;rw[By,By];exact List.map_id _
 have e2:(((faT a).mp λ_:Bool=>(0:Nat)).l.map (·.2)).length=(AI a.2.length 1).length:=by
  show(((a.2.map λr=>(r,Ab)).map λp=>(p.1,0)).map (·.2)).length=_;simp
 rw[e,e2]at hc;exact hc
theorem AtOk.wrong:zGz n 0 (A.map λa=>rn1 (rnA a))=0:=by
 have hn:=h.n8;have h1:errL n (A.map λa=>rn1 (rnA a))=0:=errL_0 λj hj=>by
  rw[Al]at hj;rw[Am,BL,Aw hj];exact h.chk _ (Bg hj)
 have h2:covP n (A.map λa=>rn1 (rnA a))=true:=by
  unfold covP;rw[Bb];intro v hv;obtain⟨a,ha,hva⟩:=h.cov v (A2.1 hv);exact Bo.2 ⟨_,Aq.2 ⟨a,ha,rfl⟩,decide_eq_true (mem_intL.2 hva)⟩
 unfold zGz;rw[if_neg (by rw[AA,Nat.zero_shiftRight];omega),if_neg (by rw[h1];exact λk=>k rfl),AA,if_pos h2]
theorem AtOk.wrong1(h0:0<n):zGz n 1 (A.map λa=>rn1 (rnA a))=0:=by
 have hw:=h.wrong;have hn:=h.n8;have e:1>>>n=0:=by
  rw[CB];exact Nat.div_eq_of_lt (Cg (by decide:1<2^1) (Bx (by omega) h0))
 unfold zGz at hw⊢;rw[AA]at hw⊢;rw[if_neg (by rw[Nat.zero_shiftRight];omega)]at hw;rw[if_neg (by rw[e];omega)];exact hw
theorem zLo(k:Nat)(hk:k<4294967296)(hw:zGz n k (A.map λa=>rn1 (rnA a))=0):Pure Ao 69 [booD,iD (n:Nat),u32D k, .row (A.flatMap rnAB) A.length] [] (.tup [faAB (zE4 popN rcmp Sb (A.map faT) ((Ap n).filter λv=>!k.testBit v)),iD 0]):=by
 have hn:=h.n8;have hl:=h.l;have e1:(A.map λa=>rn1 (rnA a)).flatMap rnCB=(A.map faT).flatMap zAd:=by
  rw[B4,B4];exact congrArg (λf=>A.flatMap f) (funext rnAB_eq)
 have e2:A.flatMap rnAB=(A.map faT).flatMap zAd:=by
  rw[<-e1,B4]
 have hck:=zT5 n k (A.map λa=>rn1 (rnA a)) hn hk (by rw[Al];omega) λf hf=>by
  obtain⟨a,ha,rfl⟩:=Aq.1 hf;have h3:=zB0 (A:=a.1) ⟨h.asc a ha,λv hv=>by have:=h.lt a ha v hv;omega⟩;have h4:=h.few a ha;refine⟨?_,?_⟩
  ·show(intL a.1).length<=1000;rw[show(intL a.1).length=a.1.length by simp[intL]];omega
  show a.2.length<=1000;omega
 rw[hw,e1,Al]at hck;have hok:∀g∈A.map faT,FOk rcmp (valsA A) g:=λg hg=>by
  obtain⟨a,ha,rfl⟩:=Aq.1 hg;exact h.fok a ha
 have s1:=pz_le (z:=rz) (b:=11) (l:=A.map faT) λg hg=>by
  obtain⟨a,ha,rfl⟩:=Aq.1 hg
  have:=h.few a ha
  unfold rz faT;rw[Al];omega
 have s2:=pz_le (z:=bz) (b:=1) (l:=A.map faT) λg hg=>AK _;rw[Al]at s1 s2;rw[Nat.one_pow]at s2;have s3:11^A.length<=11^5:=Bx (by omega) hl;have e3:11^5=161051:=by decide
 have s6:2^1<=Bz:=Bx (by omega) (by rw[Ez_eq];omega);have s4:2*pz bz (A.map faT)<=Bz:=AE (CC 2 s2) s6;have hm:=zTa h.okv (zFt _) n k (A.map faT) hn hk hok (by rw[Al];omega) (by omega) s4 (λv hv=>by
  obtain⟨a,ha,hva⟩:=h.cov v hv;exact⟨_,Aq.2 ⟨a,ha,rfl⟩,hva⟩) (by rw[Al];exact hck)
 rw[Al,<-e2]at hm;exact hm
theorem totalA_c:∃b:Bool,(b=Ab↔∃τ,SatA A τ)/\Pure Ao 67 [booD,iD (n:Nat), .row (A.flatMap rnAB) A.length] [] (.tup [bD b,iD 0]):=by
 have hm:=zLo h 0 (by decide) h.wrong;exact⟨_,tot_T (pop:=popN) (zFt _) h.fok h.lt h.cov,total_cB _ _ _ _ hm⟩
theorem leastA_c(h0:0<n):∃m:Fa Bool,FOk rcmp (valsA A) m/\m.A=[0]/\(∀x,[x]∈m.l.map (·.1)↔∃τ,τ 0=x/\SatA A τ)/\Pure Ao 69 [booD,iD (n:Nat),u32D 1, .row (A.flatMap rnAB) A.length] [] (.tup [faAB m,iD 0]):=by
 have hm:=zLo h 1 (by decide) (h.wrong1 h0);obtain⟨m,e,h1,h2,h3⟩:=lst_T (pop:=popN) (zFt (A.flatMap λa=>a.2.flatten)) h.fok h.lt h.cov h0;rw[<-e]at hm;exact⟨m,h1,h2,h3,hm⟩
end
end
section
open Go.Proofs
structure Cm{α:Type}(c:α->α->Int):Prop where
 eq:∀a b,c a b=0↔a=b
 neg:∀a b,c b a=0-c a b
 tr:∀a b d,c a b<0->c b d<0->c a d<0
def icmp(a b:Int):Int:=if a<b then-1 else if b<a then 1 else 0
theorem zTe:Cm icmp:=by
 refine⟨λa b=>?_,λa b=>?_,λa b d=>?_⟩<;>unfold icmp<;>(repeat' split)<;>omega
def lcmp:List Int->List Int->Int
 |[],[]=>0
 |[],_::_=>-1
 |_::_,[]=>1
 |x::a,y::b=>if x<y then-1 else if y<x then 1 else lcmp a b
theorem zPk:∀a b,lcmp a b=0↔a=b
 |[],[]=>by simp[lcmp]
 |[],_::_=>by simp[lcmp]
 |_::_,[]=>by simp[lcmp]
 |x::a,y::b=>by
  have:=zPk a b
  simp only[lcmp,List.cons.injEq];grind
theorem zWx:∀a b,lcmp b a=0-lcmp a b
 |[],[]=>by simp[lcmp]
 |[],_::_=>by simp[lcmp]
 |_::_,[]=>by simp[lcmp]
 |x::a,y::b=>by
  have:=zWx a b
  simp only[lcmp];(repeat' split)<;>omega
theorem lcmp_tr:∀a b d,lcmp a b<0->lcmp b d<0->lcmp a d<0
 |[],[],d,h,k=>by simp[lcmp]at h
 |_::_,[],d,h,k=>by simp[lcmp]at h
 |_,_::_,[],h,k=>by simp[lcmp]at k
 |[],y::b,z::d,h,k=>by simp[lcmp]
 |x::a,y::b,z::d,h,k=>by
  have ih:=lcmp_tr a b d;simp only[lcmp]at h k⊢;omega
section
variable {α : Type} {c : α → α → Int}
def AscW(c:α->α->Int)(l:List α):Prop:=l.Pairwise λa b=>c a b<0
def putG(c:α->α->Int)(x:α):List α->Bool->List α
 |[],done=>if done then[]else[x]
 |y::l,done=>(if !done&&decide (0<=c y x)then[x]else[])++(if c y x≠0 then[y]else[])++putG c x l (done||decide (0<=c y x))
def setG(c:α->α->Int)(l:List α):List α:=l.foldl (λo x=>putG c x o Ac) []
theorem zHa(hc:Cm c)(x z:α):∀(l:List α)(done:Bool),z∈putG c x l done↔(done=Ac/\z=x)\/(z∈l/\z≠x)
 |[],done=>by cases done<;>simp[putG]
 |y::l,done=>by
  simp only[putG,Bs,zHa hc x z l,AR];have e:=hc.eq y x;grind
theorem zQ2(hc:Cm c)(x:α):∀(l:List α),AscW c l->AscW c (putG c x l Ab)
 |[],h=>by simp[putG,AscW]
 |y::l,h=>by
  unfold AscW at h;rw[Bh]at h;have ih:=zQ2 hc x l h.2;simp only[putG,CD,Bool.false_and,CE,if_false,AS,Bool.true_or];grind [AscW,List.singleton_append,Bh,zHa]
theorem zWd(hc:Cm c)(x:α):∀(l:List α),AscW c l->AscW c (putG c x l Ac)
 |[],h=>by simp[putG,AscW]
 | y::l,h=>by
  unfold AscW at h;rw[Bh]at h;by_cases h0:0<=c y x
  ·have hd:=zQ2 hc x l h.2;simp only[putG,h0,decide_true,Bool.not_false,Bool.and_self,if_true,Bool.or_true];have hxl:∀z∈l,c x z<0:=by
    intro z hz
    have:=h.1 z hz
    by_cases he:c y x=0
    ·rw[(hc.eq y x).1 he]at this;exact this
    exact hc.tr x y z (by have:=hc.neg y x;omega) this
   have hx2:∀z∈putG c x l Ab,z∈l:=by
    grind [zHa]
   unfold AscW;split
   ·rename_i hne;simp only[AO,AS,Bh,AR];refine⟨λz hz=>?_,λz hz=>h.1 z (hx2 z hz),hd⟩;rcases hz with rfl|hz
    ·have:=hc.neg z x;omega
    exact hxl z (hx2 z hz)
   simp only[AO,AS,Bh];exact⟨λz hz=>hxl z (hx2 z hz),hd⟩
  have ih:=zWd hc x l h.2;have hne:c y x≠0:=by omega
  simp only[putG,h0,decide_false,Bool.and_false,CE,if_false,AS,hne,ne_eq,not_false_eq_true,if_true,Bool.or_false];grind [AscW,List.singleton_append,Bh,zHa]
theorem zH6(hc:Cm c)(z:α):∀(l o:List α),AscW c o->AscW c (l.foldl (λo x=>putG c x o Ac) o)/\(z∈l.foldl (λo x=>putG c x o Ac) o↔z∈l\/z∈o)
 |[],o,h=>by simp[h]
 |x::l,o,h=>by
  have:=zH6 hc z l (putG c x o Ac) (zWd hc x o h)
  grind [zHa]
theorem zNx(hc:Cm c)(l:List α):AscW c (setG c l):=by
 cases l with
 |nil=>exact Ch.nil
 |cons x l=>exact(zH6 hc x (x::l) [] Ch.nil).1
theorem zNw(hc:Cm c)(l:List α)(z:α):z∈setG c l↔z∈l:=by
 have:=(zH6 hc z l [] Ch.nil).2
 simpa[setG]using this
theorem zP5(hc:Cm c):∀{l m:List α},AscW c l->AscW c m->(∀z,z∈l↔z∈m)->l=m
 |[],[],_,_,_=>rfl
 |[],y::m,_,_,h=>by have:=(h y).2 (AZ ..);cases this
 |x::l,[],_,_,h=>by have:=(h x).1 (AZ ..);cases this
 | x::l,y::m,hl,hm,h=>by
  unfold AscW at hl hm;rw[Bh]at hl hm;have irr:∀a,¬c a a<0:=λa=>by have:=(hc.eq a a).2 rfl;omega
  have e:x=y:=by
   have h1:=(h x).1 (AZ ..);have h2:=(h y).2 (AZ ..);rcases AR.1 h1 with h1|h1
   ·exact h1
   rcases AR.1 h2 with h2|h2
   ·exact h2.symm
   exact absurd (hc.tr _ _ _ (hl.1 y h2) (hm.1 x h1)) (irr x)
  subst e;congr 1;refine zP5 hc hl.2 hm.2 λz=>?_;grind
theorem zX4(hc:Cm c){l m:List α}(h:∀z,z∈l↔z∈m):setG c l=setG c m:=by grind [zP5,zNx,zNw]
def dedG[DecidableEq α](p:α):List α->List α
 |[]=>[]
 |x::l=>if x=p then dedG p l else x::dedG x l
def ddG[DecidableEq α]:List α->List α
 |[]=>[]
 |x::l=>x::dedG x l
theorem zR0[DecidableEq α](hc:Cm c):∀(l:List α)(p:α),(p::l).Pairwise (λa b=>¬c b a<0)->AscW c (p::dedG p l)/\∀z,z∈p::dedG p l↔z∈p::l
 |[],p,h=>by simp[dedG,AscW]
 | x::l,p,h=>by
  rw[Bh]at h;have hpx:=h.1 x (AZ ..);have ih:=zR0 hc l x h.2;unfold dedG;split
  ·grind
  rename_i hne;have hlt:c p x<0:=by
   have h1:=hc.neg p x;have h2:c p x≠0:=λh=>hne ((hc.eq p x).1 h).symm;omega
  refine⟨?_,λz=>by rw[AR,ih.2,AR (a:=z) (b:=p)]⟩;unfold AscW;rw[Bh];refine⟨λz hz=>?_,ih.1⟩;rcases AR.1 hz with rfl|hz
  ·exact hlt
  have:=ih.1
  unfold AscW at this;rw[Bh]at this;exact hc.tr _ _ _ hlt (this.1 z hz)
theorem zYl[DecidableEq α](hc:Cm c){l:List α}(h:l.Pairwise (λa b=>¬c b a<0)):ddG l=setG c l:=by
 cases l with
 |nil=>rfl
 |cons x l=>
  have:=zR0 hc l x h
  exact zP5 hc this.1 (zNx hc _) λz=>by rw[zNw hc];exact this.2 z
end
theorem zR5(x:Int)(l:List Int):Bi (x::l)=x::dedG x l:=by
 have key:∀(l:List Int)(x:Int),Bi (x::l)=x::dedG x l:=by
  intro l;induction l with
  |nil=>intro x;simp[Bi,CF,dedG,BA,BB]
  | cons y l ih=>
   intro x;have h1:Bi (x::y::l)=x::(if y=x then(Bi (y::l)).tail else Bi (y::l)):=by
    simp only[Bi,CF,AT];rw[List.range_succ_eq_map,Bl];have hk0:BB (x::y::l).toArray 0=true:=by simp[BB]
    rw[if_pos hk0,Cz,List.filter_map,By];congr 1;have hfun:((λx_1=>(x::y::l).toArray[x_1]!)∘B5)=λi=>(y::l).toArray[i]!:=by funext i;simp
    rw[hfun];rw[List.range_succ_eq_map];simp only[Bl,List.filter_map,Cz,By];have hk1:(BB (x::y::l).toArray∘B5) 0=decide (y≠x):=by
     simp[BB]
    have hk2:BB (y::l).toArray 0=true:=by simp[BB]
    have hk3:((BB (x::y::l).toArray∘B5)∘B5)=(BB (y::l).toArray∘B5):=by
     funext i;simp[BB]
    grind
   rw[h1,ih y];simp only[dedG,List.tail_cons];grind
 exact key l x
theorem zYo(l:List Int):Bi l=ddG l:=by
 cases l with
 |nil=>rfl
 |cons x l=>exact zR5 x l
end
section
open Go.RowKit
abbrev intD(z:Int):D:= .val (.int .i64 z)
abbrev intsD(l:List Int):D:= .row (l.map intD) l.length
end
section
open Go.RowKit
set_option maxRecDepth 4096
theorem zHp(l:List Int)(k:Nat)(h:k<l.length):((l.map intD).drop k).headD .unk=intD (l.getD k 0):=zA5 intD l 0 k h
theorem lcmp_drop{a b:List Int}{i:Nat}(ha:i<a.length)(hb:i<b.length):lcmp (a.drop i) (b.drop i)=if a.getD i 0<b.getD i 0 then-1 else if b.getD i 0<a.getD i 0 then 1 else lcmp (a.drop (i+1)) (b.drop (i+1)):=by
 grind [BK,lcmp]
theorem zWy{a b:List Int}{i:Nat}(h:i=a.length\/i=b.length)(h1:i<=a.length)(h2:i<=b.length):lcmp (a.drop i) (b.drop i)=if a.length<b.length then-1 else if b.length<a.length then 1 else 0:=by
 have e1:=Bn (i:=i) (l:=a);have e2:=Bn (i:=i) (l:=b);generalize a.drop i=X at*;generalize b.drop i=Y at*;match X,Y,e1,e2 with
 |[],[],e1,e2=>simp only[lcmp,BO]at*;rw[if_neg (by omega),if_neg (by omega)]
 |[],y::Y,e1,e2=>simp only[lcmp,BO,AT]at*;rw[if_pos (by omega)]
 |x::X,[],e1,e2=>simp only[lcmp,BO,AT]at*;rw[if_neg (by omega),if_pos (by omega)]
 |x::X,y::Y,e1,e2=>simp only[AT]at*;omega
end
section
open Go.RowKit
theorem AtOk.rest{n:Nat}{A:List (List Nat×List Rw)}(h:AtOk n A){p:Rw}(hp:p.length<=n):AtOk (n-p.length) (A.map (zBe p)) where
 n8:=by have:=h.n8;omega
 l:=by rw[Al];exact h.l
 asc b hb:=by
  obtain⟨a,ha,rfl⟩:=Aq.1 hb
  show(rstF p a.1 0 a.2).1.Pairwise (· <·)
  rw[zG6,BV]
  refine((h.asc a ha).filter _).imp_of_mem λ{u v} hu hv huv=>?_
  have:=of_decide_eq_true (AP.1 hu).2
  omega
 lt b hb v hv:=by
  obtain⟨a,ha,rfl⟩:=Aq.1 hb
  have hv:v∈(rstF p a.1 0 a.2).1:=hv
  rw[zG6]at hv
  obtain⟨u,hu,rfl⟩:=Aq.1 hv
  obtain⟨h1,h2⟩:=AP.1 hu
  have h3:=h.lt a ha u h1
  have:=of_decide_eq_true h2
  omega
 cov v hv:=by
  obtain⟨a,ha,hva⟩:=h.cov (v+p.length) (by omega)
  refine⟨_,Aq.2 ⟨a,ha,rfl⟩,?_⟩
  show v∈(rstF p a.1 0 a.2).1
  rw[zG6]
  exact Aq.2 ⟨v+p.length,AP.2 ⟨hva,decide_eq_true (by omega)⟩,by omega⟩
 srt b hb:=by
  obtain⟨a,ha,rfl⟩:=Aq.1 hb
  exact zV2 _
 len b hb r hr:=by
  obtain⟨a,ha,rfl⟩:=Aq.1 hb
  obtain⟨s,hs,rfl⟩:=Aq.1 (zHf.1 hr)
  show(zP s (rstF p a.1 0 a.2).2.1).length=(rstF p a.1 0 a.2).1.length
  unfold zP
  rw[Al,zN1]
 few b hb:=by
  obtain⟨a,ha,rfl⟩:=Aq.1 hb
  have h1:=zN5 ((rstF p a.1 0 a.2).2.2.map λr=>zP r (rstF p a.1 0 a.2).2.1)
  rw[Al]at h1
  have h2:=(zN0 p a.1 0 a.2).length_le
  have h3:=h.few a ha
  show(relR _).length<=10
  omega
 val b hb r hr v hv:=by
  obtain⟨a,ha,rfl⟩:=Aq.1 hb
  obtain⟨s,hs,rfl⟩:=Aq.1 (zHf.1 hr)
  have hs2:=zK7 p _ _ _ _ hs
  obtain⟨c,hc,rfl⟩:=Aq.1 hv
  have h1:=(zKd p a.1 0 a.2 c hc).2
  have h2:=h.len a ha s hs2
  refine h.val a ha s hs2 _ ?_
  rw[Am,Aw (by omega)]
  exact Bg _
structure AtW(A:List (List Nat×List Rw)):Prop where
 l:A.length<=5
 asc:∀a∈A,a.1.Pairwise (· <·)
 lt:∀a∈A,∀v∈a.1,v<8
 srt:∀a∈A,Rsc a.2
 len:∀a∈A,∀r∈a.2,r.length=a.1.length
 few:∀a∈A,a.2.length<=10
 val:∀a∈A,∀r∈a.2,∀v∈r,vok v=Ab/\Vs v
theorem AtOk.w{n:Nat}{A:List (List Nat×List Rw)}(h:AtOk n A):AtW A:=⟨h.l,h.asc,λa ha v hv=>by have:=h.lt a ha v hv;have:=h.n8;omega,h.srt,h.len,h.few,h.val⟩
theorem AtW.sub{A B:List (List Nat×List Rw)}(h:AtW A)(hl:B.length<=5)(hs:∀b∈B,b∈A):AtW B:=⟨hl,λa ha=>h.asc a (hs a ha),λa ha=>h.lt a (hs a ha),λa ha=>h.srt a (hs a ha),λa ha=>h.len a (hs a ha),λa ha=>h.few a (hs a ha),λa ha=>h.val a (hs a ha)⟩
def zCi(A:List (List Nat×List Rw)):List Int:=setG icmp (A.flatMap λa=>intL a.1)
def zGn(A:List (List Nat×List Rw))(v:Nat):Nat:=(zCi A).idxOf (v:Int)
section
variable {A : List (List Nat × List Rw)}
theorem zEr{z:Int}:z∈zCi A↔∃a∈A,∃v∈a.1,z=((v:Nat):Int):=by
 unfold zCi;rw[zNw zTe,Bu];constructor
 ·rintro⟨a,ha,hz⟩;obtain⟨v,hv,rfl⟩:=Aq.1 hz;exact⟨a,ha,v,hv,rfl⟩
 rintro⟨a,ha,v,hv,rfl⟩;exact⟨a,ha,Aq.2 ⟨v,hv,rfl⟩⟩
theorem used_asc:(zCi A).Pairwise (· <·):=by
 have:=zNx zTe (A.flatMap λa=>intL a.1)
 refine this.imp λ{x y} h=>?_;unfold icmp at h;split at h
 ·assumption
 split at h<;>omega
theorem zP4:∀(l:List Int)(b:Nat),l.Pairwise (· <·)->(∀x∈l,(b:Int)<=x/\x<8)->l.length<=8-b
 |[],b,_,_=>BC _
 | x::l,b,h,k=>by
  rw[Bh]at h;have hx:=k x (AZ ..);have ih:=zP4 l (x.toNat+1) h.2 λy hy=>by
   have h1:=h.1 y hy;have h2:=k y (Bm _ hy);omega
  rw[AT];omega
theorem dense_get{i:Nat}(hi:i<(zCi A).length):(zCi A).idxOf (zCi A)[i]=i:=by
 have hn:(zCi A).Nodup:=used_asc.imp λh e=>by omega
 exact hn.idxOf_getElem i hi
variable (h : AtW A)
include h
theorem zVo:(zCi A).length<=8:=zP4 (zCi A) 0 used_asc λx hx=>by
 obtain⟨a,ha,v,hv,rfl⟩:=zEr.1 hx
 have:=h.lt a ha v hv
 omega
theorem dense_ok:AtOk (zCi A).length (A.map (renA (zGn A))) where
 n8:=zVo h
 l:=by rw[Al];exact h.l
 asc b hb:=by
  obtain⟨a,ha,rfl⟩:=Aq.1 hb
  show(a.1.map (zGn A)).Pairwise (· <·)
  rw[BV]
  refine(h.asc a ha).imp_of_mem λ{u v} hu hv huv=>?_
  have h1:=BP.2 (zEr.2 ⟨a,ha,u,hu,rfl⟩)
  have h2:=BP.2 (zEr.2 ⟨a,ha,v,hv,rfl⟩)
  have g1:=B6 h1
  have g2:=B6 h2
  show(zCi A).idxOf ((u:Nat):Int)<(zCi A).idxOf ((v:Nat):Int)
  apply BM
  intro hn
  rcases An ((zCi A).idxOf ((v:Nat):Int)) ((zCi A).idxOf ((u:Nat):Int))with hlt|hge
  ·have:=CG.1 (used_asc (A:=A)) _ _ h2 h1 hlt
   rw[g1,g2]at this
   omega
  have e:(zCi A).idxOf ((v:Nat):Int)=(zCi A).idxOf ((u:Nat):Int):=by omega
  simp only[e]at g2
  rw[g1]at g2
  omega
 lt b hb v hv:=by
  obtain⟨a,ha,rfl⟩:=Aq.1 hb
  obtain⟨u,hu,rfl⟩:=Aq.1 (show v∈a.1.map (zGn A)from hv)
  exact BP.2 (zEr.2 ⟨a,ha,u,hu,rfl⟩)
 cov i hi:=by
  obtain⟨a,ha,v,hv,e⟩:=zEr.1 (Bg hi)
  refine⟨_,Aq.2 ⟨a,ha,rfl⟩,?_⟩
  show i∈a.1.map (zGn A)
  refine Aq.2 ⟨v,hv,?_⟩
  show(zCi A).idxOf ((v:Nat):Int)=i
  rw[<-e];exact dense_get hi
 srt b hb:=by
  obtain⟨a,ha,rfl⟩:=Aq.1 hb
  exact h.srt a ha
 len b hb r hr:=by
  obtain⟨a,ha,rfl⟩:=Aq.1 hb
  show r.length=(a.1.map (zGn A)).length
  rw[Al];exact h.len a ha r hr
 few b hb:=by
  obtain⟨a,ha,rfl⟩:=Aq.1 hb
  exact h.few a ha
 val b hb:=by
  obtain⟨a,ha,rfl⟩:=Aq.1 hb
  exact h.val a ha
omit h in
theorem dense_sat:(∃τ,SatA (A.map (renA (zGn A))) τ)↔∃τ,SatA A τ:=sat_ren (g:=λi=>((zCi A).getD i 0).toNat) λa ha v hv=>by
 have h1:=BP.2 (zEr.2 ⟨a,ha,v,hv,rfl⟩);have g1:=B6 h1;show((zCi A).getD ((zCi A).idxOf ((v:Nat):Int)) 0).toNat=v;rw[Am,Aw h1,B2,g1,AA]
end
end
section
open Go.RowKit
attribute [local irreducible] seqW awp zW zY zR Weak updS zZ retL Pure Acts rP setP setQ cP nP fr
set_option maxRecDepth 4096
theorem zAk(a:List Nat×List Rw):(atN a).length=3:=rfl
abbrev atK(l:List D):Bk:=⟨l,45,3,Ab,Ac, .plain⟩
abbrev at1(V x:D)(ar:Int):Bk:=⟨[V,iD ar,x],45,0,Ac,Ac, .plain⟩
abbrev iaK(l:List D):Bk:=⟨l,3,1,Ab,Ac, .plain⟩
theorem selC_bad{col:Nat}{v:Va}{R:List Rw}{ar:Nat}(hc:col<ar)(hl:∀r∈R,r.length=ar/\r.all vok=Ab)(hv:vok v=Ac):selC col v R=[]:=by
 unfold selC;rw[List.filter_eq_nil_iff];intro r hr h;obtain⟨h1,h2⟩:=hl r hr;have h3:=of_decide_eq_true h;have h4:vok (r.getD col Af)=true:=by
  rw[Am,Aw (by omega)];exact Bb.1 h2 _ (Bg _)
 rw[h3,hv]at h4;cases h4
def rstV(p:Rw)(V:List Nat):List Nat:=(V.filter λv=>decide (p.length<=v)).map λv=>v-p.length
def rstC(p:Rw):List Nat->Nat->List Nat
 |[],_=>[]
 |v::V,i=>if p.length<=v then i::rstC p V (i+1)else rstC p V (i+1)
def rstR(p:Rw):List Nat->Nat->List Rw->List Rw
 |[],_,R=>R
 |v::V,i,R=>if p.length<=v then rstR p V (i+1) R else rstR p V (i+1) (selC i (p.getD v Af) R)
theorem zK8(p:Rw):∀(V:List Nat)(i:Nat)(R:List Rw),rstF p V i R=(rstV p V,rstC p V i,rstR p V i R)
 |[],_,_=>rfl
 |v::V,i,R=>by
  unfold rstF rstV rstC rstR;by_cases h:p.length<=v
  ·rw[if_pos h,if_pos h,if_pos h,zK8 p V,Bl,if_pos (decide_eq_true h)];rfl
  rw[if_neg h,if_neg h,if_neg h,zK8 p V,Bl,if_neg (by simpa using h)];rfl
theorem zZ4(p:Rw)(V:List Nat)(v:Nat):rstV p (V++[v])=if p.length<=v then rstV p V++[v-p.length]else rstV p V:=by
 unfold rstV;rw[Br];by_cases h:p.length<=v
 ·rw[if_pos h,Bl,if_pos (decide_eq_true h),Bd];rfl
 rw[if_neg h,Bl,if_neg (by simpa using h)];simp
theorem zQv(p:Rw)(v:Nat):∀(V:List Nat)(i:Nat),rstC p (V++[v]) i=if p.length<=v then rstC p V i++[i+V.length]else rstC p V i
 |[],i=>by
  show(if p.length<=v then i::rstC p [] (i+1)else rstC p [] (i+1))=if p.length<=v then[]++[i+0]else[]
  rfl
 |w::V,i=>by
  have ih:=zQv p v V (i+1);rw[AO];unfold rstC;rw[ih,AT,show i+1+V.length=i+(V.length+1) by omega];by_cases h1:p.length<=w<;>by_cases h2:p.length<=v<;>simp[h1,h2]
theorem zK9(p:Rw)(v:Nat):∀(V:List Nat)(i:Nat)(R:List Rw),rstR p (V++[v]) i R=if p.length<=v then rstR p V i R else selC (i+V.length) (p.getD v Af) (rstR p V i R)
 |[],i,R=>rfl
 |w::V,i,R=>by
  rw[AO];unfold rstR;rw[zK9 p v V (i+1),zK9 p v V (i+1),AT,show i+1+V.length=i+(V.length+1) by omega];by_cases h1:p.length<=w
  ·rw[if_pos h1,if_pos h1]
  rw[if_neg h1,if_neg h1]
theorem rstR_sub(p:Rw)(V:List Nat)(i:Nat)(R:List Rw):∀r∈rstR p V i R,r∈R:=λr hr=>by
 have h:=zK7 p V i R r;rw[zK8]at h;exact h hr
theorem rstR_len(p:Rw)(V:List Nat)(i:Nat)(R:List Rw):(rstR p V i R).length<=R.length:=by
 have h:=(zN0 p V i R).length_le;rw[zK8]at h;exact h
theorem rstV_len(p:Rw)(V:List Nat):(rstV p V).length<=V.length:=by
 unfold rstV;rw[Al];exact Bq _ _
theorem rstC_len(p:Rw):∀(V:List Nat)(i:Nat),(rstC p V i).length=(rstV p V).length:=λV i=>by
 have h:=zN1 p V i [];rw[zK8]at h;exact h
structure AtR(A:List (List Nat×List Rw)):Prop where
 l:A.length<=1000
 v:∀a∈A,a.1.length<=32
 w:∀a∈A,∀v∈a.1,v<=1000
 r:∀a∈A,a.2.length<=65536
 k:∀a∈A,∀r∈a.2,r.length=a.1.length/\r.all vok=Ab
theorem restA_eq(p:Rw)(a:List Nat×List Rw):zBe p a=(rstV p a.1,relR ((rstR p a.1 0 a.2).map λr=>zP r (rstC p a.1 0))):=by
 unfold zBe;rw[zK8]
abbrev zAt:List D:=[.val (.slice AX 0 0),iD 0, .val (.slice AX 0 0)]
def filK(L:List (List Nat×List Rw))(n:Nat):List D:=L.flatMap atN++repL (n-L.length) zAt
theorem zEb(n:Nat)(z:List D):repL (n+1) z=z++repL n z:=by
 simp only[repL,CA,List.flatten_cons]
theorem filK_set(L:List (List Nat×List Rw))(n:Nat)(a:List Nat×List Rw)(h:L.length<n):setAt (filK L n) (L.length*3) (atN a)=filK (L++[a]) n:=by
 obtain⟨m,hm⟩:∃m,n-L.length=m+1:=⟨n-L.length-1,by omega⟩;have e:(L.flatMap atN).length=L.length*3:=zEl zAk L;have e2:n-(L++[a]).length=m:=by rw[AL,BW];omega
 unfold filK;rw[hm,zEb,e2,BE,B7];have h5:=zF5 (atN a) zAt (L.flatMap atN) (repL m zAt) (by rw[zAk];rfl);rw[e]at h5;rw[<-B8,h5]
theorem filK_0(n:Nat):repL n zAt=filK [] n:=by simp[filK]
theorem filK_all(L:List (List Nat×List Rw)):filK L L.length=L.flatMap atN:=by simp[filK,repL]
theorem filK_len{L:List (List Nat×List Rw)}{n:Nat}(h:L.length<=n):(filK L n).length=n*3:=by
 have e:(L.flatMap atN).length=L.length*3:=zEl zAk L;have e2:∀k,(repL k zAt).length=k*3:=λk=>by
  induction k with
  |zero=>rfl
  |succ k ih=>rw[zEb,AL,ih];show 3+k*3=_;omega
 unfold filK;rw[AL,e,e2];omega
theorem arity_c(ar:Int)(L:List Rw):Pure Ao 62 [relD ar L] [] (iD ar):=by
 refine zH zAf mixed Tryz.func62 rfl<|zB<|zA rfl<|v0s<|veT<|zB<|zA rfl<|ve (True/\0<2)<|zJ<|vret (True)<|.inr rfl
set_option maxHeartbeats 8000000 in
theorem zEa(A:List (List Nat×List Rw))(h:AtR A)(p:Rw)(hp:p.length<=1000):Pure Ao 36 [.row (A.flatMap atN) A.length,rowV p] [] (.row ((A.map (zBe p)).flatMap atN) A.length):=by
 have hAl:=h.l;have r0:=filK_0 A.length;refine zH zAf mixed Tryz.func36 rfl<|zB<|zA rfl<|v0s<|veT<|zB<|zA rfl<|ve ((0:Int)<=(Aa A:Int)/\(Aa A:Int)<=(Aa A:Int)/\(↑(56:Nat):Int)*(Aa A:Int)<=(281474976710656:Int)/\(Aa A:Int)<=(281474976710656:Int)/\0<3/\3=3)<|zB<|zB<|zA rfl<|veT<|zF<|zQ (λ(i:Nat)=>fr 86 [(1,rowV p),(4,nl),(5,Aj 0 0 (Aa A) (Aa A*3) Ab),(18,Ae (Ah atN A)<|Aa A),(19,iD (Aa A:Int)),(20,iD (i:Int))]) (λ(i:Nat)=>[atK<|filK ((A.take i).map<|zBe p) A.length]) (λi=>A.length-i) (λ(i:Nat)=>i<=A.length) 0 ?_ ?_ ?_
 ·omega
 ·refine vk 1
 rintro i h1;rcases An i A.length with h2|h2
 ·have hm:=zAc A Af i h2;have hg:=zFi zAk A i h2;have hle:=zDd zAk A i h2;have hne:=zDc zAk (by decide) A;have htk:=zAr A i h2;have hv:=h.v _ hm;have hw:=h.w _ hm;have hr:=h.r _ hm;have hk:=h.k _ hm;have hlt:((A.take i).map (zBe p)).length=i:=by rw[Al,AU];omega
  have hset:=filK_set ((A.take i).map (zBe p)) A.length (zBe p (A.getD i Af)) (by omega);have hfl:=filK_len (L:=(A.take i).map (zBe p)) (n:=A.length) (by omega);have hmp:(A.take (i+1)).map (zBe p)=(A.take i).map (zBe p)++[zBe p (A.getD i Af)]:=by rw[htk,Bd];rfl
  rw[hlt,<-hmp]at hset;generalize A.getD i Af=a at*;obtain⟨V,R⟩:=a;rw[restA_eq]at hset;simp only at hv hw hr hk hset;generalize (A.take i).map (zBe p)=L at*;refine zB<|zA rfl<|v0s<|veT<|zB<|vT ((i:Int)<(Aa A:Int))<|zL<|zC<|zD<|zB<|zF<|zB<|zA rfl<|vr 2 (ix (i:Int) (Aa A:Int) (Ah atN A≠[]))<|vs 23 (AB<|Ag (Ak (i:Int)*3)<|Ah atN A) (AB (Ae (Ad (λ(v:Nat)=>iD (v:Int)) V) (Aa V)::iD (Aa V:Int)::Ae (Ad rowV R) (Aa R)::Ah atN (Ag (i+1) A))) (hd:=by simp(disch:=omega) only[AA,AO,AS,hg])<|ve (3<=Aa (Ae (Ad (λ(v:Nat)=>iD (v:Int)) V) (Aa V)::iD (Aa V:Int)::Ae (Ad rowV R) (Aa R)::Ah atN (Ag (i+1) A))/\Ac=Ac/\Ab=Ab/\3=3/\3<=3)<|zB<|zA rfl<|ve (True/\2<=2/\Ac=Ac/\Ab=Ab/\2=2/\2<=2)<|zB<|zA rfl<|ve ((True/\0<1/\1=1/\0<=16777216/\0<=9223372036854775807)/\True/\0<1/\1=1/\0<=16777216/\0<=9223372036854775807)<|zB<|zB<|zA rfl<|ve (True/\0<3)<|zF<|zQ (λ(j:Nat)=>fr 86 [(1,rowV p),(4,nl),(5,Aj 0 0 (Aa A) (Aa A*3) Ab),(6,iD (i:Int)),(8,AH 2 0),(9,Aj 3 0 (Aa<|rstV p<|Ai j V) (Aa<|rstV p<|Ai j V) Ab),(10,Aj 4 0 (Aa<|rstC p (Ai j V) 0) (Aa<|rstC p (Ai j V) 0) Ab),(18,Ae (Ah atN A)<|Aa A),(19,iD (Aa A:Int)),(20,iD (i:Int)),(30,Ae (Ad (λ(v:Nat)=>iD (v:Int)) V)<|Aa V),(31,iD (Aa V:Int)),(32,iD (j:Int))]) (λ(j:Nat)=>[atK<|filK L A.length,at1 (.row (nsD V) V.length) (.row (R.map rowV) R.length) (V.length:Nat),relK (V.length:Nat)<|.row ((rstR p (V.take j) 0 R).map rowV) (rstR p (V.take j) 0 R).length,iaK<|nsD<|rstV p<|V.take j,iaK<|nsD<|rstC p (V.take j) 0]) (λj=>V.length-j) (λ(j:Nat)=>j<=V.length) 0 ?_ ?_ ?_
  ·omega
  ·refine vk 5
  rintro j j1;have c1:=rstV_len p (V.take j);have c2:=rstC_len p (V.take j) 0;have c3:=rstR_len p (V.take j) 0 R;have c4:=rstR_sub p (V.take j) 0 R;have c5:(V.take j).length=j:=by rw[AU];omega
  have c6:(nsD (rstV p (V.take j))).length=(rstV p (V.take j)).length:=Al ..
  have c7:(nsD (rstC p (V.take j) 0)).length=(rstC p (V.take j) 0).length:=Al ..
  rcases An j V.length with j2|j2
  ·have hx:=zAp V j j2;have hn1:nsD V≠[]:=zAb;have hvm:=zAc V 0 j j2;have hw2:=hw _ hvm;have htv:V.take (j+1)=V.take j++[V.getD j 0]:=by
    rw[Bp j2,Am,Aw j2];rfl
   have s1:=zZ4 p (V.take j) (V.getD j 0);have s2:=zQv p (V.getD j 0) (V.take j) 0;have s3:=zK9 p (V.getD j 0) (V.take j) 0 R;rw[<-htv]at s1 s2 s3;rw[c5,B9]at s2 s3;generalize V.getD j 0=v at*;by_cases hpv:p.length<=v
   ·rw[if_pos hpv]at s1 s2 s3;have hcs:(v:Int)-(p.length:Nat)=((v-p.length:Nat):Int):=by omega
    refine zB<|zA rfl<|v0s<|veT<|zB<|vT ((j:Int)<(Aa V:Int))<|zL<|zC<|zD<|zB<|zF<|zB<|zA rfl<|vr 2 (ix (j:Int) (Aa V:Int) (Ad (λ(v:Nat)=>iD (v:Int)) V≠[]))<|vp 35 (j) (Ad (λ(v:Nat)=>iD (v:Int)) V)<|vr 1 (0<Aa (Ag j<|Ad (λ(v:Nat)=>iD (v:Int)) V))<|vsh 36 hx<|veT<|zB<|zB<|zA rfl<|veT<|vT ((v:Int)>=(Aa p:Int))<|zB<|zA rfl<|vr 5 (i6 ((v:Int)-(Aa p:Int)))<|vs 45 (iD ((v:Int)-(Aa p:Int))) (iD (↑(v-Aa p):Int)) (hd:=by simp(disch:=omega) only[hcs])<|vr 3 (((1=1/\1<=1/\True)/\0<1/\1=1/\1<=16777216/\1<=9223372036854775807)/\A_ (iaK<|nsD<|rstV p<|Ai j V)=Ab/\Aa (AD<|iaK<|nsD<|rstV p<|Ai j V)=Aa (rstV p<|Ai j V)*1/\Aa (rstV p<|Ai j V)=Aa (rstV p<|Ai j V)*1/\A6 (iaK<|nsD<|rstV p<|Ai j V)=3/\A7 (iaK<|nsD<|rstV p<|Ai j V)=1/\1=1/\0<1/\0<8/\3=3/\(Aa (rstV p<|Ai j V)+1)*8<=140737488355328/\1=1/\A0 (AF<|iaK<|nsD<|rstV p<|Ai j V)=Ac/\(Ac=Ac\/A1 (AF<|iaK<|nsD<|rstV p<|Ai j V)=Ab))<|vs 9 (Aj 3 0 (Aa (rstV p<|Ai j V)+1) ((Aa (rstV p<|Ai j V)+1)*1) Ab) (Aj 3 0 (Aa (rstV p<|Ai j V)+1) (Aa (rstV p<|Ai j V)+1) Ab) (hd:=by simp(disch:=omega) only[A8])<|veT<|zB<|zA rfl<|vr 5 (((1=1/\1<=1/\True)/\0<1/\1=1/\1<=16777216/\1<=9223372036854775807)/\A_ (Az (nsD<|rstC p (Ai j V) 0) 3 1 Ab Ac AC)=Ab/\Aa (nsD<|rstC p (Ai j V) 0)=Aa (rstC p (Ai j V) 0)*1/\Aa (rstC p (Ai j V) 0)=Aa (rstC p (Ai j V) 0)*1/\A6 (Az (nsD<|rstC p (Ai j V) 0) 3 1 Ab Ac AC)=3/\A7 (Az (nsD<|rstC p (Ai j V) 0) 3 1 Ab Ac AC)=1/\1=1/\0<1/\0<8/\3=3/\(Aa (rstC p (Ai j V) 0)+1)*8<=140737488355328/\1=1/\A0 (AF<|Az (nsD<|rstC p (Ai j V) 0) 3 1 Ab Ac AC)=Ac/\(Ac=Ac\/A1 (AF<|Az (nsD<|rstC p (Ai j V) 0) 3 1 Ab Ac AC)=Ab))<|vs 10 (Aj 4 0 (Aa (rstC p (Ai j V) 0)+1) ((Aa (rstC p (Ai j V) 0)+1)*1) Ab) (Aj 4 0 (Aa (rstC p (Ai j V) 0)+1) (Aa (rstC p (Ai j V) 0)+1) Ab) (hd:=by simp(disch:=omega) only[A8])<|veT<|zV<|zM<|zS rfl<|zC<|zD<|zA rfl<|vr 2 (i6 ((j:Int)+(1:Int)))<|vnil<|zC<|⟨j+1,by omega,by omega,?_⟩;have t1:nsD (rstV p (V.take (j+1)))=nsD (rstV p (V.take j))++[iD (v-p.length:Nat)]:=by rw[s1,nsD,Bd];rfl
    have t2:nsD (rstC p (V.take (j+1)) 0)=nsD (rstC p (V.take j) 0)++[iD (j:Nat)]:=by rw[s2,nsD,Bd];rfl
    have t3:(rstV p (V.take (j+1))).length=(rstV p (V.take j)).length+1:=by rw[s1,AL];rfl
    have t4:(rstC p (V.take (j+1)) 0).length=(rstC p (V.take j) 0).length+1:=by rw[s2,AL];rfl
    rw[t1,t2,t3,t4,s3];refine vk 5
   rw[if_neg hpv]at s1 s2 s3;have hpx:=zHv p v (by omega);have hpn:=zB8 p (by omega);have hpl:=zAj p;have hse:=select_c V.length (rstR p (V.take j) 0 R) j (p.getD v Af) (by omega) j2 λr hr=>hk r (c4 r hr);have hbad:=selC_bad (col:=j) (v:=p.getD v Af) (R:=rstR p (V.take j) 0 R) j2 λr hr=>hk r (c4 r hr);have hnw:=new_c (V.length:Nat) (by omega) (by omega);have har:=arity_c (V.length:Nat) (rstR p (V.take j) 0 R);generalize p.getD v Af=x at*;obtain⟨xk,xi,xs⟩:=x;cases hvx:vok ⟨xk,xi,xs⟩
   ·rw[hvx,if_neg (λh=>by cases h)]at hse;refine zB<|zA rfl<|v0s<|veT<|zB<|vT ((j:Int)<(Aa V:Int))<|zL<|zC<|zD<|zB<|zF<|zB<|zA rfl<|vr 2 (ix (j:Int) (Aa V:Int) (Ad (λ(v:Nat)=>iD (v:Int)) V≠[]))<|vp 35 (j) (Ad (λ(v:Nat)=>iD (v:Int)) V)<|vr 1 (0<Aa (Ag j<|Ad (λ(v:Nat)=>iD (v:Int)) V))<|vsh 36 hx<|veT<|zB<|zB<|zA rfl<|veT<|vF ((v:Int)>=(Aa p:Int))<|zL<|zC<|zD<|zB<|vd [1,2,3,4,0,5,6,7,8,9,10,11,12]<|vr 4 (ix (v:Int) (Aa p:Int) (zK p≠[]))<|vs 57 (AB<|Ag (Ak (v:Int)*3)<|zK p) (AB (iD xk::iD xi::strD xs::zK (Ag (v+1) p))) (hd:=by simp(disch:=omega) only[AA,AO,AS,hpx])<|vr 2 (2<=2/\3<=Aa (iD xk::iD xi::strD xs::zK (Ag (v+1) p)))<|vc (hse)<|ve (0<2/\1<2/\Ac=Ac/\Ab=Ab/\2=2/\2<=2)<|zB<|zB<|zA rfl<|veT<|vt<|zA rfl<|vr 1 (2<=2)<|vc (har)<|vc (hnw)<|ve (0<2/\1<2/\Ac=Ac/\Ab=Ab/\2=2/\2<=2)<|zA rfl<|vr 2 (2<=2/\Bw (relK (Aa V:Int)<|Ae (Ad rowV<|rstR p (Ai j V) 0 R)<|Aa<|rstR p (Ai j V) 0 R)=Ac/\Ab=Ab/\2=2/\2<=2)<|vnil<|zE<|zC<|zD<|zA rfl<|vr 2 (i6 ((j:Int)+(1:Int)))<|vnil<|zC<|⟨j+1,by omega,by omega,?_⟩;rw[s1,s2,s3,hbad hvx];refine vk 5
   rw[hvx,if_pos rfl]at hse;refine zB<|zA rfl<|v0s<|veT<|zB<|vT ((j:Int)<(Aa V:Int))<|zL<|zC<|zD<|zB<|zF<|zB<|zA rfl<|vr 2 (ix (j:Int) (Aa V:Int) (Ad (λ(v:Nat)=>iD (v:Int)) V≠[]))<|vp 35 (j) (Ad (λ(v:Nat)=>iD (v:Int)) V)<|vr 1 (0<Aa (Ag j<|Ad (λ(v:Nat)=>iD (v:Int)) V))<|vsh 36 hx<|veT<|zB<|zB<|zA rfl<|veT<|vF ((v:Int)>=(Aa p:Int))<|zL<|zC<|zD<|zB<|vd [1,2,3,4,0,5,6,7,8,9,10,11,12]<|vr 4 (ix (v:Int) (Aa p:Int) (zK p≠[]))<|vs 57 (AB<|Ag (Ak (v:Int)*3)<|zK p) (AB (iD xk::iD xi::strD xs::zK (Ag (v+1) p))) (hd:=by simp(disch:=omega) only[AA,AO,AS,hpx])<|vr 2 (2<=2/\3<=Aa (iD xk::iD xi::strD xs::zK (Ag (v+1) p)))<|vc (hse)<|ve (0<2/\1<2/\Ac=Ac/\Ab=Ab/\2=2/\2<=2)<|zB<|zB<|zA rfl<|veT<|vf<|zL<|zC<|zD<|zA rfl<|vr 2 (2<=2/\Bw (relK (Aa V:Int)<|Ae (Ad rowV<|rstR p (Ai j V) 0 R)<|Aa<|rstR p (Ai j V) 0 R)=Ac/\Ab=Ab/\2=2/\2<=2)<|vnil<|zE<|zC<|zD<|zA rfl<|vr 2 (i6 ((j:Int)+(1:Int)))<|vnil<|zC<|⟨j+1,by omega,by omega,?_⟩;rw[s1,s2,s3];refine vk 5
  obtain rfl:j=V.length:=by omega
  rw[A5]at c1 c2 c3 c4 c6 c7⊢;have d1:=zHe (rstV p V) _ rfl;have d2:=zHe (rstC p V 0) _ rfl;have hpj:=relProj_c V.length (rstR p V 0 R) (rstC p V 0) (by omega) (by omega) (λr hr=>(hk r (c4 r hr)).1) (by omega) (λc hc=>by
   have:=zKd p V 0 R c (by rw[zK8];exact hc)
   omega)
  have hpj:Pure Ao 63 [relD (V.length:Nat) (rstR p V 0 R), .row (nsD (rstC p V 0)) (rstC p V 0).length] [] (.tup [relD ((rstV p V).length:Nat) (relR ((rstR p V 0 R).map λr=>zP r (rstC p V 0))),iD 0]):=by
   rw[<-c2];exact hpj
  refine zB<|zA rfl<|v0s<|veT<|zB<|vF ((Aa V:Int)<(Aa V:Int))<|zV<|zM<|zM<|zS rfl<|zC<|zD<|zB<|zA rfl<|vr 2 (2<=2)<|vcl [Ar [iD (Aa V:Int),Ae (Ad rowV<|rstR p V 0 R)<|Aa<|rstR p V 0 R],Ae (Ai (Aa<|rstC p V 0)<|Ag 0<|AD<|iaK<|nsD<|rstC p V 0)<|Aa<|rstC p V 0] [Ar [iD (Aa V:Int),Ae (Ad rowV<|rstR p V 0 R)<|Aa<|rstR p V 0 R],Ae (nsD<|rstC p V 0)<|Aa<|rstC p V 0] (BQ (by simp(disch:=omega) only[AJ,d2])) (by exact hpj)<|ve (0<2/\1<2/\Bw (relK (Aa V:Int)<|Ae (Ad rowV<|rstR p V 0 R)<|Aa<|rstR p V 0 R)=Ac/\Ab=Ab/\2=2/\2<=2)<|zA rfl<|vr 6 (2<=2/\((1=1/\1<=3/\2=2/\3<=3/\True)/\Ab=Ab)/\(0:Int)<=(i:Int)/\(i:Int)<(Aa A:Int))<|vo0 83 0 (i*3)<|vr 1 (Bw (atK<|filK L<|Aa A)=Ac/\Ab=Ab/\3=3/\i*3+3<=Aa (AD<|atK<|filK L<|Aa A)/\¬0∈[3])<|vb 0 (Az (setAt (AD<|atK<|filK L<|Aa A) (i*3) [Ae (Ai (Aa<|rstV p V)<|Ag 0<|AD<|iaK<|nsD<|rstV p V)<|Aa<|rstV p V,iD (Aa (rstV p V):Int),Ae (Ad rowV<|relR<|Ad (λ(r:List Va)=>zP r (rstC p V 0))<|rstR p V 0 R)<|Aa<|relR<|Ad (λ(r:List Va)=>zP r (rstC p V 0))<|rstR p V 0 R]) (A6<|atK<|filK L<|Aa A) (A7<|atK<|filK L<|Aa A) Ab Ac<|AF<|atK<|filK L<|Aa A) (Az (Bc (Bc (Bc (filK L<|Aa A) (i*3)<|Ae (nsD<|rstV p V)<|Aa<|rstV p V) (i*3+1)<|iD (Aa (rstV p V):Int)) (i*3+1+1)<|Ae (Ad rowV<|relR<|Ad (λ(r:List Va)=>zP r (rstC p V 0))<|rstR p V 0 R)<|Aa<|relR<|Ad (λ(r:List Va)=>zP r (rstC p V 0))<|rstR p V 0 R) (45:TypeId) 3 Ab Ac AC) (hd:=by simp(disch:=omega) only[setAt,AJ,d1])<|vnil<|zE<|zC<|zD<|zA rfl<|vr 2 (i6 ((i:Int)+(1:Int)))<|vnil<|zC<|⟨i+1,by omega,by omega,?_⟩;refine wkn (fr 86 [(1,rowV p),(4,nl),(5,Aj 0 0 (Aa A) (Aa A*3) Ab),(6,iD (i:Int)),(8,AH 2 0),(9,Aj 3 0 (Aa (rstV p V)) (Aa (rstV p V)) Ab),(18,Ae (Ah atN A) (Aa A)),(19,iD (Aa A:Int)),(20,iD (↑(i+1):Int)),(78,Aj 0 0 (Aa A) (Aa A*3) Ab),(79,iD (i:Int)),(80,Aj 3 0 (Aa (rstV p V)) (Aa (rstV p V)) Ab),(81,Ar [iD (Aa (rstV p V):Int),Ae (Ad rowV (relR (Ad (λ(r:List Va)=>zP r (rstC p V 0)) (rstR p V 0 R)))) (Aa (relR (Ad (λ(r:List Va)=>zP r (rstC p V 0)) (rstR p V 0 R))))]),(82,Ar [Aj 3 0 (Aa (rstV p V)) (Aa (rstV p V)) Ab,iD (Aa (rstV p V):Int),Ae (Ad rowV (relR (Ad (λ(r:List Va)=>zP r (rstC p V 0)) (rstR p V 0 R)))) (Aa (relR (Ad (λ(r:List Va)=>zP r (rstC p V 0)) (rstR p V 0 R))))]),(83,AH 0 (i*3)),(84,iD (↑(i+1):Int))]) [Az (Bc (Bc (Bc (filK L (Aa A)) (i*3) (Ae (nsD (rstV p V)) (Aa (rstV p V)))) (i*3+1) (iD (Aa (rstV p V):Int))) (i*3+1+1) (Ae (Ad rowV (relR (Ad (λ(r:List Va)=>zP r (rstC p V 0)) (rstR p V 0 R)))) (Aa (relR (Ad (λ(r:List Va)=>zP r (rstC p V 0)) (rstR p V 0 R)))))) (45:TypeId) 3 Ab Ac AC,at1 (Ae (nsD V) (Aa V)) (Ae (Ad rowV R) (Aa R)) (Aa V:Int),Az [iD (Aa (rstV p V):Int),Ae (Ad rowV (relR (Ad (λ(r:List Va)=>zP r (rstC p V 0)) (rstR p V 0 R)))) (Aa (relR (Ad (λ(r:List Va)=>zP r (rstC p V 0)) (rstR p V 0 R))))] (43:TypeId) 0 Ac Ac AC,Az (nsD (rstV p V)) (3:TypeId) 1 Ab Ab AC,Az (nsD (rstC p V 0)) (3:TypeId) 1 Ab Ab AC] ?_;rw[show(((filK L A.length).set (i*3) (Ae (nsD (rstV p V)) (rstV p V).length)).set (i*3+1) (iD ((rstV p V).length:Nat))).set (i*3+1+1) (Ae ((relR ((rstR p V 0 R).map λr=>zP r (rstC p V 0))).map rowV) (relR ((rstR p V 0 R).map λr=>zP r (rstC p V 0))).length)=filK ((A.take (i+1)).map (zBe p)) A.length from hset];refine vk 1
 obtain rfl:i=A.length:=by omega
 rw[A5];have ha:=filK_all (A.map (zBe p));rw[Al]at ha;have hl3:((A.map (zBe p)).flatMap atN).length=A.length*3:=by rw[zEl zAk,Al]
 have ht:=zFg zAk (A.map (zBe p)) A.length (by rw[Al]);rw[ha];refine zB<|zA rfl<|v0s<|veT<|zB<|vF ((Aa A:Int)<(Aa A:Int))<|zV<|zM<|zM<|zS rfl<|zC<|zD<|zB<|zA rfl<|veT<|zJ<|zAs (True) (Ae (Ai (Aa A*3)<|Ag 0<|AD<|atK<|Ah atN<|Ad (zBe p) A)<|Aa A) (Ae (Ah atN<|Ad (zBe p) A)<|Aa A) (.inr rfl) (by simp(disch:=omega) only[AJ,ht]) rfl
end
def dif(a b:Nat):Nat:=a^^^(a&&&b)
theorem zBs(a b i:Nat):(dif a b).testBit i=(a.testBit i&&!b.testBit i):=by
 unfold dif;rw[Nat.testBit_xor,A3];cases a.testBit i<;>cases b.testBit i<;>rfl
def zEk(al:Nat->Bool)(part:Nat):List Nat->Nat->Nat
 |[],w=>w
 |i::l,w=>if dif (part&&&2^i) w≠0/\al (w|||dif (part&&&2^i) w)=Ab then zEk al part l (w|||dif (part&&&2^i) w)else zEk al part l w
def zA6(kept:List Nat)(o s:Nat):List Nat->List Nat
 |[]=>[]
 |i::l=>if s|||(o&&&2^i)=s then zA6 kept o s l else if kept.any (λk=>dif k (s|||(o&&&2^i))==0)then zA6 kept o s l else(s|||(o&&&2^i))::zA6 kept o s l
def zYf(sets:List Nat)(o:Nat):List Nat:=sets.filter λs=>s&&&o !=0
def zDy(sets:List Nat)(o:Nat):List Nat:=zYf sets o++(sets.filter λs=>s&&&o==0).flatMap λs=>zA6 (zYf sets o) o s (Ap 32)
def zJ6(al:Nat->Bool)(part:Nat):Nat->List Nat->Option (List Nat)
 |0,_=>AX
 |k+1,sets=>match sets.find? al with
  |none=>Ax sets
  |some s=>zJ6 al part k (zDy sets (dif part (zEk al part (Ap 32) s)))
theorem zNp{a b:Nat}:a&&&b≠0↔∃i,a.testBit i=Ab/\b.testBit i=true:=by
 constructor
 ·intro h;obtain⟨i,hi⟩:=CH h;rw[A3,Ba]at hi;exact⟨i,hi⟩
 rintro⟨i,h1,h2⟩ h
 have:=congrArg (λn=>n.testBit i) h
 simp[h1,h2]at this
def Sub(a b:Nat):Prop:=∀i,a.testBit i=Ab->b.testBit i=Ab
theorem zVw(a b:Nat):Sub a (a|||b):=λi h=>by rw[A9,h];rfl
theorem zPp{al:Nat->Bool}{part:Nat}:∀(l:List Nat)(w:Nat),Sub w (zEk al part l w)
 |[],w=>λ_ h=>h
 |i::l,w=>by
  unfold zEk;split
  ·exact λj h=>zPp l _ j (zVw w _ j h)
  exact zPp l w
theorem zTh{al:Nat->Bool}{part:Nat}:∀(l:List Nat)(w:Nat),al w=Ab->al (zEk al part l w)=Ab
 |[],w,h=>h
 | i::l,w,h=>by
  unfold zEk;split
  ·rename_i h2;exact zTh l _ h2.2
  exact zTh l w h
theorem zHs{al:Nat->Bool}{part:Nat}:∀(l:List Nat)(w:Nat),Sub w part->Sub (zEk al part l w) part
 |[],w,h=>h
 | i::l,w,h=>by
  unfold zEk;split
  ·refine zHs l _ λj hj=>?_;rw[A9,Bf,zBs,A3]at hj;rcases hj with hj|hj
   ·exact h j hj
   simp only[Ba]at hj;exact hj.1.1
  exact zHs l w h
theorem zCp{kept:List Nat}{o s g:Nat}:∀{l:List Nat},g∈zA6 kept o s l->∃i∈l,g=s|||(o&&&2^i)/\g≠s
 |[],h=>by cases h
 | i ::l,h=>by
  unfold zA6 at h;split at h
  ·obtain⟨j,hj,e⟩:=zCp h;exact⟨j,Bm _ hj,e⟩
  rename_i hne;split at h
  ·obtain⟨j,hj,e⟩:=zCp h;exact⟨j,Bm _ hj,e⟩
  rcases AR.1 h with rfl|h
  ·exact⟨i,AZ ..,rfl,hne⟩
  obtain⟨j,hj,e⟩:=zCp h;exact⟨j,Bm _ hj,e⟩
theorem zRg{sets:List Nat}{o g:Nat}(h:g∈zDy sets o):∃s∈sets,Sub s g/\g&&&o≠0/\∀i,g.testBit i=Ab->s.testBit i=Ab\/o.testBit i=true:=by
 unfold zDy at h;rcases Bs.1 h with h|h
 ·obtain⟨h1,h2⟩:=AP.1 h;exact⟨g,h1,λ_ k=>k,by simpa using h2,λi hi=> .inl hi⟩
 obtain⟨s,hs,hg⟩:=Bu.1 h;obtain⟨i,_,rfl,hne⟩:=zCp hg;refine⟨s,(AP.1 hs).1,zVw s _,?_,λj hj=>?_⟩
 ·have h0:o&&&2^i≠0:=λe=>hne (by rw[e,Nat.or_zero]);obtain⟨j,hj1,hj2⟩:=zNp.1 h0;exact zNp.2 ⟨j,by rw[A9,A3,hj1,hj2];simp,hj1⟩
 rw[A9,A3,Bf,Ba]at hj;exact hj.imp_right λh=>h.1
structure Cnf(al:Nat->Bool)(part:Nat)(Cs sets:List Nat):Prop where
 sub:∀s∈sets,Sub s part
 met:∀s∈sets,∀C∈Cs,s&&&C≠0
 nd:Cs.Nodup
 lt:∀C∈Cs,C<=part
theorem sub_le{a b:Nat}(h:Sub a b):a<=b:=by
 have:a&&&b=a:=BG λi=>by
  rw[A3];cases ha:a.testBit i
  ·rfl
  rw[h i ha];rfl
 rw[<-this];exact Nat.and_le_right
theorem zKn{al:Nat->Bool}{part:Nat}{Cs sets:List Nat}(h:Cnf al part Cs sets){s:Nat}(hs:s∈sets):Cnf al part (dif part (zEk al part (Ap 32) s)::Cs) (zDy sets (dif part (zEk al part (Ap 32) s))) where
 sub g hg i hi:=by
  obtain⟨t,ht,_,_,h3⟩:=zRg hg
  rcases h3 i hi with k|k
  ·exact h.sub t ht i k
  rw[zBs,Ba]at k
  exact k.1
 met g hg C hC:=by
  obtain⟨t,ht,h1,h2,_⟩:=zRg hg
  rcases AR.1 hC with rfl|hC
  ·exact h2
  obtain⟨i,k1,k2⟩:=zNp.1 (h.met t ht C hC)
  exact zNp.2 ⟨i,h1 i k1,k2⟩
 nd:=by
  refine B3.2 ⟨λhm=>?_,h.nd⟩
  obtain⟨i,k1,k2⟩:=zNp.1 (h.met s hs _ hm)
  rw[zBs,Ba]at k2
  have:=zPp (al:=al) (part:=part) (Ap 32) s i k1
  rw[this]at k2
  cases k2.2
 lt C hC:=by
  rcases AR.1 hC with rfl|hC
  ·exact sub_le λi hi=>by rw[zBs,Ba]at hi;exact hi.1
  exact h.lt C hC
theorem zPf:∀(n:Nat)(l:List Nat),l.Nodup->(∀x∈l,x<=n)->l.length<=n+1
 | 0,l,hn,hl=>by
  match l,hn,hl with
  |[],_,_=>exact BC _
  |[a],_,_=>exact AK _
  |a::b::l,hn,hl=>
   have h1:=hl a (by simp);have h2:=hl b (by simp);have h3:=(B3.1 hn).1;exact absurd (by rw[show a=b by omega];exact AZ ..) h3
 | n+1,l,hn,hl=>by
  have h1:=zPf n (l.erase (n+1)) (hn.erase _) λx hx=>by
   have h2:=(hn.mem_erase_iff).1 hx
   have:=hl x h2.2
   have:=h2.1
   omega
  by_cases h:n+1∈l
  ·rw[List.length_erase_of_mem h]at h1;omega
  rw[List.erase_of_not_mem h]at h1;omega
theorem zMa{al:Nat->Bool}{part:Nat}:∀(k:Nat)(Cs sets:List Nat),Cnf al part Cs sets->part+1-Cs.length<k->∃r,zJ6 al part k sets=Ax r/\∀s∈r,al s=Ac/\Sub s part
 |0,_,_,_,h=>by omega
 | k+1,Cs,sets,h,hk=>by
  unfold zJ6;cases hf:sets.find? al with
  |none=>
   refine⟨sets,rfl,λs hs=>⟨?_,h.sub s hs⟩⟩
   have:=B_.1 hf s hs
   simpa using this
  |some s=>
   have hs:=BX hf;have h2:=zKn h hs;have h3:=zPf part _ h2.nd h2.lt;rw[AT]at h3;exact zMa k _ _ h2 (by rw[AT];omega)
theorem zEm(al:Nat->Bool)(part:Nat):Cnf al part [] [0] where
 sub s hs i hi:=by
  rw[A4.1 hs,BF]at hi;cases hi
 met s hs C hC:=by cases hC
 nd:=List.nodup_nil
 lt C hC:=by cases hC
theorem Sub.refl(a:Nat):Sub a a:=λ_ h=>h
theorem Sub.trans{a b c:Nat}(h:Sub a b)(k:Sub b c):Sub a c:=λi hi=>k i (h i hi)
theorem Sub.eq{a b:Nat}(h:Sub a b)(k:Sub b a):a=b:=BG λi=>by
 cases ha:a.testBit i
 ·cases hb:b.testBit i
  ·rfl
  rw[k i hb]at ha;cases ha
 rw[h i ha]
theorem zVe{a b:Nat}:a&&&b=0↔∀i,a.testBit i=Ab->b.testBit i=false:=by
 constructor
 ·intro h i hi
  have:=congrArg (λn=>n.testBit i) h
  simpa[hi]using this
 intro h;exact BG λi=>by
  rw[A3,BF];cases ha:a.testBit i
  ·rfl
  rw[h i ha];rfl
theorem dif_z{a b:Nat}:dif a b=0↔Sub a b:=by
 constructor
 ·intro h i hi
  have:=congrArg (λn=>n.testBit i) h
  simp only[zBs,hi,Bool.true_and,BF]at this;simpa using this
 intro h;exact BG λi=>by
  rw[zBs,BF];cases ha:a.testBit i
  ·rfl
  rw[h i ha];rfl
theorem zRp{kept:List Nat}{o s i:Nat}(hne:s|||(o&&&2^i)≠s):∀{l:List Nat},i∈l->(s|||(o&&&2^i))∈zA6 kept o s l\/∃k∈kept,Sub k (s|||(o&&&2^i))
 |[],h=>by cases h
 | j::l,h=>by
  unfold zA6;by_cases hj:j=i
  ·subst hj;rw[if_neg hne];split
   ·rename_i hk;obtain⟨k,hk1,hk2⟩:=Bo.1 hk;exact .inr ⟨k,hk1,dif_z.1 (by simpa using hk2)⟩
   exact .inl (AZ ..)
  have hl:i∈l:=(AR.1 h).resolve_left λe=>hj e.symm;have ih:=zRp (kept:=kept) hne hl;split
  ·exact ih
  split
  ·exact ih
  exact ih.imp_left λh=>Bm _ h
theorem zHr{kept:List Nat}{o s g:Nat}:∀{l:List Nat},g∈zA6 kept o s l->∀k∈kept,¬Sub k g
 |[],h=>by cases h
 | i ::l,h=>by
  unfold zA6 at h;split at h
  ·exact zHr h
  split at h
  ·exact zHr h
  rename_i hk;rcases AR.1 h with rfl|h
  ·intro k hk1 hs;exact hk (Bo.2 ⟨k,hk1,by rw[dif_z.2 hs];rfl⟩)
  exact zHr h
structure Mht(part:Nat)(Cs sets:List Nat):Prop where
 hit:∀h,Sub h part->(∀C∈Cs,h&&&C≠0)->∃s∈sets,Sub s h
 anti:∀s∈sets,∀t∈sets,Sub s t->s=t
theorem mht_start(part:Nat):Mht part [] [0] where
 hit h _ _:=⟨0,AZ ..,λi hi=>by rw[BF]at hi;cases hi⟩
 anti s hs t ht _:=by rw[A4.1 hs,A4.1 ht]
theorem mht_step{part o:Nat}{Cs sets:List Nat}(h:Mht part Cs sets)(hp:part<2^32):Mht part (o::Cs) (zDy sets o) where
 hit g hg hm:=by
  obtain⟨s,hs,hsg⟩:=h.hit g hg λC hC=>hm C (Bm _ hC)
  by_cases hso:s&&&o=0
  ·obtain⟨i,h1,h2⟩:=zNp.1 (hm o (AZ ..))
   have hi:i<32:=by
    apply BM
    intro hn
    have h3:=hg i h1
    have:part<2^i:=Cg hp (Bx (by omega) (by omega))
    rw[CJ this]at h3;cases h3
   have hsi:s.testBit i=false:=by
    cases hb:s.testBit i
    ·rfl
    have:=zVe.1 hso i hb
    rw[h2]at this;cases this
   have hgi:(s|||(o&&&2^i)).testBit i=true:=by
    rw[A9,A3,h2,Nat.testBit_two_pow_self];simp
   have hne:s|||(o&&&2^i)≠s:=λe=>by rw[e,hsi]at hgi;cases hgi
   have hsub:Sub (s|||(o&&&2^i)) g:=λj hj=>by
    rw[A9,A3,BD,Bf,Ba,decide_eq_true_eq]at hj
    rcases hj with hj|⟨_,hj⟩
    ·exact hsg j hj
    rw[<-hj];exact h1
   rcases zRp (kept:=zYf sets o) hne (A2.2 hi)with k|⟨k,k1,k2⟩
   ·refine⟨_,Ce _ (Bu.2 ⟨s,AP.2 ⟨hs,by simpa using hso⟩,k⟩),hsub⟩
   exact⟨k,B0 _ k1,k2.trans hsub⟩
  exact⟨s,B0 _ (AP.2 ⟨hs,by simpa using hso⟩),hsg⟩
 anti a ha b hb hab:=by
  have hcase:∀{g},g∈zDy sets o->(g∈sets/\g&&&o≠0)\/∃s∈sets,s&&&o=0/\(∃i,g=s|||(o&&&2^i)/\g≠s)/\∀k∈zYf sets o,¬Sub k g:=λ{g} hg=>by
   rcases Bs.1 hg with hg|hg
   ·obtain⟨h1,h2⟩:=AP.1 hg
    exact .inl ⟨h1,by simpa using h2⟩
   obtain⟨s,hs,hg⟩:=Bu.1 hg
   obtain⟨h1,h2⟩:=AP.1 hs
   obtain⟨i,_,e,hne⟩:=zCp hg
   exact .inr ⟨s,h1,by simpa using h2,⟨i,e,hne⟩,zHr hg⟩
  have hkept:∀{g},g∈sets->g&&&o≠0->g∈zYf sets o:=λh1 h2=>AP.2 ⟨h1,by simpa using h2⟩
  have hpart:∀{s i:Nat},s&&&o=0->s|||(o&&&2^i)≠s->∀j,(s|||(o&&&2^i)).testBit j=Ab->o.testBit j=Ab->j=i:=λ{s i} hs hne j hj hoj=>by
   rw[A9,A3,BD,Bf,Ba,decide_eq_true_eq]at hj
   rcases hj with hj|⟨_,hj⟩
   ·have:=zVe.1 hs j hj
    rw[hoj]at this;cases this
   exact hj.symm
  have hbit:∀{s i:Nat},s|||(o&&&2^i)≠s->o.testBit i=true:=λ{s i} hne=>by
   apply BM
   intro hn
   refine hne (BG λj=>?_)
   rw[A9,A3,BD]
   by_cases hj:i=j
   ·subst hj
    rw[Bool.not_eq_true]at hn
    rw[hn];simp
   rw[decide_eq_false hj];simp
  rcases hcase ha with⟨a1,a2⟩|⟨s,s1,s2,⟨i,ea,na⟩,ka⟩
  ·rcases hcase hb with⟨b1,b2⟩|⟨t,t1,t2,⟨j,eb,nb⟩,kb⟩
   ·exact h.anti a a1 b b1 hab
   exact absurd hab (kb a (hkept a1 a2))
  rcases hcase hb with⟨b1,b2⟩|⟨t,t1,t2,⟨j,eb,nb⟩,kb⟩
  ·have hsa:Sub s a:=by rw[ea];exact zVw s _
   have:=h.anti s s1 b b1 (hsa.trans hab)
   rw[this]at s2
   exact absurd s2 b2
  rw[ea]at na hab
  rw[eb]at nb hab
  have hoi:=hbit na
  have hii:(s|||(o&&&2^i)).testBit i=true:=by
   rw[A9,A3,hoi,Nat.testBit_two_pow_self];simp
  have hij:=hpart t2 nb i (hab i hii) hoi
  subst hij
  have hst:Sub s t:=λq hq=>by
   have h1:=hab q (zVw s _ q hq)
   rw[A9,A3,Bf,Ba]at h1
   rcases h1 with h1|⟨h1,_⟩
   ·exact h1
   have:=zVe.1 s2 q hq
   rw[h1]at this;cases this
  have:=h.anti s s1 t t1 hst
  subst this
  rw[ea,eb]
def MinC(al:Nat->Bool)(part m:Nat):Prop:=Sub m part/\al m=Ac/\∀t,Sub t m->al t=Ac->t=m
theorem zXg{al:Nat->Bool}{part:Nat}(hmo:∀a b,Sub a b->al b=Ab->al a=Ab)(hp:part<2^32):∀(k:Nat)(Cs sets r:List Nat),Cnf al part Cs sets->Mht part Cs sets->(∀C∈Cs,al (dif part C)=Ab)->zJ6 al part k sets=Ax r->∀m,m∈r↔MinC al part m
 |0,_,_,_,_,_,_,h=>by cases h
 | k +1,Cs,sets,r,hc,hm,ha,h=>by
  unfold zJ6 at h;cases hf:sets.find? al with
  | none=>
   rw[hf]at h;cases h;have hno:∀s∈sets,al s=false:=λs hs=>by simpa using B_.1 hf s hs
   have hhit:∀m,Sub m part->al m=Ac->∃s∈sets,Sub s m:=λm h1 h2=>hm.hit m h1 λC hC hz=>by
    have h3:Sub m (dif part C):=λi hi=>by
     rw[zBs,h1 i hi,zVe.1 hz i hi];rfl
    rw[hmo m _ h3 (ha C hC)]at h2;cases h2
   intro m;constructor
   ·intro hms;refine⟨hc.sub m hms,hno m hms,λt ht hta=>?_⟩;obtain⟨s,hs,hst⟩:=hhit t (ht.trans (hc.sub m hms)) hta
    have:=hm.anti s hs m hms (hst.trans ht)
    subst this;exact ht.eq hst
   rintro⟨h1,h2,h3⟩;obtain⟨s,hs,hsm⟩:=hhit m h1 h2;rw[<-h3 s hsm (hno s hs)];exact hs
  | some s=>
   rw[hf]at h;have hs:=BX hf;have has:al s=true:=List.find?_some hf;have hgp:=zHs (al:=al) (part:=part) (Ap 32) s (hc.sub s hs);have hdd:dif part (dif part (zEk al part (Ap 32) s))=zEk al part (Ap 32) s:=BG λi=>by
    rw[zBs,zBs];cases h1:(zEk al part (Ap 32) s).testBit i
    ·cases part.testBit i<;>rfl
    rw[hgp i h1];rfl
   refine zXg hmo hp k _ _ r (zKn hc hs) (mht_step hm hp) (λC hC=>?_) h;rcases AR.1 hC with rfl|hC
   ·rw[hdd];exact zTh _ _ has
   exact ha C hC
section
open Go.RowKit
def SatS(A:List (List Nat×List Rw))(s:Nat)(τ:Nat->Va):Prop:=∀i,i<A.length->s.testBit i=Ab->(A.getD i Af).1.map τ∈(A.getD i Af).2
noncomputable def alB (A:List (List Nat×List Rw)) (s:Nat):Bool:=@decide (∃τ,SatS A s τ) (BH _)
theorem zSk{A:List (List Nat×List Rw)}{s:Nat}:alB A s=Ab↔∃τ,SatS A s τ:=by
 unfold alB;exact@decide_eq_true_iff _ (BH _)
theorem zKu(A:List (List Nat×List Rw)):∀a b,Sub a b->alB A b=Ab->alB A a=true:=λa b h hb=>by
 obtain⟨τ,hτ⟩:=zSk.1 hb;exact zSk.2 ⟨τ,λi hi hs=>hτ i hi (h i hs)⟩
def zD2(A:List (List Nat×List Rw))(s:Nat):List (List Nat×List Rw):=((Ap A.length).filter λi=>s.testBit i).map λi=>A.getD i Af
theorem sat_chos{A:List (List Nat×List Rw)}{s:Nat}{τ:Nat->Va}:SatA (zD2 A s) τ↔SatS A s τ:=by
 unfold SatA zD2 SatS;constructor
 ·intro h i hi hs;exact h _ (Aq.2 ⟨i,AP.2 ⟨A2.2 hi,hs⟩,rfl⟩)
 intro h a ha;obtain⟨i,hi,rfl⟩:=Aq.1 ha;obtain⟨h1,h2⟩:=AP.1 hi;exact h i (A2.1 h1) h2
theorem alB_0(A:List (List Nat×List Rw)):alB A 0=true:=zSk.2 ⟨λ_=>Af,λi _ h=>by rw[BF]at h;cases h⟩
def ClosP(A:List (List Nat×List Rw))(P:Nat):Prop:=∀i j,i<A.length->j<A.length->P.testBit i=Ab->P.testBit j=Ac->∀v∈(A.getD i Af).1,v∉(A.getD j Af).1
theorem al_split{A:List (List Nat×List Rw)}{P:Nat}(hc:ClosP A P){m:Nat}(h1:alB A (m&&&P)=Ab)(h2:alB A (dif m P)=Ab):alB A m=true:=by
 obtain⟨τ,hτ⟩:=zSk.1 h1;obtain⟨υ,hυ⟩:=zSk.1 h2;refine zSk.2 ⟨λv=>@ite _ (∃i,i<A.length/\P.testBit i=Ab/\v∈(A.getD i Af).1) (BH _) (τ v)<|υ v,λi hi hm=>?_⟩;cases hp:P.testBit i
 ·have e:(A.getD i Af).1.map (λv=>@ite _ (∃i,i<A.length/\P.testBit i=Ab/\v∈(A.getD i Af).1) (BH _) (τ v) (υ v))=(A.getD i Af).1.map υ:=BR λv hv=>by
   refine@if_neg _ (BH _) ?_ _ _ _;rintro⟨j,hj,hpj,hvj⟩;exact hc j i hj hi hpj hp v hvj hv
  rw[e];exact hυ i hi (by rw[zBs,hm,hp];rfl)
 have e:(A.getD i Af).1.map (λv=>@ite _ (∃i,i<A.length/\P.testBit i=Ab/\v∈(A.getD i Af).1) (BH _) (τ v) (υ v))=(A.getD i Af).1.map τ:=BR λv hv=>@if_pos _ (BH _) ⟨i,hi,hp,hv⟩ _ _ _;rw[e];exact hτ i hi (by rw[A3,hm,hp];rfl)
theorem and_sub(a b:Nat):Sub (a&&&b) a:=λi h=>by rw[A3,Ba]at h;exact h.1
theorem and_sub2(a b:Nat):Sub (a&&&b) b:=λi h=>by rw[A3,Ba]at h;exact h.2
theorem zPx(a b:Nat):Sub (dif a b) a:=λi h=>by rw[zBs,Ba]at h;exact h.1
theorem minc_part{A:List (List Nat×List Rw)}{parts:List Nat}{full:Nat}(hf:∀i,full.testBit i=Ab↔i<A.length)(hc:∀P∈parts,ClosP A P/\Sub P full)(hcov:∀i,i<A.length->∃P∈parts,P.testBit i=Ab)(m:Nat):MinC (alB A) full m↔∃P∈parts,MinC (alB A) P m:=by
 constructor
 ·rintro⟨h1,h2,h3⟩;have hne:m≠0:=λe=>by rw[e,alB_0]at h2;cases h2
  obtain⟨i,hi⟩:=CH hne;obtain⟨P,hP,hPi⟩:=hcov i ((hf i).1 (h1 i hi));refine⟨P,hP,?_,h2,h3⟩;cases ha:alB A (m&&&P)
  ·have:=h3 _ (and_sub m P) ha
   rw[<-this];exact and_sub2 m P
  cases hb:alB A (dif m P)
  ·have:=h3 _ (zPx m P) hb
   have h4:(dif m P).testBit i=true:=by rw[this];exact hi
   rw[zBs,hPi]at h4;simp at h4
  rw[al_split (hc P hP).1 ha hb]at h2;cases h2
 rintro⟨P,hP,h1,h2,h3⟩;exact⟨h1.trans (hc P hP).2,h2,h3⟩
end
section
open Go.RowKit
attribute [local irreducible] seqW awp zW zY zR Weak updS zZ retL Pure Acts rP setP setQ cP nP fr
set_option maxRecDepth 4096
section
variable {α : Type} (g : α → List D) (z : List D)
def filG(L:List α)(n:Nat):List D:=L.flatMap g++repL (n-L.length) z
variable {g z} {c : Nat} (hg : ∀ a, (g a).length = c) (hz : z.length = c)
theorem zW9(n:Nat):repL n z=filG g z [] n:=by simp[filG]
theorem zKk(L:List α):filG g z L L.length=L.flatMap g:=by simp[filG,repL]
include hg hz
theorem zKi(L:List α)(n:Nat)(a:α)(h:L.length<n):setAt (filG g z L n) (L.length*c) (g a)=filG g z (L++[a]) n:=by
 obtain⟨m,hm⟩:∃m,n-L.length=m+1:=⟨n-L.length-1,by omega⟩;have e:(L.flatMap g).length=L.length*c:=zEl hg L;have e2:n-(L++[a]).length=m:=by rw[AL,BW];omega
 unfold filG;rw[hm,zEb,e2,BE,B7];have h5:=zF5 (g a) z (L.flatMap g) (repL m z) (by rw[hg,hz]);rw[e]at h5;rw[<-B8,h5]
theorem zKj{L:List α}{n:Nat}(h:L.length<=n):(filG g z L n).length=n*c:=by
 have e:(L.flatMap g).length=L.length*c:=zEl hg L;have e2:∀k,(repL k z).length=k*c:=λk=>by
  induction k with
  |zero=>simp[repL]
  |succ k ih=>rw[zEb,AL,ih,hz,Nat.succ_mul];omega
 unfold filG;rw[AL,e,e2,<-Nat.add_mul,Nat.add_sub_cancel' h]
end
abbrev zFa:List D:=[.val (.slice AX 0 0), .val (.slice AX 0 0), .val (.slice AX 0 0)]
theorem zN3(a:List Nat×List Rw):(rnAB a).length=3:=rfl
theorem fromA_c(a:List Nat×List Rw)(hv:a.1.length<=1000)(hr:a.2.length<=1000)(hl:∀r∈a.2,r.length<=2000000):Pure Ao 87 [booD, .agg (atN a)] [] (.agg (rnAB a)):=by
 have h:=fromB_c (rnA a) (by rw[show(rnA a).V.length=a.1.length by simp[rnA,intL]];exact hv) hr hl;rw[afC_rnA]at h;exact h
set_option maxHeartbeats 4000000 in
theorem zRu(A:List (List Nat×List Rw))(hA:A.length<=1000)(h:∀a∈A,a.1.length<=1000/\a.2.length<=1000/\∀r∈a.2,r.length<=2000000):Pure Ao 68 [.row (A.flatMap atN) A.length] [] (.row (A.flatMap rnAB) A.length):=by
 have r0:repL A.length zFa=filG rnAB zFa [] A.length:=zW9 A.length;refine zH (T:=Tc) (zVj _ _ _) mixed Tryz.func68 rfl<|zB<|zA rfl<|v0s<|veT<|zB<|zA rfl<|ve ((0:Int)<=(Aa A:Int)/\(Aa A:Int)<=(Aa A:Int)/\(↑(72:Nat):Int)*(Aa A:Int)<=(281474976710656:Int)/\(Aa A:Int)<=(281474976710656:Int)/\0<3/\3=3)<|zB<|zB<|zA rfl<|veT<|zF<|zQ (λ(i:Nat)=>fr 25 [(2,nl),(3,Aj 0 0 (Aa A) (Aa A*3) Ab),(9,Ae (Ah atN A)<|Aa A),(10,iD (Aa A:Int)),(11,iD (i:Int))]) (λ(i:Nat)=>[fsBB<|filG rnAB zFa (A.take i) A.length]) (λi=>A.length-i) (λ(i:Nat)=>i<=A.length) 0 ?_ ?_ ?_
 ·omega
 ·refine vk 1
 rintro i h1;rcases An i A.length with h2|h2
 ·have hm:=zAc A Af i h2;have hg:=zFi zAk A i h2;have hle:=zDd zAk A i h2;have hne:=zDc zAk (by decide) A;have htk:=zAr A i h2;have hlt:(A.take i).length=i:=by rw[AU];omega
  have hset:=zKi (z:=zFa) zN3 rfl (A.take i) A.length (A.getD i Af) (by omega);have hfl:=zKj (L:=A.take i) (z:=zFa) (n:=A.length) zN3 rfl (by omega);obtain⟨k1,k2,k3⟩:=h _ hm;have hfr:=fromA_c _ k1 k2 k3;rw[hlt,<-htk]at hset;generalize A.getD i Af=a at*;generalize A.take i=L at*;refine zB<|zA rfl<|v0s<|veT<|zB<|vT ((i:Int)<(Aa A:Int))<|zL<|zC<|zD<|zB<|zF<|zB<|zA rfl<|vr 2 (ix (i:Int) (Aa A:Int) (Ah atN A≠[]))<|vs 14 (AB<|Ag (Ak (i:Int)*3)<|Ah atN A) (AB (Ae (Ad (λ(v:Nat)=>iD (v:Int))<|AG a) (Aa<|AG a)::iD (Aa (AG a):Int)::Ae (Ad rowV<|AM a) (Aa<|AM a)::Ah atN (Ag (i+1) A))) (hd:=by simp(disch:=omega) only[AA,AO,AS,hg])<|ve (3<=Aa (Ae (Ad (λ(v:Nat)=>iD (v:Int))<|AG a) (Aa<|AG a)::iD (Aa (AG a):Int)::Ae (Ad rowV<|AM a) (Aa<|AM a)::Ah atN (Ag (i+1) A))/\Ac=Ac/\Ab=Ab/\3=3/\3<=3)<|zA rfl<|vr 5 ((True/\Ab=Ab)/\3<=3)<|vc (hfr)<|vr 1 ((0:Int)<=(i:Int)/\(i:Int)<(Aa A:Int))<|vo0 22 0 (i*3)<|vr 1 (Bw (fsBB<|filG rnAB zFa L<|Aa A)=Ac/\Ab=Ab/\3=3/\i*3+3<=Aa (AD<|fsBB<|filG rnAB zFa L<|Aa A)/\¬0∈[])<|vnil<|zE<|zC<|zD<|zA rfl<|vr 2 (i6 ((i:Int)+(1:Int)))<|vnil<|zC<|⟨i+1,by omega,by omega,?_⟩;refine wkn (fr 25 [(2,nl),(3,Aj 0 0 (Aa A) (Aa A*3) Ab),(4,iD (i:Int)),(5,AH 1 0),(9,Ae (Ah atN A) (Aa A)),(10,iD (Aa A:Int)),(11,iD (↑(i+1):Int)),(16,Aj 0 0 (Aa A) (Aa A*3) Ab),(17,iD (i:Int)),(18,Ar []),(19,D.ifc 129 (Ar [])),(20,Ar [Ae (Ad (λ(v:Nat)=>iD (v:Int)) (AG a)) (Aa (AG a)),iD (Aa (AG a):Int),Ae (Ad rowV (AM a)) (Aa (AM a))]),(21,Ar [Ae (Ad (λ(z:Int)=>iD z) (Rn.V (rn1 (rnA a)))) (Aa (Rn.V (rn1 (rnA a)))),Ae (Ad rowV (Rn.R (rn1 (rnA a)))) (Aa (Rn.R (rn1 (rnA a)))),Ae (Ad (λ(x:Nat)=>bD (g0 x)) (Rn.W (rn1 (rnA a)))) (Aa (Rn.W (rn1 (rnA a))))]),(22,AH 0 (i*3)),(23,iD (↑(i+1):Int))]) [Az (Bc (Bc (Bc (filG rnAB zFa L (Aa A)) (i*3) (Ae (Ad (λ(z:Int)=>iD z) (Rn.V (rn1 (rnA a)))) (Aa (Rn.V (rn1 (rnA a)))))) (i*3+1) (Ae (Ad rowV (Rn.R (rn1 (rnA a)))) (Aa (Rn.R (rn1 (rnA a)))))) (i*3+1+1) (Ae (Ad (λ(x:Nat)=>bD (g0 x)) (Rn.W (rn1 (rnA a)))) (Aa (Rn.W (rn1 (rnA a)))))) (133:TypeId) 3 Ab Ac AC,Az [Ae (Ad (λ(v:Nat)=>iD (v:Int)) (AG a)) (Aa (AG a)),iD (Aa (AG a):Int),Ae (Ad rowV (AM a)) (Aa (AM a))] 45 0 Ac Ac AC] ?_;rw[show(((filG rnAB zFa L A.length).set (i*3) _).set (i*3+1) _).set (i*3+1+1) _=filG rnAB zFa (A.take (i+1)) A.length from hset];refine vk 1
 obtain rfl:i=A.length:=by omega
 rw[A5];have ha:filG rnAB zFa A A.length=A.flatMap rnAB:=zKk A;have ht:=zFg zN3 A A.length rfl;rw[ha];refine zB<|zA rfl<|v0s<|veT<|zB<|vF ((Aa A:Int)<(Aa A:Int))<|zV<|zM<|zM<|zS rfl<|zC<|zD<|zB<|zA rfl<|veT<|zJ<|zAs (True) (Ae (Ai (Aa A*3)<|Ag 0<|AD<|fsBB<|Ah rnAB A)<|Aa A) (Ae (Ah rnAB A)<|Aa A) (.inr rfl) (by simp(disch:=omega) only[AJ,ht]) rfl
set_option maxHeartbeats 4000000 in
theorem chosen_c(A:List (List Nat×List Rw))(hA:A.length<=32)(s:Nat)(hs:s<4294967296):Pure Ao 45 [.row (A.flatMap atN) A.length,u32D s] [] (.row ((zD2 A s).flatMap atN) (zD2 A s).length):=by
 refine zH zAf mixed Tryz.func45 rfl<|zB<|zA rfl<|v0s<|veT<|zB<|zA rfl<|ve (True/\0<3/\3=3/\0<=16777216/\0<=9223372036854775807)<|zB<|zB<|zA rfl<|veT<|zF<|zAu (λ(i:Nat)(L:List (List Nat×List Rw))=>fr 27 [(1,u32D s),(4,nl),(5,Aj 0 0 (Aa L) (Aa L*3) Ab),(9,Ae (Ah atN A)<|Aa A),(10,iD (Aa A:Int)),(11,iD (i:Int))]) (λ(i:Nat)(L:List (List Nat×List Rw))=>[atK<|L.flatMap atN]) (λi L=>A.length-i) (λ(i:Nat)(L:List (List Nat×List Rw))=>i<=A.length/\L=((Ap i).filter λi=>s.testBit i).map λi=>A.getD i Af) 0 [] ?_ ?_ ?_
 ·exact⟨by omega,rfl⟩
 ·refine vk 1
 rintro i L ⟨h1,h2⟩;have hL:L.length<=32:=by
  rw[h2,Al]
  have:=Bq (λi=>s.testBit i) (Ap i)
  rw[Ca]at this;omega
 have hcl:(L.flatMap atN).length=L.length*3:=zEl zAk L;rcases An i A.length with h3|h3
 ·have hg:=zFi zAk A i h3;have hle:=zDd zAk A i h3;have hne:=zDc zAk (by decide) A;have hsu:((Ap (i+1)).filter λi=>s.testBit i).map (λi=>A.getD i Af)=if s.testBit i then L++[A.getD i Af]else L:=by
   rw[BA,Br,Bd,<-h2,Bl];cases s.testBit i<;>simp
  have w1:=zEu s (v:=i) (by omega);have w2:=zSb hs i;have w3:=bit_w hs i;generalize A.getD i Af=a at*;focus
   refine zB<|zA rfl<|v0s<|veT<|zB<|vT ((i:Int)<(Aa A:Int))<|zL<|zC<|zD<|zB<|zF<|zB<|zA rfl<|vr 2 (ix (i:Int) (Aa A:Int) (Ah atN A≠[]))<|vs 14 (AB<|Ag (Ak (i:Int)*3)<|Ah atN A) (AB (Ae (Ad (λ(v:Nat)=>iD (v:Int))<|AG a) (Aa<|AG a)::iD (Aa (AG a):Int)::Ae (Ad rowV<|AM a) (Aa<|AM a)::Ah atN (Ag (i+1) A))) (hd:=by simp(disch:=omega) only[AA,AO,AS,hg])<|ve (3<=Aa (Ae (Ad (λ(v:Nat)=>iD (v:Int))<|AG a) (Aa<|AG a)::iD (Aa (AG a):Int)::Ae (Ad rowV<|AM a) (Aa<|AM a)::Ah atN (Ag (i+1) A))/\Ac=Ac/\Ab=Ab/\3=3/\3<=3)<|zB<|zA rfl<|vr 3 ((0:Int)<=(i:Int))<|vs 18 (Av<|As Au<|BJ (s:Int) ((2:Int)^min (Ak (i:Int)) 32)) (dig (s>>>i)) (hd:=by simp(disch:=omega) only[AA,w1])<|vrT 1<|vs 19 (Av<|As Au<|AV Au (↑(AW (Ay 32 (↑(s>>>i):Int)&&&Ay 32 (1:Int))):Int)) (dig<|AW (Ay 32 (↑(s>>>i):Int)&&&Ay 32 (1:Int))) (hd:=by simp(disch:=omega) only[zA8])<|vrT 1<|vs 20 (bD ((↑(AW (Ay 32 (↑(s>>>i):Int)&&&Ay 32 (1:Int))):Int)==(1:Int))) (bD<|Ci s i) (hd:=by simp(disch:=omega) only[w2])<|veT<|zAq (t:=Ci s i) (by kernel_rfl) (λhc=>?_)<|λhc=>?_;refine zA rfl<|vr 5 (3<=3/\((3=3/\3<=3/\True)/\0<3/\3=3/\3<=16777216/\1<=9223372036854775807)/\A_ (atK<|Ah atN L)=Ab/\Aa (AD<|atK<|Ah atN L)=Aa L*3/\Aa L*3=Aa L*3/\A6 (atK<|Ah atN L)=45/\A7 (atK<|Ah atN L)=3/\3=3/\0<3/\0<56/\45=45/\(Aa L+1)*56<=140737488355328/\3=3/\A0 (AF<|atK<|Ah atN L)=Ac/\(Ac=Ac\/A1 (AF<|atK<|Ah atN L)=Ab))<|vnil<|zE<|zC<|zD<|zA rfl<|vr 2 (i6 ((i:Int)+(1:Int)))<|vnil<|zC ?_;rotate_left;refine zL<|zE<|zC<|zD<|zA rfl<|vr 2 (i6 ((i:Int)+(1:Int)))<|vnil<|zC ?_;rotate_left
  ·have hc2:s.testBit i=true:=by assumption
   rw[hc2,if_pos rfl]at hsu;refine⟨i+1,L++[a],⟨by omega,hsu.symm⟩,by omega,?_⟩;rw[BE,B7,AL,BW];refine vk 1
  have hc2:s.testBit i=false:=by assumption
  rw[hc2,if_neg (by decide)]at hsu;refine⟨i+1,L,⟨by omega,hsu.symm⟩,by omega,?_⟩;refine vk 1
 obtain rfl:i=A.length:=by omega
 have h2:L=zD2 A s:=h2;subst h2;have ht:=zFg zAk (zD2 A s) _ rfl;refine zB<|zA rfl<|v0s<|veT<|zB<|vF ((Aa A:Int)<(Aa A:Int))<|zV<|zM<|zM<|zS rfl<|zC<|zD<|zB<|zA rfl<|veT<|zJ<|zAs (True) (Ae (Ai (Aa (zD2 A s)*3)<|Ag 0<|AD<|atK<|Ah atN<|zD2 A s)<|Aa<|zD2 A s) (Ae (Ah atN<|zD2 A s)<|Aa<|zD2 A s) (.inr rfl) (by simp(disch:=omega) only[AJ,ht]) rfl
end
section
open Go.RowKit Go.Sort Go.Lib Go.Shelf
section
variable {P : Program} {st : List Bk}
theorem acts_rowP{f:FuncId}{k n:Nat}{e:Bk}{wh:Bool}{ds':List D}(he:st[k]?=Ax e)(ha:e.arr=Ab)(hkd:e.kd= .plain)(hf:e.fz=Ac)(hlen:e.cells.length=n)(hl':ds'.length=n)(hpos:0<n)
  (h:∀(I:Im) b c w us,ImB I w->(∀j,¬I b j)->RelL I w noB e.cells us->(∃cur t,w.heap[b]?=Ax (.cells cur t (0,0)))->(∀j,j<n->w.cell? ⟨b,0+j,AX⟩=Ax (us.getD j undef))->(∀j,j<n->w.frozen? ⟨b,0+j,AX⟩=Ac)->n<=c->Calls P f #[.slice (Ax ⟨b,0,AX⟩) n c] w λx w'=>x= .returned (.tuple #[])/\∃vs q os,w'=grow ((w.drewN q).setCells b 0 vs) os/\RelL I w noB ds' vs):
  Acts P f [.osl k 0 n n wh] st [] (.val (.tuple #[])) (st.set k {e with cells:=ds'}):=by
 intro β I w xs hr hsr hinj hfz hdom hi hg;simp only[RelT]at hr;obtain⟨v,ys,rfl,hr,rfl⟩:=hr;simp only[Rel]at hr;rcases hr with⟨e0,_,rfl⟩|⟨e0,_,_,a,c,rfl,_⟩|⟨b,c,cap,hb,rfl,k1,k2,k3⟩
 ·omega
 ·omega
 have hs0:Sim β I w ([]:List D) st ({tmps:=#[],defers:=[]}:Act).tmps.toList:=⟨by simp only[RelT],hsr,hinj,hfz,hdom,hi,hg⟩;have hni:e.kd.isMap=false:=by rw[hkd];rfl
 have hnob:e.nob=true:=by unfold Bk.nob;rw[hkd,ha];rfl
 obtain⟨e',he',ho⟩:=hs0.sr k b c hb;rw[he]at he';cases he';obtain⟨cur,c1,c2,c3,c4⟩:=ho.c hni;rw[hnob]at c3;simp only[if_true]at c3;have hno:∀j,¬I b j:=λj hij=>by
  have:=(hs0.fz k b c j e hb he hij).1
  rw[hf]at this;cases this
 have hlc:(cur.take e.cells.length).length=n:=by rw[<-c3.length];exact hlen
 have hcell:∀j,j<n->w.cell? ⟨b,0+j,AX⟩=Ax ((cur.take e.cells.length).getD j undef)/\w.frozen? ⟨b,0+j,AX⟩=false:=λj hj=>by
  have hlt:j<cur.length:=by rw[AU]at hlc;omega
  refine⟨?_,frozen_of_row w b (0+j) cur.toArray e.ty c1⟩;rw[Am,Cj,if_pos (by omega),Aw hlt];simp[World.cell?,c1,hlt]
 refine(h I b cap w (cur.take e.cells.length) hs0.imb hno c3 ⟨_,_,c1⟩ (λj hj=>(hcell j hj).1) (λj hj=>(hcell j hj).2) k1).mono ?_;rintro x w' ⟨rfl,vs,q,os,rfl,hvs⟩;have hvs':RelL (fixI I β st []) (w.drewN q) (if e.nob then noB else β) ds' vs:=by
  rw[hnob];simp only[if_true];exact RelL.mono ((Fix.drew I w q).trans (zAh [])) _ _ (BeLe.refl _) _ _ hvs
 obtain⟨s1,s2,s3⟩:=(hs0.drew q).put (off:=0) (cs:=ds') (vs:=vs) (ks:=[]) hb he hf hni (by simp) hvs' (by omega) AX undef;have hset2:setAt e.cells 0 ds'=ds':=zG4 e.cells ds' [] (by omega);rw[hset2]at s1;have s4:=s1.grow os;exact⟨_,β,_,rfl,s4.imb,(Stp.drew β _ w q).trans (s2.trans (Stp.grow s1.imb β os)),λ_ _ _ h=>h,s4.sr,s4.inj,s4.fz,s4.dom,by simp only[Rel]⟩
theorem acts_row0{f:FuncId}{k:Nat}{wh:Bool}(h0:∀a c w,Calls P f #[.slice a 0 c] w λx w'=>x= .returned (.tuple #[])/\w'=w):Acts P f [.osl k 0 0 0 wh] st [] (.val (.tuple #[])) st:=by
 intro β I w xs hr hsr hinj hfz hdom hi hg;simp only[RelT]at hr;obtain⟨v,ys,rfl,hr,rfl⟩:=hr;have:∃a c,v= .slice a 0 c:=by
  simp only[Rel]at hr;grind
 obtain⟨a,c,rfl⟩:=this;refine(h0 a c w).mono ?_;rintro x w' ⟨rfl,rfl⟩;exact⟨_,β,I,rfl,hi,Stp.refl _ _ _,λ_ _ _ h=>h,hsr,hinj,hfz,hdom,by simp only[Rel]⟩
end
def zFh{α:Type}(c:α->α->Int)(l:List α):List α:=l.mergeSort λa b=>decide (c a b<=0)
section
variable {α : Type} {c : α → α → Int}
theorem zH5(l:List α):(zFh c l).Perm l:=List.mergeSort_perm _ _
theorem Cm.le_tr(hc:Cm c){a b d:α}(h:c a b<=0)(k:c b d<=0):c a d<=0:=by
 by_cases e1:c a b=0
 ·rw[(hc.eq a b).1 e1];exact k
 by_cases e2:c b d=0
 ·rw[<-(hc.eq b d).1 e2];exact h
 have:=hc.tr a b d (by omega) (by omega);omega
theorem zQo(hc:Cm c)(l:List α):(zFh c l).Pairwise λa b=>¬c b a<0:=by
 have:=List.pairwise_mergeSort (le:=λa b=>decide (c a b<=0)) (λa b d h k=>by
  simp only[decide_eq_true_eq]at*;exact hc.le_tr h k) (λa b=>by
  have:=hc.neg a b
  simp only[Bf,decide_eq_true_eq];omega) l
 refine this.imp λ{a b} h=>?_
 have:=hc.neg a b
 grind
theorem ddG_sort[DecidableEq α](hc:Cm c)(l:List α):ddG (zFh c l)=setG c l:=by
 rw[zYl hc (zQo hc l)];grind [zX4,zH5]
end
theorem zQp(l:List Int):zFh icmp l=l.mergeSort λx y=>decide (x<=y):=by
 grind [zFh,icmp]
theorem zLw(zs:List Int):zs.map intD=(zs.map (As .i64)).map .val:=by simp
theorem zZy{st:List Bk}{k n:Nat}{e:Bk}{wh:Bool}{zs:List Int}(he:st[k]?=Ax e)(ha:e.arr=Ab)(hkd:e.kd= .plain)(hf:e.fz=Ac)(hc:e.cells=zs.map intD)(hn:zs.length=n)(hb:n<=1000000000):
  Acts Ao 65 [.osl k 0 n n wh] st [] (.val (.tuple #[])) (st.set k {e with cells:=(zFh icmp zs).map intD}):=by
 have hsl:(zFh icmp zs).length=n:=by rw[(zH5 zs).length_eq,hn]
 rcases Nat.eq_zero_or_pos n with h0|hpos
 ·subst h0;obtain rfl:zs=[]:=CQ hn;have e1:({e with cells:=(zFh icmp []).map intD}:Bk)=e:=by
   rw[show(zFh icmp ([]:List Int))=[] by rw[zQp];simp,<-hc]
  rw[e1];have e2:st.set k e=st:=by
   apply List.ext_getElem?;grind
  grind [acts_row0,Tryz.slices_Sort_int_none]
 refine acts_rowP he ha hkd hf (by rw[hc,Al,hn]) (by rw[Al,hsl]) hpos ?_;intro I b c w us hi hno hr hcur hcell hfr hcap;rw[hc,zLw]at hr;obtain rfl:=zG8 hr;have hH:Holds (As .i64) w b 0 zs.toArray:=λj hj=>by
  grind
 have hblk:b<w.heap.size:=by
  grind
 have:=Tryz.slices_Sort_int b 0 c zs w hH hblk (by omega)
 rw[hn]at this;refine this.mono ?_;rintro x w' ⟨rfl,q,os,rfl⟩;refine⟨rfl,(zFh icmp zs).map (As .i64),q,os,?_,?_⟩
 ·rw[<-zQp,putRow_eq_setCells (As .i64) w b 0 zs.toArray (zFh icmp zs) q hH (by simp[hsl,hn])]
 rw[zLw];exact zCz λv hv=>by obtain⟨z,_,rfl⟩:=Aq.1 hv;rfl
end
section
open Go.RowKit
attribute [local irreducible] seqW awp zW zY zR Weak updS zZ retL Pure Acts rP setP setQ cP nP fr
set_option maxRecDepth 4096
theorem getD_getY{α:Type}{l:List α}{i:Nat}(d:α)(h:i<l.length):l.getD i d=l[i]:=by grind
theorem zNu{α:Type}{a b:List α}{i:Nat}(d:α)(ha:i<a.length)(hb:i<b.length)(h:a.take i=b.take i)(k:a.getD i d=b.getD i d):a.take (i+1)=b.take (i+1):=by
 grind [Bp,getD_getY]
theorem cint_cY(a b:Int):Pure Ao 79 [intD a,intD b] [] (intD (Lib.compareInt a b)):=
 zCn (us:=[.int .i64 a, .int .i64 b]) (λw=>(Tryz.cmp_Compare_int a b w).mono λe w' h=>⟨h.1,h.2.symm⟩)
set_option maxHeartbeats 1000000 in
theorem scmp_cY(a b:List Int)(n m:Nat)(hn:a.length=n)(hm:b.length=m)(ha:n<=1000000000)(hb:m<=1000000000):Pure Ao 59 [.row (a.map intD) n, .row (b.map intD) m] [] (intD (lcmp a b)):=by
 subst hn hm;refine zH zAf mixed Tryz.func59 rfl<|vAu<|zB<|vAe<|zF<|zQ (λ(i:Nat)=>fr 36 [(0,intsD a),(1,intsD b),(9,intsD a),(10,iD (Aa a:Int)),(11,iD (i:Int))]) (λi=>[]) (λi=>a.length-i) (λi=>i<=a.length/\i<=b.length/\lcmp (a.drop i) (b.drop i)=lcmp a b) 0 ?_ ?_ ?_
 ·grind
 ·refine vk 0
 rintro i ⟨k1,k2,k3⟩;rcases An i a.length with h1|h1
 ·have x1:=zHp a i h1;have n1:a.map intD≠[]:=zAb;rcases An i b.length with h2|h2
  ·have x2:=zHp b i h2;have n2:b.map intD≠[]:=zAb;have hl:=lcmp_drop h1 h2;rw[k3]at hl;generalize a.getD i 0=x at*;generalize b.getD i 0=y at*;have hci:=cint_cY x y;unfold Lib.compareInt at hci;by_cases h3:x<y
   ·rw[if_pos h3]at hl;have e:(if x<y then-1 else if x>y then(1:Int)else 0)=-1:=if_pos h3;rw[e]at hci;refine vAu<|zB<|vT ((i:Int)<↑(Aa a))<|vKB<|vA<|vr 2 (ix ↑i ↑(Aa a) (Ad intD a≠[]))<|vp 14 i (Ad intD a)<|vr 1 (0<Aa (Ag i<|Ad intD a))<|vsh 15 x1<|veT<|zB<|vAe<|vF ((i:Int)>=(Aa b:Int))<|vK<|vA<|vr 3 (ix ↑i ↑(Aa b) (Ad intD b≠[]))<|vp 22 i (Ad intD b)<|vr 1 (0<Aa (Ag i<|Ad intD b))<|vsh 23 x2<|veT<|vA<|vrT 2<|vc hci<|veT<|vAe<|vt<|vAe<|zJ<|zN<|zG<|zG<|zN<|zG<|vre (True) (q0_) (.inr rfl) ?_;rw[hl]
   by_cases h4:y<x
   ·rw[if_neg h3,if_pos h4]at hl;have e:(if x<y then-1 else if x>y then(1:Int)else 0)=1:=by rw[if_neg h3,if_pos h4]
    rw[e]at hci;refine vAu<|zB<|vT ((i:Int)<↑(Aa a))<|vKB<|vA<|vr 2 (ix ↑i ↑(Aa a) (Ad intD a≠[]))<|vp 14 i (Ad intD a)<|vr 1 (0<Aa (Ag i<|Ad intD a))<|vsh 15 x1<|veT<|zB<|vAe<|vF ((i:Int)>=(Aa b:Int))<|vK<|vA<|vr 3 (ix ↑i ↑(Aa b) (Ad intD b≠[]))<|vp 22 i (Ad intD b)<|vr 1 (0<Aa (Ag i<|Ad intD b))<|vsh 23 x2<|veT<|vA<|vrT 2<|vc hci<|veT<|vAe<|vt<|vAe<|zJ<|zN<|zG<|zG<|zN<|zG<|vre (True) (q1_) (.inr rfl) ?_;rw[hl]
   rw[if_neg h3,if_neg h4]at hl;have e:(if x<y then-1 else if x>y then(1:Int)else 0)=0:=by rw[if_neg h3,if_neg h4]
   rw[e]at hci;refine vAu<|zB<|vT ((i:Int)<↑(Aa a))<|vKB<|vA<|vr 2 (ix ↑i ↑(Aa a) (Ad intD a≠[]))<|vp 14 i (Ad intD a)<|vr 1 (0<Aa (Ag i<|Ad intD a))<|vsh 15 x1<|veT<|zB<|vAe<|vF ((i:Int)>=(Aa b:Int))<|vK<|vA<|vr 3 (ix ↑i ↑(Aa b) (Ad intD b≠[]))<|vp 22 i (Ad intD b)<|vr 1 (0<Aa (Ag i<|Ad intD b))<|vsh 23 x2<|veT<|vA<|vrT 2<|vc hci<|veT<|vAe<|vf<|zL<|zE<|vN<|zA rfl<|vr 2 (i6 (↑i+1))<|vnil<|zC<|⟨i+1,⟨by omega,by omega,hl.symm⟩,by omega,?_⟩;refine vk 0
  have hl:=zWy (a:=a) (b:=b) (i:=i) (.inr (by omega)) k1 k2;rw[k3,if_neg (by omega),if_pos (by omega)]at hl;rw[hl];refine vAu<|zB<|vT ((i:Int)<↑(Aa a))<|vKB<|vA<|vr 2 (ix ↑i ↑(Aa a) (Ad intD a≠[]))<|vp 14 i (Ad intD a)<|vr 1 (0<Aa (Ag i<|Ad intD a))<|vsh 15 x1<|veT<|zB<|vAe<|vT ((i:Int)>=(Aa b:Int))<|vAe<|zJ<|zG<|zN<|zG<|zG<|zN<|zG<|vret (True)<|.inr rfl
 have hl:=zWy (a:=a) (b:=b) (i:=i) (.inl (by omega)) k1 k2;rw[k3]at hl;rcases An a.length b.length with h2|h2
 ·rw[if_pos h2]at hl;rw[hl];refine vAu<|zB<|vF ((i:Int)<↑(Aa a))<|vZ2<|zB<|vAe<|vT ((Aa a:Int)<↑(Aa b))<|vAe<|zJ<|zG<|vret (True)<|.inr rfl
 rw[if_neg (by omega),if_neg (by omega)]at hl;rw[hl];refine vAu<|zB<|vF ((i:Int)<↑(Aa a))<|vZ2<|zB<|vAe<|vF ((Aa a:Int)<↑(Aa b))<|vK<|vAe<|zJ<|vret (True)<|.inr rfl
set_option maxHeartbeats 1000000 in
theorem zQq(a b:List Int)(n m:Nat)(hn:a.length=n)(hm:b.length=m)(ha:n<=1000000000)(hb:m<=1000000000):Pure Ao 17 [.row (a.map intD) n, .row (b.map intD) m] [] (bD (decide (a=b))):=by
 subst hn hm;refine zH zAf mixed Tryz.func17 rfl ?_;focus
  refine vAu<|zB<|vAe<|zAq (t:=(Aa a:Int)!=(Aa b:Int)) (by kernel_rfl) (λhc=>?_)<|λhc=>?_;simp only[bne_iff_ne]at hc;refine vAe<|zJ<|zG<|vre (True) (Av<|Value.bool Ac) (.inr rfl) ?_;rotate_left;simp only[bne_eq_false_iff_eq]at hc;refine vK<|zB<|vAe<|zF ?_;rotate_left
 ·congr 2;grind
 refine zQ (λ(i:Nat)=>fr 26 [(0,intsD a),(1,intsD b),(12,iD<|Aa a),(13,iD i)]) (λi=>[]) (λi=>a.length-i) (λi=>i<=a.length/\a.take i=b.take i) 0 ?_ ?_ ?_
 ·grind
 ·refine vk 0
 rintro i ⟨k1,k2⟩;focus
  refine vAu<|zB<|vcD ((i:Int)<↑(Aa a)) (λhc=>?_)<|λhc=>?_;refine vKB<|vAe<|zB<|vd [0,1,2,4,5,6,3,7,8]<|vr 3 (ix ↑i ↑(Aa a) (Ad intD a≠[])) (vp 18 i (Ad intD a)<|vr 3 (ix ↑i ↑(Aa b) (Ad intD b≠[])) (vp 22 i (Ad intD b) ?_) ⟨(by omega),⟨(by omega),(by exact zAb)⟩⟩) ⟨(by omega),⟨(by omega),(by exact zAb)⟩⟩;refine vr 1 (0<Aa (Ag i<|Ad intD a))<|vs 19 (List.headD (Ag i<|Ad intD a) Uk) (intD<|AQ a i (0:Int)) (hd:=by simp(disch:=omega) only[zHp])<|vr 1 (0<Aa (Ag i<|Ad intD b))<|vs 23 (List.headD (Ag i<|Ad intD b) Uk) (intD<|AQ b i (0:Int)) (hd:=by simp(disch:=omega) only[zHp])<|veT<|zAq (t:=AQ a i (0:Int)!=AQ b i (0:Int)) (by kernel_rfl) (λhc=>?_)<|λhc=>?_;simp only[bne_iff_ne]at hc;refine vAe<|zJ<|zN<|zG<|zG<|zN<|zG<|vre (True) (Av<|Value.bool Ac) (.inr rfl) ?_;rotate_left;simp only[bne_eq_false_iff_eq]at hc;refine zL<|zE<|vN<|zA rfl<|vr 2 (i6 (↑i+1))<|vnil<|zC ?_;rotate_left;refine vZ2<|vAe<|zJ<|vre (True) (Av<|Value.bool Ab) (.inr rfl) ?_;rotate_left
 ·congr 2;grind
 ·refine⟨i+1,⟨by omega,?_⟩,by omega,?_⟩
  ·grind [zNu]
  refine vk 0
 grind
theorem repL_oneY(n:Nat)(z:D):repL n [z]=AI n z:=by
 induction n with
 |zero=>rfl
 |succ n ih=>simp only[repL,CA,List.flatten_cons,AO,AS]at ih⊢;rw[ih]
theorem zX2{α:Type}{c:α->α->Int}(l:List α):(zFh c l).length=l.length:=(zH5 l).length_eq
theorem zYk(l:List Int):ddG (zFh icmp l)=setG icmp l:=ddG_sort zTe l
theorem zR4(l:List Int):(Bi l).length<=l.length:=by
 unfold Bi CF;rw[Al];exact AE (Bq _ _) (by simp)
abbrev vIY(l:List Int):List Value:=l.map (As .i64)
theorem zPz{st:List Bk}{k n:Nat}{e:Bk}{wh:Bool}{zs:List Int}(he:st[k]?=Ax e)(ha:e.arr=Ab)(hkd:e.kd= .plain)(hf:e.fz=Ac)(hc:e.cells=(vIY zs).map .val)(hn:zs.length=n)(hb:n<=1000000):
  Acts Ao 66 [.osl k 0 n n wh] st [] (.osl k 0 (Bi zs).length (Bi zs).length wh) (st.set k {e with cells:=(vIY (Bi zs++AI (n-(Bi zs).length) 0)).map .val}):=by
 have hcl:=zR4 zs;refine acts_row he ha hkd hf hc (by simp[hn]) (by simp;omega) (by omega) (λv hv=>by obtain⟨z,_,rfl⟩:=Aq.1 hv;rfl) (λ_ a c w=>Tryz.slices_Compact_int_empty a c w) (λh0 b c w h1 h2 h3=>?_);refine(Tryz.slices_Compact_int_cells b 0 n c zs w (by omega) (by omega) h3 (λj hj=>?_) h2).mono ?_
 ·rw[h1 j (by omega)];simp only[vIY,Am,BL];rw[Aw (by omega)];rfl
 rw[show zs.take n=zs from AN (by omega)];exact λx w' h=>h
theorem sort_iY(l:List Int)(k n:Nat)(wh:Bool)(st:List Bk)(hs:st[k]?=Ax ⟨l.map intD,3,1,Ab,Ac, .plain⟩)(hn:l.length=n)(hb:n<=1000000):Acts Ao 65 [.osl k 0 n n wh] st [] (.val (.tuple #[])) (st.set k ⟨(zFh icmp l).map intD,3,1,Ab,Ac, .plain⟩):=zZy hs rfl rfl rfl rfl hn (by omega)
theorem zYn(l:List Int)(k n:Nat)(wh:Bool)(st:List Bk)(hs:st[k]?=Ax ⟨(zFh icmp l).map intD,3,1,Ab,Ac, .plain⟩)(hn:l.length=n)(hb:n<=1000000):Acts Ao 66 [.osl k 0 n n wh] st [] (.osl k 0 (setG icmp l).length (setG icmp l).length wh) (st.set k ⟨(setG icmp l).map intD++AI (n-(setG icmp l).length) (intD 0),3,1,Ab,Ac, .plain⟩):=by
 have h:=zPz (wh:=wh) hs rfl rfl rfl (zs:=zFh icmp l) (by rw[zLw]) (by rw[zX2];exact hn) hb;rw[zYo,zYk]at h;have e1:(vIY (setG icmp l++AI (n-(setG icmp l).length) 0)).map Av=(setG icmp l).map intD++AI (n-(setG icmp l).length) (intD 0):=by simp[Bd]
 rwa[e1]at h
def Tsq:Par:=⟨λf=>f==65||f==66,λ_ _=>AX,λ_=>Ac,λ_=>Ac,λ_=>Ac⟩
theorem Tsq_ok:zBl Ao Tsq:=by intro t n f h;cases h
abbrev ivV(z:Int):Value:= .int .i64 z
abbrev mapZ(U:List Int):Bk:=⟨nsD (Ap U.length),125,0,Ab,Ac, .map (U.map ivV)⟩
theorem zWq(U:List Int)(z:Int):zDo (U.map ivV) (ivV z)=if z∈U then Ax (U.idxOf z)else none:=by
 unfold zDo;rw[List.findIdx?_map];have e:(vEq (ivV z)∘ivV)=λx=>decide (z=x):=by
  funext x;show(z==x)=decide (z=x);rw[Bt];simp
 rw[e];induction U with
 |nil=>rfl
 | cons s U ih=>
  rw[CK,ih];by_cases e:z=s
  ·subst e;simp
  have e2:(s==z)=false:=by simpa using λh:s=z=>e h.symm
  simp only[e,decide_false,CE,if_false,AR,false_or,List.idxOf_cons,e2,cond_false];split<;>simp
theorem mput_iv(U:List Int)(z:Int)(h:z∉U):mput (mapZ U) (U.map ivV) (ivV z) (iD U.length)=mapZ (U++[z]):=by
 unfold mput;rw[zWq,if_neg h];simp[BA]
theorem look_iv(U:List Int)(z:Int)(h:z∈U):zE5 Ac (iD 0) (U.map ivV) (nsD (Ap U.length)) (ivV z)=iD (U.idxOf z:Nat):=by
 unfold zE5;rw[zWq,if_pos h]
 have:=BP.2 h
 simp[ctD,Am,this]
theorem fits_iv(U:List Int):(U.map ivV).all (zT (.int .i64))=true:=by simp[zT]
abbrev g1D(v:Nat):List D:=[iD (v:Nat)]
theorem fm_g1:∀l:List Nat,l.flatMap g1D=nsD l
 |[]=>rfl
 |v::l=>by rw[Ck,fm_g1 l];rfl
theorem g1D_len(v:Nat):(g1D v).length=1:=rfl
theorem fm_len:∀{A:List (List Nat×List Rw)},(∀a∈A,a.1.length<=8)->(A.flatMap (·.1)).length<=A.length*8
 |[],_=>AK _
 |a::A,h=>by
  have h1:=h a (AZ ..);have h2:=fm_len λb hb=>h b (Bm _ hb);rw[Ck,AL,AT];omega
theorem used_eq(A:List (List Nat×List Rw)):setG icmp (intL (A.flatMap (·.1)))=zCi A:=by
 unfold zCi intL;rw[List.map_flatMap]
set_option maxHeartbeats 8000000 in
theorem zG5(A:List (List Nat×List Rw))(h:AtW A):∃b:Bool,(b=Ab↔∃τ,SatA A τ)/\Pure Ao 38 [.row (A.flatMap atN) A.length] [] (bD b):=by
 have hA5:=h.l;have hd:=dense_ok h;obtain⟨b,hb,htot⟩:=totalA_c hd;refine⟨b,hb.trans dense_sat,?_⟩;clear hb;have hfa:=zRu (A.map (renA (zGn A))) (by rw[Al];omega) (λa ha=>by
  have h1:=zB0 (A:=a.1) ⟨hd.asc a ha,λv hv=>by have:=hd.lt a ha v hv;have:=hd.n8;omega⟩;have h2:=hd.few a ha;exact⟨by omega,by omega,λr hr=>by have:=hd.len a ha r hr;omega⟩)
 rw[Al]at hfa htot;have hV8:∀a∈A,a.1.length<=32:=λa ha=>zB0 (A:=a.1) ⟨h.asc a ha,λv hv=>by have:=h.lt a ha v hv;omega⟩;have hl:=fm_len (A:=A) λa ha=>by
  have h3:=zP4 (intL a.1) 0 (by
   unfold intL;rw[BV];exact(h.asc a ha).imp λh=>by omega) λx hx=>by
    obtain⟨v,hv,rfl⟩:=Aq.1 hx
    have:=h.lt a ha v hv
    omega
  rw[show(intL a.1).length=a.1.length by simp[intL]]at h3;exact h3
 have hU:=used_eq A;have hU8:=zVo h;have hUm:∀a∈A,∀v∈a.1,((v:Nat):Int)∈zCi A:=λa ha v hv=>zEr.2 ⟨a,ha,v,hv,rfl⟩;have hUn:(zCi A).Nodup:=used_asc.imp λh e=>by omega
 have e1:∀l:List Nat,(intL l).map intD=nsD l:=λl=>by simp[intL]
 have e2:∀l:List Nat,(intL l).length=l.length:=λl=>by simp[intL]
 have hdf:∀v:Nat,zGn A v=(zCi A).idxOf ((v:Nat):Int):=λ_=>rfl;refine zH Tsq_ok mixed Tryz.func38 rfl<|zB<|zA rfl<|v0s<|veT<|zB<|zA rfl<|ve (True/\0<1/\1=1/\0<=16777216/\0<=9223372036854775807)<|zB<|zB<|zA rfl<|veT<|zF<|zAu (λ(i:Nat)(l:List Nat)=>fr 97 [(0,Ae (Ah atN A)<|Aa A),(2,bD Ac),(3,Aj 0 0 (Aa l) (Aa l) Ab),(18,Ae (Ah atN A)<|Aa A),(19,iD (Aa A:Int)),(20,iD (i:Int))]) (λ(i:Nat)(l:List Nat)=>[iaK<|nsD l]) (λi l=>A.length-i) (λ(i:Nat)(l:List Nat)=>i<=A.length/\l=(A.take i).flatMap (·.1)) 0 [] ?_ ?_ ?_
 ·exact⟨by omega,rfl⟩
 ·refine vk 1
 rintro i l ⟨i1,i2⟩;have hll:l.length<=40:=by
  have h3:((A.take i).flatMap (·.1)).length<=(A.flatMap (·.1)).length:=by
   conv=>rhs;rw[<-CL i A,BE,AL]
   omega
  rw[i2];omega
 have hlc:(nsD l).length=l.length:=Al ..
 rcases An i A.length with i3|i3
 ·have hg:=zFi zAk A i i3;have hle:=zDd zAk A i i3;have hne:=zDc zAk (by decide) A;have htk:=zAr A i i3;have hv:=hV8 _ (zAc A Af i i3);have hsn:(A.take (i+1)).flatMap (·.1)=l++(A.getD i Af).1:=by rw[htk,BE,<-i2,B7]
  generalize A.getD i Af=a at*;obtain⟨V,R⟩:=a;have hva:=zHe V _ rfl;simp only at hv hsn;refine zB<|zA rfl<|v0s<|veT<|zB<|vT ((i:Int)<(Aa A:Int))<|zL<|zC<|zD<|zB<|zF<|zB<|zA rfl<|vr 1 (ix (i:Int) (Aa A:Int) (Ah atN A≠[]))<|vs 22 (AB<|Ag (Ak (i:Int)*3)<|Ah atN A) (AB (Ae (Ad (λ(v:Nat)=>iD (v:Int)) V) (Aa V)::iD (Aa V:Int)::Ae (Ad rowV R) (Aa R)::Ah atN (Ag (i+1) A))) (hd:=by simp(disch:=omega) only[AA,AO,AS,hg])<|ve (3<=Aa (Ae (Ad (λ(v:Nat)=>iD (v:Int)) V) (Aa V)::iD (Aa V:Int)::Ae (Ad rowV R) (Aa R)::Ah atN (Ag (i+1) A))/\Ac=Ac/\Ab=Ab/\3=3/\3<=3)<|zA rfl<|vr 5 (True/\0<3/\A_ (iaK<|nsD l)=Ab/\Aa (AD<|iaK<|nsD l)=Aa l*1/\Aa l=Aa l*1/\A6 (iaK<|nsD l)=3/\A7 (iaK<|nsD l)=1/\Aa (Ad (λ(v:Nat)=>iD (v:Int)) V)=Aa V*1/\0<1/\0<8/\3=3/\(Aa l+Aa V)*8<=140737488355328/\1=1/\A0 (AF<|iaK<|nsD l)=Ac/\(Ac=Ac\/A1 (AF<|iaK<|nsD l)=Ab))<|vs 3 (Aj 0 0 (Aa l+Aa V) ((Aa l+Aa V)*1) Ab) (Aj 0 0 (Aa l+Aa V) (Aa l+Aa V) Ab) (hd:=by simp(disch:=omega) only[A8])<|vnil<|zE<|zC<|zD<|zA rfl<|vr 2 (i6 ((i:Int)+(1:Int)))<|vnil<|zC<|⟨i+1,l++V,⟨by omega,hsn.symm⟩,by omega,?_⟩;rw[show nsD (l++V)=nsD l++nsD V from Bd,AL];refine vk 1
 rw[AN i3]at i2;have hso:=sort_iY (intL l) 0 l.length Ab [⟨(intL l).map intD,3,1,Ab,Ac, .plain⟩] rfl (e2 l) (by omega);rw[e1]at hso;have hco:=zYn (intL l) 0 l.length Ab [⟨(zFh icmp (intL l)).map intD,3,1,Ab,Ac, .plain⟩] rfl (e2 l) (by omega);rw[i2,hU,<-i2]at hco;generalize zFh icmp (intL l)=srt at*;refine zB<|zA rfl<|v0s<|veT<|zB<|vF ((i:Int)<(Aa A:Int))<|zV<|zM<|zM<|zS rfl<|zC<|zD<|zB<|zA rfl<|vrT 1<|vnt [iaK<|nsD l]<|zAz [] [] [Aj 0 0 (Aa l) (Aa l) Ab] [Aj 0 0 (Aa l) (Aa l) Ab] (LeL.refl _) (by exact hso) ?_;refine v0s<|veT<|zB<|zA rfl<|vrT 1<|vnt [Az (Ad intD srt) 3 1 Ab Ac AC]<|zAz [] [] [Aj 0 0 (Aa l) (Aa l) Ab] [Aj 0 0 (Aa l) (Aa l) Ab] (LeL.refl _) (by exact hco) ?_;refine v0s<|veT<|zB<|zA rfl<|veT<|zB<|zB<|zA rfl<|veT<|zF ?_;have hdf2:zGn A=λv:Nat=>(zCi A).idxOf ((v:Nat):Int):=rfl;generalize zGn A=fD at*;generalize zCi A=U at*;obtain⟨tl,htl⟩:∃tl,tl=AI (l.length-U.length) (intD 0):=⟨_,rfl⟩;rw[<-htl];refine zQ (λ(i:Nat)=>fr 97 [(0,Ae (Ah atN A)<|Aa A),(2,bD Ac),(3,Aj 0 0 (Aa U) (Aa U) Ab),(6,D.mref 1),(34,Aj 0 0 (Aa U) (Aa U) Ab),(35,iD (Aa U:Int)),(36,iD (i:Int))]) (λ(i:Nat)=>[iaK (U.map intD++tl),mapZ<|U.take i]) (λi=>U.length-i) (λ(i:Nat)=>i<=U.length) 0 ?_ ?_ ?_
 ·omega
 ·refine vk 2
 rintro k k1;have hkl:(U.take k).length=k:=by rw[AU];omega
 rcases An k U.length with k2|k2
 ·have hx:((U.map intD++tl).drop k).headD .unk=intD (U.getD k 0):=by
   rw[List.drop_append_of_le_length (by rw[Al];omega)]
   have:=zHp U k k2
   rw[BK (by simpa using k2)]at this⊢;exact this
  have hne:U.map intD++tl≠[]:=λe=>by
   have h9:=(List.append_eq_nil_iff.1 e).1;rw[List.map_eq_nil_iff]at h9;rw[h9]at k2;cases k2
  have htk:U.take (k+1)=U.take k++[U.getD k 0]:=by
   rw[Bp k2,Am,Aw k2];rfl
  have hno:U.getD k 0∉U.take k:=λhm=>by
   obtain⟨j,hj,e⟩:=BY hm;rw[hkl]at hj;rw[List.getElem_take]at e;have e3:U.getD k 0=U[k]:=by rw[Am,Aw k2];rfl
   rw[e3]at e
   have:=(CG.1 hUn) j k (by omega) k2 hj
   exact this e
  have hmp:=mput_iv (U.take k) (U.getD k 0) hno;rw[hkl,<-htk]at hmp;generalize U.getD k 0=z at*;focus
   refine zB (zA rfl (v0s (veT (zB (vT ((k:Int)<(Aa U:Int)) (zL (zC (zD (zB (zF (zB (zA rfl (vr 2 ((0:Int)<=(k:Int)/\(k:Int)<(Aa U:Int)) (vo 39 0 (k) (vr 1 (0<Aa (Ag k (AD (iaK (Ad intD U++tl))))) (vsh 40 hx (veT (zA rfl (vwh 4 [] [] (Bw (mapZ (Ai k U))=Ac/\zT (Cl (Cn (Co AY) "int" 1 8 Ac 8 8 (Ax (As AY (0:Int))) Ab #[])) (As AY z)=Ab/\List.all (Ad ivV (Ai k U)) (zT (Cl (Cn (Co AY) "int" 1 8 Ac 8 8 (Ax (As AY (0:Int))) Ab #[])))=Ab/\¬1∈[]) ?_ ?_)))))))))))))))))));rotate_left;refine vb 1 (mput (mapZ (Ai k U)) (Ad ivV (Ai k U)) (As AY z) (iD (k:Int))) (mapZ (Ai (k+1) U)) (hd:=by simp(disch:=omega) only[hmp]) (vnil (zE (zC (zD (zA rfl (vr 2 (i6 ((k:Int)+(1:Int))) (vnil (zC ?_))))))));rotate_left
  ·exact⟨rfl,rfl,fits_iv _,by decide⟩
  refine⟨k+1,by omega,by omega,?_⟩;refine vk 2
 obtain rfl:k=U.length:=by omega
 rw[A5];have r0:repL A.length zAt=filG atN zAt [] A.length:=zW9 A.length;refine zB<|zA rfl<|v0s<|veT<|zB<|vF ((Aa U:Int)<(Aa U:Int))<|zV<|zM<|zM<|zS rfl<|zC<|zD<|zB<|zA rfl<|ve ((0:Int)<=(Aa A:Int)/\(Aa A:Int)<=(Aa A:Int)/\(↑(56:Nat):Int)*(Aa A:Int)<=(281474976710656:Int)/\(Aa A:Int)<=(281474976710656:Int)/\0<3/\3=3)<|zB<|zB<|zA rfl<|veT<|zF<|zQ (λ(i:Nat)=>fr 97 [(2,bD Ac),(3,Aj 0 0 (Aa U) (Aa U) Ab),(6,D.mref 1),(9,Aj 2 0 (Aa A) (Aa A*3) Ab),(48,Ae (Ah atN A)<|Aa A),(49,iD (Aa A:Int)),(50,iD (i:Int))]) (λ(i:Nat)=>[iaK (U.map intD++tl),mapZ U,atK<|filG atN zAt ((A.take i).map<|renA fD) A.length]) (λi=>A.length-i) (λ(i:Nat)=>i<=A.length) 0 ?_ ?_ ?_
 ·omega
 ·refine vk 3
 rintro q q1;rcases An q A.length with q2|q2
 ·have hm:=zAc A Af q q2;have hg:=zFi zAk A q q2;have hle:=zDd zAk A q q2;have hne:=zDc zAk (by decide) A;have htk:=zAr A q q2;have hv:=hV8 _ hm;have hum:=hUm _ hm;have hlt:((A.take q).map (renA fD)).length=q:=by rw[Al,AU];omega
  have hset:=zKi (z:=zAt) zAk rfl ((A.take q).map (renA fD)) A.length (renA fD (A.getD q Af)) (by omega);have hfl:=zKj (L:=(A.take q).map (renA fD)) (z:=zAt) (n:=A.length) zAk rfl (by omega);have hmp2:(A.take (q+1)).map (renA fD)=(A.take q).map (renA fD)++[renA fD (A.getD q Af)]:=by rw[htk,Bd];rfl
  rw[hlt,<-hmp2]at hset;generalize A.getD q Af=a at*;obtain⟨V,R⟩:=a;simp only at hv hum;generalize (A.take q).map (renA fD)=L at*;have r1:repL V.length [iD 0]=filG g1D [iD 0] [] V.length:=zW9 V.length;refine zB<|zA rfl<|v0s<|veT<|zB<|vT ((q:Int)<(Aa A:Int))<|zL<|zC<|zD<|zB<|zF<|zB<|zA rfl<|vr 2 (ix (q:Int) (Aa A:Int) (Ah atN A≠[]))<|vs 53 (AB<|Ag (Ak (q:Int)*3)<|Ah atN A) (AB (Ae (Ad (λ(v:Nat)=>iD (v:Int)) V) (Aa V)::iD (Aa V:Int)::Ae (Ad rowV R) (Aa R)::Ah atN (Ag (q+1) A))) (hd:=by simp(disch:=omega) only[AA,AO,AS,hg])<|ve (3<=Aa (Ae (Ad (λ(v:Nat)=>iD (v:Int)) V) (Aa V)::iD (Aa V:Int)::Ae (Ad rowV R) (Aa R)::Ah atN (Ag (q+1) A))/\Ac=Ac/\Ab=Ab/\3=3/\3<=3)<|zB<|zA rfl<|vr 5 (True/\0<3/\(0:Int)<=(Aa V:Int)/\(Aa V:Int)<=(Aa V:Int)/\(↑(8:Nat):Int)*(Aa V:Int)<=(281474976710656:Int)/\(Aa V:Int)<=(281474976710656:Int)/\0<1/\1=1)<|vs 12 (Aj 4 0 (Ak (Aa V:Int)) (Ak (Aa V:Int)*1) Ab) (Aj 4 0 (Aa V) (Aa V) Ab) (hd:=by simp(disch:=omega) only[AA,A8])<|veT<|zB<|zB<|zA rfl<|ve (True/\0<3)<|zF<|zQ (λ(j:Nat)=>fr 97 [(2,bD Ac),(3,Aj 0 0 (Aa U) (Aa U) Ab),(6,D.mref 1),(9,Aj 2 0 (Aa A) (Aa A*3) Ab),(10,iD (q:Int)),(11,AH 3 0),(12,Aj 4 0 (Aa V) (Aa V) Ab),(48,Ae (Ah atN A)<|Aa A),(49,iD (Aa A:Int)),(50,iD (q:Int)),(60,Ae (Ad (λ(v:Nat)=>iD (v:Int)) V)<|Aa V),(61,iD (Aa V:Int)),(62,iD (j:Int))]) (λ(j:Nat)=>[iaK (U.map intD++tl),mapZ U,atK<|filG atN zAt L A.length,at1 (.row (nsD V) V.length) (.row (R.map rowV) R.length) (V.length:Nat),iaK<|filG g1D [iD 0] ((V.take j).map fD) V.length]) (λj=>V.length-j) (λ(j:Nat)=>j<=V.length) 0 ?_ ?_ ?_
  ·omega
  ·refine vk 5
  rintro j j1;have hjl:((V.take j).map fD).length=j:=by rw[Al,AU];omega
  have hfj:=zKj (L:=(V.take j).map fD) (z:=[iD 0]) (n:=V.length) g1D_len rfl (by omega);rcases An j V.length with j2|j2
  ·have hx:=zAp V j j2;have hn1:nsD V≠[]:=zAb;have htv:V.take (j+1)=V.take j++[V.getD j 0]:=by
    rw[Bp j2,Am,Aw j2];rfl
   have hs2:=zKi (z:=[iD 0]) g1D_len rfl ((V.take j).map fD) V.length (fD (V.getD j 0)) (by omega);have hlk:=look_iv U ((V.getD j 0:Nat):Int) (hum _ (zAc V 0 j j2));have hmv:(V.take (j+1)).map fD=(V.take j).map fD++[fD (V.getD j 0)]:=by rw[htv,Bd];rfl
   rw[hjl,<-hmv,A8]at hs2;have hfv:fD (V.getD j 0)=U.idxOf ((V.getD j 0:Nat):Int):=by rw[hdf2]
   rw[<-hfv]at hlk;generalize V.getD j 0=v at*;generalize fD v=w at*;focus
    refine zB (zA rfl (v0s (veT (zB (vT ((j:Int)<(Aa V:Int)) (zL (zC (zD (zB (zF (zB (zA rfl (vr 2 (ix (j:Int) (Aa V:Int) (Ad (λ(v:Nat)=>iD (v:Int)) V≠[])) (vp 65 (j) (Ad (λ(v:Nat)=>iD (v:Int)) V) (vr 1 (0<Aa (Ag j (Ad (λ(v:Nat)=>iD (v:Int)) V))) (vsh 66 hx (veT (zA rfl (vwh 5 [] [] (zT (Cl (Cn (Co AY) "int" 1 8 Ac 8 8 (Ax (As AY (0:Int))) Ab #[])) (As AY (v:Int))=Ab/\List.all (Ad ivV U) (zT (Cl (Cn (Co AY) "int" 1 8 Ac 8 8 (Ax (As AY (0:Int))) Ab #[])))=Ab) ?_ ?_)))))))))))))))))));rotate_left;refine vsh 71 hlk (vr 1 ((0:Int)<=(j:Int)/\(j:Int)<(Aa V:Int)) (vo 72 4 (j) ?_));refine vwh 1 [] [] (Bw (iaK (filG g1D [iD 0] (Ad fD (Ai j V)) (Aa V)))=Ac/\Ab=Ab/\1=1/\j+1<=Aa (AD (iaK (filG g1D [iD 0] (Ad fD (Ai j V)) (Aa V))))/\¬4∈[]) ?_ ?_;rotate_left;refine vnil (zE (zC (zD (zA rfl (vr 2 (i6 ((j:Int)+(1:Int))) (vnil (zC ?_)))))));rotate_left
   ·exact⟨rfl,fits_iv _⟩
   ·exact⟨rfl,rfl,rfl,(by show j+1<=(filG g1D [iD 0] ((V.take j).map fD) V.length).length;rw[hfj];omega),by decide⟩
   refine⟨j+1,by omega,by omega,?_⟩;refine wkn (fr 97 [(2,bD Ac),(3,Aj 0 0 (Aa U) (Aa U) Ab),(6,D.mref 1),(9,Aj 2 0 (Aa A) (Aa A*3) Ab),(10,iD (q:Int)),(11,AH 3 0),(12,Aj 4 0 (Aa V) (Aa V) Ab),(13,iD (j:Int)),(14,iD (v:Int)),(48,Ae (Ah atN A) (Aa A)),(49,iD (Aa A:Int)),(50,iD (q:Int)),(60,Ae (Ad (λ(v:Nat)=>iD (v:Int)) V) (Aa V)),(61,iD (Aa V:Int)),(62,iD (↑(j+1):Int)),(67,Aj 4 0 (Aa V) (Aa V) Ab),(68,iD (j:Int)),(69,D.mref 1),(70,iD (v:Int)),(71,iD (w:Int)),(72,AH 4 j),(73,iD (↑(j+1):Int))]) [iaK (Ad intD U++tl),mapZ U,atK (filG atN zAt L (Aa A)),at1 (Ae (nsD V) (Aa V)) (Ae (Ad rowV R) (Aa R)) (Aa V:Int),Az (Bc (filG g1D [iD 0] (Ad fD (Ai j V)) (Aa V)) j (iD (w:Int))) (3:TypeId) 1 Ab Ac AC] ?_;rw[show(filG g1D [iD 0] ((V.take j).map fD) V.length).set j (iD (w:Nat))=filG g1D [iD 0] ((V.take (j+1)).map fD) V.length from hs2];refine vk 5
  obtain rfl:j=V.length:=by omega
  rw[A5]at hfj hjl⊢;have hal:=zKk (g:=g1D) (z:=[iD 0]) (V.map fD);rw[Al]at hal;have hfm:(V.map fD).flatMap g1D=nsD (V.map fD):=fm_g1 (V.map fD);rw[hfm]at hal;rw[hal]at hfj⊢;have hns:(nsD (V.map fD)).take V.length=nsD (V.map fD):=AN (by simp);refine zB<|zA rfl<|v0s<|veT<|zB<|vF ((Aa V:Int)<(Aa V:Int))<|zV<|zM<|zM<|zS rfl<|zC<|zD<|zA rfl<|vr 7 (True/\2<=2/\((1=1/\1<=3/\2=2/\3<=3/\True)/\Ab=Ab)/\(0:Int)<=(q:Int)/\(q:Int)<(Aa A:Int))<|vo0 80 2 (q*3)<|vr 1 (Bw (atK<|filG atN zAt L<|Aa A)=Ac/\Ab=Ab/\3=3/\q*3+3<=Aa (AD<|atK<|filG atN zAt L<|Aa A)/\¬2∈[4])<|vb 2 (Az (setAt (AD<|atK<|filG atN zAt L<|Aa A) (q*3) [Ae (Ai (Aa V)<|Ag 0<|AD<|iaK<|nsD<|Ad fD V)<|Aa V,iD (Aa V:Int),Ae (Ad rowV R)<|Aa R]) (A6<|atK<|filG atN zAt L<|Aa A) (A7<|atK<|filG atN zAt L<|Aa A) Ab Ac<|AF<|atK<|filG atN zAt L<|Aa A) (Az (Bc (Bc (Bc (filG atN zAt L<|Aa A) (q*3)<|Ae (nsD<|Ad fD V)<|Aa V) (q*3+1)<|iD (Aa V:Int)) (q*3+1+1)<|Ae (Ad rowV R)<|Aa R) (45:TypeId) 3 Ab Ac AC) (hd:=by simp(disch:=omega) only[setAt,AJ,hns])<|vnil<|zE<|zC<|zD<|zA rfl<|vr 2 (i6 ((q:Int)+(1:Int)))<|vnil<|zC<|⟨q+1,by omega,by omega,?_⟩;refine wkn (fr 97 [(2,bD Ac),(3,Aj 0 0 (Aa U) (Aa U) Ab),(6,D.mref 1),(9,Aj 2 0 (Aa A) (Aa A*3) Ab),(10,iD (q:Int)),(11,AH 3 0),(12,Aj 4 0 (Aa V) (Aa V) Ab),(48,Ae (Ah atN A) (Aa A)),(49,iD (Aa A:Int)),(50,iD (↑(q+1):Int)),(60,Ae (Ad (λ(v:Nat)=>iD (v:Int)) V) (Aa V)),(61,iD (Aa V:Int)),(62,iD (Aa V:Int)),(63,bD (decide ((Aa V:Int)<(Aa V:Int)))),(74,Aj 2 0 (Aa A) (Aa A*3) Ab),(75,iD (q:Int)),(76,Aj 4 0 (Aa V) (Aa V) Ab),(77,AH 3 1),(78,Ar [iD (Aa V:Int),Ae (Ad rowV R) (Aa R)]),(79,Ar [Aj 4 0 (Aa V) (Aa V) Ab,iD (Aa V:Int),Ae (Ad rowV R) (Aa R)]),(80,AH 2 (q*3)),(81,iD (↑(q+1):Int))]) [iaK (Ad intD U++tl),mapZ U,Az (Bc (Bc (Bc (filG atN zAt L (Aa A)) (q*3) (Ae (nsD (Ad fD V)) (Aa V))) (q*3+1) (iD (Aa V:Int))) (q*3+1+1) (Ae (Ad rowV R) (Aa R))) (45:TypeId) 3 Ab Ac AC,at1 (Ae (nsD V) (Aa V)) (Ae (Ad rowV R) (Aa R)) (Aa V:Int),Az (nsD (Ad fD V)) (3:TypeId) 1 Ab Ab AC] ?_;rw[show(((filG atN zAt L A.length).set (q*3) (Ae (nsD (V.map fD)) V.length)).set (q*3+1) (iD (V.length:Nat))).set (q*3+1+1) (Ae (R.map rowV) R.length)=filG atN zAt ((A.take (q+1)).map (renA fD)) A.length from by
   rw[<-hset];show _=setAt _ _ [Ae (nsD (V.map fD)) (V.map fD).length,iD ((V.map fD).length:Nat),_];rw[Al];rfl]
  refine vk 3
 obtain rfl:q=A.length:=by omega
 rw[A5];have ha:=zKk (g:=atN) (z:=zAt) (A.map (renA fD));rw[Al]at ha;have ht:=zFg zAk (A.map (renA fD)) A.length (by rw[Al]);rw[ha];refine zB<|zA rfl<|v0s<|veT<|zB<|vF ((Aa A:Int)<(Aa A:Int))<|zV<|zM<|zM<|zS rfl<|zC<|zD<|zB<|zA rfl<|vr 5 (True/\Ab=Ab)<|vcl [Ae (Ai (Aa A*3)<|Ag 0<|AD<|atK<|Ah atN<|Ad (renA fD) A)<|Aa A] [Ae (Ah atN<|Ad (renA fD) A)<|Aa A] (BQ (by simp(disch:=omega) only[AJ,ht])) (by exact hfa)<|vc (htot)<|ve (0<2/\1<2)<|zB<|zA rfl<|veT<|zJ<|vret (True)<|.inr rfl
end
def memL(s:Nat):List Int:=((Ap 32).filter λi=>s.testBit i).map λi:Nat=>(i:Int)
theorem memL_mem{s i:Nat}:((i:Nat):Int)∈memL s↔i<32/\s.testBit i=true:=by
 unfold memL;rw[Aq];constructor
 ·rintro⟨j,hj,e⟩;obtain⟨h1,h2⟩:=AP.1 hj;have:j=i:=by omega
  subst this;exact⟨A2.1 h1,h2⟩
 rintro⟨h1,h2⟩;exact⟨i,AP.2 ⟨A2.2 h1,h2⟩,rfl⟩
def bstS(o:Option (List Int))(l:List Int):Option (List Int):=match o with
 |none=>Ax l
 |some b=>if lcmp l b<0 then Ax l else Ax b
def FstL(L:List (List Int))(o:Option (List Int)):Prop:=match o with
 |none=>L=[]
 |some b=>b∈L/\∀l∈L,¬lcmp l b<0
theorem bst_step{L:List (List Int)}{o:Option (List Int)}(h:FstL L o)(l:List Int):FstL (L++[l]) (bstS o l):=by
 cases o with
 |none=>
  have h:L=[]:=h;subst h;refine⟨A4.2 rfl,λk hk=>?_⟩;rw[A4.1 hk,(zPk l l).2 rfl];omega
 | some b=>
  obtain⟨h1,h2⟩:=h;unfold bstS;by_cases hlt:lcmp l b<0
  ·dsimp only;rw[if_pos hlt];refine⟨Ce _ (A4.2 rfl),λk hk hkl=>?_⟩;rcases Bs.1 hk with hk|hk
   ·exact h2 k hk (lcmp_tr k l b hkl hlt)
   rw[A4.1 hk,(zPk l l).2 rfl]at hkl;omega
  dsimp only;rw[if_neg hlt];refine⟨B0 _ h1,λk hk=>?_⟩;rcases Bs.1 hk with hk|hk
  ·exact h2 k hk
  rw[A4.1 hk];exact hlt
theorem fst_uniq{L M:List (List Int)}(hm:∀l,l∈L↔l∈M){o p:Option (List Int)}(h:FstL L o)(k:FstL M p):o=p:=by
 cases o with
 | none=>
  have h:L=[]:=h;cases p with
  |none=>rfl
  |some c=>
   have:=(hm c).2 k.1
   rw[h]at this;cases this
 | some b=>
  cases p with
  |none=>
   have k:M=[]:=k
   have:=(hm b).1 h.1
   rw[k]at this;cases this
  |some c=>
   have h1:=h.2 c ((hm c).2 k.1);have h2:=k.2 b ((hm b).1 h.1);have h3:=zWx b c;have:lcmp b c=0:=by omega
   rw[(zPk b c).1 this]
def lvlZ(b:Nat->Bool):Nat->Int
 |0=>if b 0 then 0 else-1
 |n+1=>if b (n+1)then((n+1:Nat):Int)else lvlZ b n
theorem zM8{b c:Nat->Bool}:∀(n:Nat),(∀i,i<=n->b i=c i)->lvlZ b n=lvlZ c n
 |0,h=>by unfold lvlZ;rw[h 0 (AK 0)]
 |n+1,h=>by
  unfold lvlZ;rw[h (n+1) (AK _),zM8 n λi hi=>h i (by omega)]
section
open Go.RowKit
attribute [local irreducible] seqW awp zW zY zR Weak updS zZ retL Pure Acts rP setP setQ cP nP fr
set_option maxRecDepth 4096
noncomputable def ansB (n:Nat) (A:List (List Nat×List Rw)) (p:Rw):Bool:=@decide (Ans n A p) (BH _)
theorem zSh{n:Nat}{A:List (List Nat×List Rw)}{p:Rw}:ansB n A p=Ab↔Ans n A p:=by
 unfold ansB;exact@decide_eq_true_iff _ (BH _)
theorem AtOk.r{n:Nat}{A:List (List Nat×List Rw)}(h:AtOk n A):AtR A where
 l:=by have:=h.l;omega
 v a ha:=zB0 (A:=a.1) ⟨h.asc a ha,λv hv=>by have:=h.lt a ha v hv;have:=h.n8;omega⟩
 w a ha v hv:=by have:=h.lt a ha v hv;have:=h.n8;omega
 r a ha:=by have:=h.few a ha;omega
 k a ha r hr:=⟨h.len a ha r hr,Bb.2 λv hv=>(h.val a ha r hr v hv).1⟩
theorem sat_c{n:Nat}{A:List (List Nat×List Rw)}(h:AtOk n A){p:Rw}(hp:p.length<=n):Pure Ao 38 [.row ((A.map (zBe p)).flatMap atN) A.length] [] (bD (ansB n A p)):=by
 obtain⟨b,hb,hs⟩:=zG5 _ (h.rest hp).w;rw[Al]at hs;have e:b=ansB n A p:=by
  rw[Bt,hb,zSh,zGx hp h.lt];constructor
  ·rintro⟨τ,hτ⟩;exact⟨τ,(zF6 h.len τ).1 hτ⟩
  rintro⟨τ,hτ⟩;exact⟨τ,(zF6 h.len τ).2 hτ⟩
 rw[<-e];exact hs
theorem lvlZ_at{b:Nat->Bool}{i:Nat}(hb:b i=Ab):∀{n:Nat},i<=n->(∀j,i<j->j<=n->b j=Ac)->lvlZ b n=(i:Nat)
 |0,hi,_=>by
  obtain rfl:i=0:=by omega
  unfold lvlZ;rw[if_pos hb];rfl
 | n+1,hi,hn=>by
  unfold lvlZ;rcases An i (n+1)with h|h
  ·rw[hn (n+1) h (AK _),if_neg (by decide)];exact lvlZ_at hb (by omega) λj h1 h2=>hn j h1 (by omega)
  obtain rfl:i=n+1:=by omega
  rw[if_pos hb]
theorem zRi{b:Nat->Bool}:∀{n:Nat},(∀j,j<=n->b j=Ac)->lvlZ b n=-1
 |0,hn=>by
  unfold lvlZ;rw[hn 0 (AK 0),if_neg (by decide)]
 |n+1,hn=>by
  unfold lvlZ;rw[hn (n+1) (AK _),if_neg (by decide)];exact zRi λj hj=>hn j (by omega)
abbrev inpA(x0 x1 x2 x3:D)(A:List (List Nat×List Rw)):List D:=[x0,x1,x2,x3, .row (A.flatMap atN) A.length]
set_option maxHeartbeats 2000000 in
theorem level_c(n:Nat)(A:List (List Nat×List Rw))(h:AtOk n A)(z0 z1:Int)(cs2 cs3:List D)(m2 m3:Nat)(r:Rw)(hr:r.length<=n):Pure Ao 34 [.agg (inpA (iD z0) (iD z1) (.row cs2 m2) (.row cs3 m3) A),rowV r] [] (iD (lvlZ (λi=>ansB n A (r.take i)) r.length)):=by
 have hn8:=h.n8;refine zH zAf mixed Tryz.func34 rfl<|zB<|zA rfl<|v0s<|veT<|zB<|zB<|zA rfl<|veT<|zF<|zQ (λ(k:Nat)=>fr 20 [(1,rowV r),(2,AH 0 0),(5,iD ((k:Int)-(1:Int)))]) (λ(k:Nat)=>[⟨inpA (iD z0) (iD z1) (.row cs2 m2) (.row cs3 m3) A,32,0,Ac,Ac,.plain⟩]) (λ(k:Nat)=>k) (λ(k:Nat)=>k<=r.length+1/\∀i,k<=i->i<=r.length->ansB n A (r.take i)=Ac) (r.length+1) ?_ ?_ ?_
 ·exact⟨AK _,λi h1 h2=>by omega⟩
 ·rw[show((r.length+1:Nat):Int)-1=(r.length:Nat) by omega];refine vk 1
 rintro k ⟨k1,k2⟩;rcases Nat.eq_zero_or_pos k with h0|h0
 ·subst h0;rw[zRi λj hj=>k2 j (BC _) hj];refine zB<|zB<|zA rfl<|v0s<|veT<|vf<|zV<|zM<|zM<|zS rfl<|zC<|zD<|zB<|zA rfl<|veT<|zJ<|vret (True)<|.inr rfl
 obtain⟨i,rfl⟩:∃i,k=i+1:=⟨k-1,by omega⟩;have e1:((i+1:Nat):Int)-1=(i:Nat):=by omega
 have hpl:(r.take i).length=i:=by rw[AU];omega
 have hre:=zEa A h.r (r.take i) (by omega);have hsa:=sat_c h (p:=r.take i) (by omega);have hct:=zMi r i;rw[show rowV (r.take i)= .row (zK (r.take i)) i by show Ae _ (r.take i).length=_;rw[hpl]]at hre;have hcl:=zAj r;rw[e1];cases hb:ansB n A (r.take i)
 ·rw[hb]at hsa;refine zB<|zB<|zA rfl<|v0s<|veT<|vT ((i:Int)>=(0:Int))<|zL<|zC<|zD<|zB<|zF<|zB<|vd [0,2,3,4,1,5,6]<|vr 4 (True/\True/\(0:Int)<=(i:Int)/\True/\0<3/\0<=Ak (i:Int)/\Ak (i:Int)<=Aa r/\Ak (i:Int)=Ak (i:Int))<|vs 16 (Ae (Ai ((Ak (i:Int)-0)*3)<|Ag 0<|zK r) (Ak (i:Int)-0)) (Ae (zK<|Ai i r) i) (hd:=by simp(disch:=omega) only[AA,Nat.sub_zero,AJ,hct])<|vr 1 (0<1)<|vc (hre)<|vc (hsa)<|veT<|vf<|zL<|zE<|zC<|zD<|zA rfl<|vr 3 (i6 ((i:Int)-(1:Int)))<|vnil<|zC<|⟨i,⟨by omega,λj h1 h2=>?_⟩,by omega,?_⟩
  ·rcases An i j with h3|h3
   ·exact k2 j (by omega) h2
   obtain rfl:j=i:=by omega
   exact hb
  refine vk 1
 rw[hb]at hsa;rw[lvlZ_at (b:=λi=>ansB n A (r.take i)) hb (by omega) λj h1 h2=>k2 j (by omega) h2];refine zB<|zB<|zA rfl<|v0s<|veT<|vT ((i:Int)>=(0:Int))<|zL<|zC<|zD<|zB<|zF<|zB<|vd [0,2,3,4,1,5,6]<|vr 4 (True/\True/\(0:Int)<=(i:Int)/\True/\0<3/\0<=Ak (i:Int)/\Ak (i:Int)<=Aa r/\Ak (i:Int)=Ak (i:Int))<|vs 16 (Ae (Ai ((Ak (i:Int)-0)*3)<|Ag 0<|zK r) (Ak (i:Int)-0)) (Ae (zK<|Ai i r) i) (hd:=by simp(disch:=omega) only[AA,Nat.sub_zero,AJ,hct])<|vr 1 (0<1)<|vc (hre)<|vc (hsa)<|veT<|vt<|zB<|zA rfl<|veT<|zJ<|zN<|zG<|zG<|zN ?_;refine zG<|vret (True)<|.inr rfl
def LstV(A:List (List Nat×List Rw))(x:Va):Prop:=(∃τ,τ 0=x/\SatA A τ)/\∀τ,SatA A τ->x=τ 0\/rcmp [x] [τ 0]<0
theorem least_c(n:Nat)(A:List (List Nat×List Rw))(h:AtOk n A)(h0:0<n):(∃x,LstV A x/\Pure Ao 40 [iD (n:Nat), .row (A.flatMap atN) A.length] [] (.tup [vaD x,bD Ab]))\/((¬∃τ,SatA A τ)/\Pure Ao 40 [iD (n:Nat), .row (A.flatMap atN) A.length] [] (.tup [vaD ⟨0,0,[]⟩,bD Ac])):=by
 have hl5:=h.l;have hn8:=h.n8;obtain⟨m,m1,m2,m3,hm⟩:=leastA_c h h0;have hfa:=zRu A (by omega) (λa ha=>by
  have h1:=h.r.v a ha;have h2:=h.few a ha;exact⟨by omega,by omega,λr hr=>by have:=h.len a ha r hr;omega⟩)
 obtain⟨B,l⟩:=m;have m2:B=[0]:=m2;subst m2;rcases l with _|⟨p,l⟩
 ·refine .inr ⟨λ⟨τ,hτ⟩=>?_,?_⟩
  ·have:=(m3 (τ 0)).2 ⟨τ,rfl,hτ⟩
   cases this
  refine zH zAf mixed Tryz.func40 rfl<|zB<|zA rfl<|v0s<|veT<|zB<|zA rfl<|vr 4 (True/\Ab=Ab)<|vc (hfa)<|vc (hm)<|ve (0<2/\1<2/\Ac=Ac/\Ab=Ab/\3=3/\3<=3)<|zB<|zB<|zA rfl<|ve (True/\True/\0<2/\True)<|vt<|zB<|zA rfl<|ve ((True/\Ab=Ab)/\Ac=Ac/\Ab=Ab/\3=3/\3<=3)<|zJ<|zG<|vret (3<=3)<|.inr rfl
 have hp:p.1.length=1:=m1.len p (AZ ..);obtain⟨row,b⟩:=p;obtain⟨x,rfl⟩:∃x,row=[x]:=List.length_eq_one_iff.1 hp
 ·refine .inl ⟨x,⟨(m3 x).1 (AZ ..),λτ hτ=>?_⟩,?_⟩
  ·have h1:=(m3 (τ 0)).2 ⟨τ,rfl,hτ⟩;obtain⟨q,hq,e⟩:=Aq.1 h1;rcases AR.1 hq with rfl|hq
   ·have e:[x]=[τ 0]:=e;exact .inl (List.cons.inj e).1
   have h2:=(Bh.1 m1.srt).1 q hq;have h2:rcmp [x] q.1<0:=h2;rw[e]at h2;exact .inr h2
  obtain⟨xk,xi,xs⟩:=x;refine zH zAf mixed Tryz.func40 rfl<|zB<|zA rfl<|v0s<|veT<|zB<|zA rfl<|vr 4 (True/\Ab=Ab)<|vc (hfa)<|vc (hm)<|ve (0<2/\1<2/\Ac=Ac/\Ab=Ab/\3=3/\3<=3)<|zB<|zB<|zA rfl<|vew [] [(8,Ac)] (True/\True/\0<2/\True/\((↑(Aa l+1):Int)==(0:Int))=Ac/\True/\0<2/\ix (0:Int) (↑(Aa l+1):Int) (zAg (([BI xk xi xs],b)::l)≠[])/\0<Aa (zAg (([BI xk xi xs],b)::l))/\True) ?_;refine vf<|zL<|zC<|zD<|zB<|zA rfl<|ve (True/\0<2/\ix (0:Int) (↑(Aa l+1):Int) (zAg (([BI xk xi xs],b)::l)≠[])/\0<Aa (zAg (([BI xk xi xs],b)::l))/\ix (0:Int) (↑(1:Nat):Int) ([iD xk,iD xi,Av<|Cp<|bs xs]≠[])/\3<=3/\Ac=Ac/\Ab=Ab/\3=3/\3<=3)<|zJ<|vret (3<=3)<|.inr rfl
theorem chosA_len(A:List (List Nat×List Rw))(s:Nat):(zD2 A s).length<=A.length:=by
 unfold zD2;rw[Al]
 have:=Bq (λi=>s.testBit i) (Ap A.length)
 rw[Ca]at this;exact this
theorem chosA_sub(A:List (List Nat×List Rw))(s:Nat):∀b∈zD2 A s,b∈A:=λb hb=>by
 obtain⟨i,hi,rfl⟩:=Aq.1 hb;have h1:=A2.1 (AP.1 hi).1;rw[Am,Aw h1];exact Bg h1
theorem satC_c{A:List (List Nat×List Rw)}(h:AtW A)(s:Nat):Pure Ao 38 [.row ((zD2 A s).flatMap atN) (zD2 A s).length] [] (bD (alB A s)):=by
 obtain⟨b,hb,hs⟩:=zG5 _ (h.sub (AE (chosA_len A s) h.l) (chosA_sub A s));have e:b=alB A s:=by
  rw[Bt,hb,zSk];constructor
  ·rintro⟨τ,hτ⟩;exact⟨τ,sat_chos.1 hτ⟩
  rintro⟨τ,hτ⟩;exact⟨τ,sat_chos.2 hτ⟩
 rw[<-e];exact hs
section
variable (x0 : Int) (z1 : Int) (cs2 cs3 : List D) (m2 m3 : Nat) (A : List (List Nat × List Rw)) (r : Rw) (lev : Int) (xs : List Int)
end
theorem dif_le(a b:Nat):dif a b<=a:=sub_le (zPx a b)
end
section
open Go.RowKit
set_option maxRecDepth 100000
section
variable {B : Nat}
theorem arg_row{d:D}(hB:B<=2000000)(h:ArgB Ao B 29 d):∃r:Rw,d=rowV r/\r.length<=B/\∀a∈r,Vt a:=by
 obtain⟨n,h1⟩:=h.cell (by kernel_rfl);obtain⟨r,e,h2,h3⟩:=in_rowB hB h1;injection e with e;exact⟨r,e,h2,h3⟩
end
end
section
open Go.RowKit
section
variable (vr : Nat → Nat) (n : Nat)
def cst(p:Nat×Nat×Bool)(j:Nat):Nat×Nat×Bool:=if p.1.testBit j=Ac/\vr j&&&p.2.1≠0 then(p.1|||2^j,p.2.1|||vr j,Ab)else p
def csts(m:Nat)(p:Nat×Nat×Bool):Nat×Nat×Bool:=(Ap m).foldl (cst vr) p
theorem zR1(m:Nat)(p:Nat×Nat×Bool):csts vr (m+1) p=cst vr (csts vr m p) m:=by
 unfold csts;rw[BA,BU];rfl
def crnd:Nat->Nat->Nat->Option (Nat×Nat)
 |0,_,_=>AX
 |k+1,P,S=>if(csts vr n (P,S,Ac)).2.2 then crnd k (csts vr n (P,S,Ac)).1 (csts vr n (P,S,Ac)).2.1 else Ax ((csts vr n (P,S,Ac)).1,(csts vr n (P,S,Ac)).2.1)
structure CI(P S:Nat):Prop where
 lt:∀j,P.testBit j=Ab->j<n
 s:∀b,S.testBit b=Ab↔∃j,P.testBit j=Ab/\(vr j).testBit b=Ab
variable {vr n}
theorem zM6{P j i:Nat}:(P|||2^j).testBit i=(P.testBit i||decide (j=i)):=by rw[A9,BD]
theorem CI.add{P S j:Nat}(h:CI vr n P S)(hj:j<n):CI vr n (P|||2^j) (S|||vr j):=by
 refine⟨λi hi=>?_,λb=>?_⟩
 ·rw[zM6,Bf,decide_eq_true_eq]at hi;rcases hi with hi|rfl
  ·exact h.lt i hi
  exact hj
 rw[A9,Bf,h.s];constructor
 ·rintro(⟨i,h1,h2⟩|h1)
  ·exact⟨i,by rw[zM6,h1];rfl,h2⟩
  exact⟨j,by rw[zM6];simp,h1⟩
 rintro⟨i,h1,h2⟩;rw[zM6,Bf,decide_eq_true_eq]at h1;rcases h1 with h1|rfl
 ·exact .inl ⟨i,h1,h2⟩
 exact .inr h2
theorem CI.one{i:Nat}(hi:i<n):CI vr n (2^i) (vr i):=by
 refine⟨λj hj=>?_,λb=>⟨λh=>⟨i,by simp,h⟩,λ⟨j,h1,h2⟩=>?_⟩⟩
 ·rw[BD,decide_eq_true_eq]at hj;omega
 rw[BD,decide_eq_true_eq]at h1;rw[h1];exact h2
theorem zTr{P S:Nat}(h:CI vr n P S):∀m,m<=n->CI vr n (csts vr m (P,S,Ac)).1 (csts vr m (P,S,Ac)).2.1/\Sub P (csts vr m (P,S,Ac)).1/\((csts vr m (P,S,Ac)).2.2=Ac->(csts vr m (P,S,Ac)).1=P/\(csts vr m (P,S,Ac)).2.1=S/\∀j,j<m->P.testBit j=Ab\/vr j&&&S=0)/\((csts vr m (P,S,Ac)).2.2=Ab->(csts vr m (P,S,Ac)).1≠P)
 |0,_=>⟨h,Sub.refl _,λ_=>⟨rfl,rfl,λj hj=>by omega⟩,λe=>by cases e⟩
 | m +1,hm=>by
  obtain⟨h1,h2,h3,h4⟩:=zTr h m (by omega);rw[zR1];generalize csts vr m (P,S,Ac)=q at*;obtain⟨Q,T,g⟩:=q;simp only at h1 h2 h3 h4;unfold cst;by_cases hc:Q.testBit m=Ac/\vr m&&&T≠0
  ·rw[if_pos hc];refine⟨h1.add (by omega),λi hi=>by show(Q|||2^m).testBit i=Ab;rw[zM6,h2 i hi];rfl,λe=>(by cases e),λ_ e=>?_⟩;have e:Q|||2^m=P:=e;have h5:P.testBit m=true:=by rw[<-e,zM6];simp
   have h6:=h2 m h5;rw[hc.1]at h6;cases h6
  rw[if_neg hc];refine⟨h1,h2,λhg=>?_,h4⟩;obtain⟨e1,e2,h5⟩:=h3 hg;have e1:Q=P:=e1;have e2:T=S:=e2;subst e1;subst e2;refine⟨rfl,rfl,λj hj=>?_⟩;rcases An j m with h6|h6
  ·exact h5 j h6
  obtain rfl:j=m:=by omega
  cases hb:Q.testBit j
  ·right;apply BM;intro h7;exact hc ⟨hb,h7⟩
  exact .inl rfl
def CP(vr:Nat->Nat)(n P:Nat):Prop:=(∀j,P.testBit j=Ab->j<n)/\∀i j,j<n->P.testBit i=Ab->P.testBit j=Ac->vr j&&&vr i=0
theorem zM9{P n:Nat}(h:∀j,P.testBit j=Ab->j<n):P<2^n:=by
 apply Nat.lt_pow_two_of_testBit;intro i hi;cases hb:P.testBit i
 ·rfl
 have:=h i hb;omega
theorem sub_lt'{P Q:Nat}(h:Sub P Q)(hne:Q≠P):P<Q:=by
 have:=sub_le h
 omega
theorem crnd_ex:∀(k P S:Nat),CI vr n P S->2^n-P<k->∃Q T,crnd vr n k P S=Ax (Q,T)/\CP vr n Q/\Sub P Q
 |0,P,S,_,hk=>by omega
 | k +1,P,S,h,hk=>by
  obtain⟨h1,h2,h3,h4⟩:=zTr h n (AK _);unfold crnd;cases hg:(csts vr n (P,S,Ac)).2.2
  ·obtain⟨e1,e2,h5⟩:=h3 hg;rw[if_neg (by decide),e1,e2];refine⟨P,S,rfl,⟨h.lt,λi j hj hi hjP=>?_⟩,Sub.refl _⟩;rcases h5 j hj with h6|h6
   ·rw[h6]at hjP;cases hjP
   refine zVe.2 λb hb=>?_;cases h7:(vr i).testBit b
   ·rfl
   have:=zVe.1 h6 b hb
   rw[(h.s b).2 ⟨i,hi,h7⟩]at this;cases this
  rw[if_pos rfl];have h5:=h4 hg;have h6:=sub_lt' h2 h5;have h7:=zM9 h1.lt;obtain⟨Q,T,k1,k2,k3⟩:=crnd_ex k _ _ h1 (by omega);exact⟨Q,T,k1,k2,h2.trans k3⟩
variable (vr n)
def zL9(i:Nat):Nat:=((crnd vr n (2^n+1) (2^i) (vr i)).getD (0,0)).1
def cmp1(p:Nat×List Nat)(i:Nat):Nat×List Nat:=if p.1.testBit i then p else(p.1|||zL9 vr n i,p.2++[zL9 vr n i])
def cmps(m:Nat):Nat×List Nat:=(Ap m).foldl (cmp1 vr n) (0,[])
theorem zR9(m:Nat):cmps vr n (m+1)=cmp1 vr n (cmps vr n m) m:=by
 unfold cmps;rw[BA,BU];rfl
variable {vr n}
theorem zXe{i:Nat}(hi:i<n):(∃T,crnd vr n (2^n+1) (2^i) (vr i)=Ax (zL9 vr n i,T))/\CP vr n (zL9 vr n i)/\(zL9 vr n i).testBit i=true:=by
 have hp:0<2^i:=Cq i;obtain⟨Q,T,h1,h2,h3⟩:=crnd_ex (2^n+1) (2^i) (vr i) (CI.one hi) (Nat.lt_succ_of_le (Nat.sub_le _ _));have e:zL9 vr n i=Q:=by
  unfold zL9;rw[h1];rfl
 rw[e];exact⟨⟨T,h1⟩,h2,h3 i (by simp)⟩
theorem zTy:∀m,m<=n->(∀P∈(cmps vr n m).2,CP vr n P)/\(∀i,(cmps vr n m).1.testBit i=Ab↔∃P∈(cmps vr n m).2,P.testBit i=Ab)/\(∀i,i<m->(cmps vr n m).1.testBit i=Ab)/\(cmps vr n m).2.length<=m/\(cmps vr n m).1<2^n
 |0,_=>⟨λP h=>(by cases h),λi=>⟨λh=>(by rw[show(cmps vr n 0).1=0 from rfl,BF]at h;cases h),λ⟨P,h,_⟩=>(by cases h)⟩,λi h=>(by omega),AK _,Cq n⟩
 | m +1,hm=>by
  obtain⟨h1,h2,h3,h4,h5⟩:=zTy m (by omega);obtain⟨_,k2,k3⟩:=zXe (vr:=vr) (n:=n) (i:=m) (by omega);rw[zR9];unfold cmp1;generalize cmps vr n m=q at*;cases hb:q.1.testBit m
  ·rw [if_neg (by decide)];refine⟨λP hP=>?_,λi=>?_,λi hi=>?_,by simp;omega,Nat.or_lt_two_pow h5 (zM9 k2.1)⟩
   ·rcases Bs.1 hP with hP|hP
    ·exact h1 P hP
    rw[A4.1 hP];exact k2
   ·show(q.1|||zL9 vr n m).testBit i=Ab↔∃P∈q.2++[zL9 vr n m],P.testBit i=Ab;rw[A9,Bf,h2];constructor
    ·rintro(⟨P,hP,h⟩|h)
     ·exact⟨P,B0 _ hP,h⟩
     exact⟨_,Ce _ (A4.2 rfl),h⟩
    rintro⟨P,hP,h⟩;rcases Bs.1 hP with hP|hP
    ·exact .inl ⟨P,hP,h⟩
    rw[A4.1 hP]at h;exact .inr h
   show(q.1|||zL9 vr n m).testBit i=Ab;rw[A9,Bf];rcases An i m with h6|h6
   ·exact .inl (h3 i h6)
   obtain rfl:i=m:=by omega
   exact .inr k3
  rw[if_pos rfl];refine⟨h1,h2,λi hi=>?_,by omega,h5⟩;rcases An i m with h6|h6
  ·exact h3 i h6
  obtain rfl:i=m:=by omega
  exact hb
end
def zDs(A:List (List Nat×List Rw)):List Nat:=(cmps (λi=>msk (A.getD i Af).1) A.length A.length).2
theorem zQ5(A:List (List Nat×List Rw)):(∀P∈zDs A,ClosP A P/\Sub P (2^A.length-1))/\(∀i,i<A.length->∃P∈zDs A,P.testBit i=Ab)/\(zDs A).length<=A.length:=by
 obtain⟨h1,h2,h3,h4,h5⟩:=zTy (vr:=λi=>msk (A.getD i Af).1) (n:=A.length) A.length (AK _);refine⟨λP hP=>⟨λi j hi hj hPi hPj v hv hv2=>?_,λi hi=>?_⟩,λi hi=>(h2 i).1 (h3 i hi),h4⟩
 ·have:=(h1 P hP).2 i j hj hPi hPj
  have h6:=zVe.1 this v (by rw[zBz];exact decide_eq_true hv2);rw[zBz,decide_eq_true hv]at h6;cases h6
 rw[BT];exact decide_eq_true ((h1 P hP).1 i hi)
end
def kput(ks:List Nat)(s:Nat):List Nat:=if s∈ks then ks else ks++[s]
def zDb(ks:List Nat)(l:List Nat):List Nat:=l.foldl kput ks
theorem zGb(ks l:List Nat)(s:Nat):zDb ks (l++[s])=kput (zDb ks l) s:=by
 unfold zDb;rw[BU];rfl
def idxK(al:Nat->Bool)(sets ks:List Nat):List Nat:=match sets.findIdx? al with
 |none=>zDb ks sets
 |some i=>zDb ks (sets.take (i+1))
def gstep(al:Nat->Bool)(part:Nat)(p:Nat×List Nat)(i:Nat):Nat×List Nat:=
 if dif (part&&&2^i) p.1=0 then p else if al (p.1|||dif (part&&&2^i) p.1)then(p.1|||dif (part&&&2^i) p.1,kput p.2 (p.1|||dif (part&&&2^i) p.1))else(p.1,kput p.2 (p.1|||dif (part&&&2^i) p.1))
def zLz(al:Nat->Bool)(part:Nat)(l:List Nat)(p:Nat×List Nat):Nat×List Nat:=l.foldl (gstep al part) p
theorem zTg(al:Nat->Bool)(part:Nat)(l:List Nat)(p:Nat×List Nat)(i:Nat):zLz al part (l++[i]) p=gstep al part (zLz al part l p) i:=by
 unfold zLz;rw[BU];rfl
theorem zW8{al:Nat->Bool}{part:Nat}:∀(l:List Nat)(p:Nat×List Nat),(zLz al part l p).1=zEk al part l p.1
 |[],p=>rfl
 | i::l,p=>by
  show(zLz al part l (gstep al part p i)).1=_;rw[zW8 l,show zEk al part (i::l) p.1=if dif (part&&&2^i) p.1≠0/\al (p.1|||dif (part&&&2^i) p.1)=Ab then zEk al part l (p.1|||dif (part&&&2^i) p.1)else zEk al part l p.1 from rfl];unfold gstep;by_cases h1:dif (part&&&2^i) p.1=0
  ·rw[if_pos h1,if_neg (λh=>h.1 h1)]
  rw[if_neg h1];cases h2:al (p.1|||dif (part&&&2^i) p.1)
  ·rw[if_neg (by decide),if_neg (λh=>by cases h.2)]
  rw[if_pos rfl,if_pos ⟨h1,rfl⟩]
def confK(al:Nat->Bool)(part:Nat):Nat->List Nat->List Nat->Option (List Nat×List Nat)
 |0,_,_=>AX
 |k+1,sets,ks=>match sets.find? al with
  |none=>Ax (sets,idxK al sets ks)
  |some s=>confK al part k (zDy sets (dif part (zEk al part (Ap 32) s))) (zLz al part (Ap 32) (s,idxK al sets ks)).2
theorem zXi{al:Nat->Bool}{part:Nat}{r:List Nat}:∀(k:Nat)(sets ks:List Nat),zJ6 al part k sets=Ax r->∃ks',confK al part k sets ks=Ax (r,ks')
 |0,sets,ks,h=>by cases h
 | k+1,sets,ks,h=>by
  unfold zJ6 at h;unfold confK;split at h
  ·rename_i h0;cases h;try rw [h0]
   exact⟨_,rfl⟩
  rename_i s h0;try rw [h0]
  exact zXi k _ _ h
theorem zKh{kept:List Nat}{o s:Nat}:∀{l:List Nat},l.Nodup->(zA6 kept o s l).Nodup
 |[],_=>List.nodup_nil
 | i ::l,hn=>by
  obtain⟨h1,h2⟩:=B3.1 hn;unfold zA6;split
  ·exact zKh h2
  rename_i hne;split
  ·exact zKh h2
  refine B3.2 ⟨λhm=>?_,zKh h2⟩;obtain⟨j,hj,e,_⟩:=zCp hm;have hi:s.testBit i=Ac/\o.testBit i=true:=by
   apply BM;intro hh;apply hne;apply BG;intro q;rw[A9,A3,BD];by_cases hq:i=q
   ·subst hq;cases h3:s.testBit i<;>cases h4:o.testBit i<;>simp_all
   simp[hq]
  have h3:=congrArg (λn=>n.testBit i) e;simp only[A9,A3,BD]at h3;rw[hi.1,hi.2]at h3;have hij:j≠i:=λe=>h1 (e▸hj);simp[hij]at h3
theorem zRo{kept:List Nat}{o s g:Nat}{l:List Nat}(h:g∈zA6 kept o s l)(hs:s&&&o=0):dif g o=s:=by
 obtain⟨i,_,rfl,_⟩:=zCp h;apply BG;intro j;have h2:=congrArg (λn=>n.testBit j) hs;simp only[A3,BF]at h2;rw[zBs,A9,A3];cases h3:s.testBit j<;>cases h4:o.testBit j<;>simp_all
theorem meet_nd{sets:List Nat}(o:Nat)(h:sets.Nodup):(zDy sets o).Nodup:=by
 unfold zDy;refine List.nodup_append.2 ⟨h.filter _,?_,λa ha b hb e=>?_⟩
 ·refine List.pairwise_flatMap.2 ⟨λs hs=>zKh List.nodup_range,?_⟩;refine((h.filter λs=>s&&&o==0).imp_of_mem ?_);intro a b ha hb hne x hx y hy e;subst e;have h1:=zRo hx (by simpa using(AP.1 ha).2);have h2:=zRo hy (by simpa using(AP.1 hb).2);exact hne (h1.symm.trans h2)
 subst e;obtain⟨s,_,hg⟩:=Bu.1 hb;exact zHr hg a ha (Sub.refl a)
theorem zL0{kept:List Nat}{o s:Nat}:∀(l:List Nat),(zA6 kept o s l).length<=l.length
 |[]=>AK _
 | i::l=>by
  unfold zA6
  have:=zL0 (kept:=kept) (o:=o) (s:=s) l
  simp only[AT];split
  ·omega
  split
  ·omega
  simp only[AT];omega
theorem find_aa{al:Nat->Bool}:∀{sets:List Nat}{p:Nat},p<sets.length->al (sets.getD p 0)=Ab->(∀j,j<p->al (sets.getD j 0)=Ac)->sets.find? al=Ax (sets.getD p 0)/\sets.findIdx? al=Ax p
 |[],p,hp,_,_=>by cases hp
 |a::l,0,_,h1,_=>by
  have h1:al a=true:=h1;refine⟨?_,?_⟩
  ·rw[List.find?_cons_of_pos h1];rfl
  rw[CK,if_pos h1]
 |a::l,p+1,hp,h1,h2=>by
  have h0:al a=false:=h2 0 (by omega);obtain⟨k1,k2⟩:=find_aa (sets:=l) (p:=p) (by simpa using hp) (by simpa using h1) (λj hj=>by simpa using h2 (j+1) (by omega));refine⟨?_,?_⟩
  ·rw[List.find?_cons_of_neg (by rw[h0];decide),k1];rfl
  rw[CK,if_neg (by rw[h0];decide),k2];rfl
theorem find_nn{al:Nat->Bool}{sets:List Nat}(h:∀j,j<sets.length->al (sets.getD j 0)=Ac):sets.find? al=AX/\sets.findIdx? al=none:=by
 have hm:∀s∈sets,al s=false:=λs hs=>by
  obtain⟨j,hj,rfl⟩:=BY hs
  have:=h j hj
  rwa[Am,Aw hj]at this
 exact⟨B_.2 λs hs=>by rw[hm s hs];decide,List.findIdx?_eq_none_iff.2 hm⟩
theorem fst_or(f:Nat->Bool):∀l:List Nat,(∃p,p<l.length/\f (l.getD p 0)=Ab/\∀j,j<p->f (l.getD j 0)=Ac)\/∀j,j<l.length->f (l.getD j 0)=Ac
 |[]=> .inr λj h=>by cases h
 | a::l=>by
  cases ha:f a
  ·rcases fst_or f l with⟨p,h1,h2,h3⟩|h
   ·refine .inl ⟨p+1,by simpa using h1,by simpa using h2,λj hj=>?_⟩;match j,hj with
    |0,_=>exact ha
    |j+1,hj=>simpa using h3 j (by omega)
   refine .inr λj hj=>?_;match j,hj with
   |0,_=>exact ha
   |j+1,hj=>simpa using h j (by simpa using hj)
  exact .inl ⟨0,by simp,ha,λj hj=>by omega⟩
theorem zNe(kept:List Nat)(o s:Nat):∀(l:List Nat)(i:Nat),zA6 kept o s (l++[i])=zA6 kept o s l++(if s|||(o&&&2^i)=s then[]else if kept.any (λk=>dif k (s|||(o&&&2^i))==0)then[]else[s|||(o&&&2^i)])
 |[],i=>by
  show zA6 kept o s [i]=_;unfold zA6;split
  ·rfl
  split<;>rfl
 | j::l,i=>by
  have ih:=zNe kept o s l i;have e:∀l',zA6 kept o s (j::l')=if s|||(o&&&2^j)=s then zA6 kept o s l' else if kept.any (λk=>dif k (s|||(o&&&2^j))==0)then zA6 kept o s l' else(s|||(o&&&2^j))::zA6 kept o s l':=λl'=>rfl
  rw[AO,e,e,ih];split
  ·rfl
  split
  ·rfl
  rfl
theorem zPs{α β:Type}(f:α->List β)(c:Nat)(h:∀a,(f a).length<=c):∀l:List α,(l.flatMap f).length<=c*l.length
 |[]=>BC _
 |a::l=>by
  rw[Ck,AL,AT,Nat.mul_succ];have h1:=zPs f c h l;have h2:=h a;omega
theorem cnf_few{al:Nat->Bool}{part:Nat}{Cs sets:List Nat}(h:Cnf al part Cs sets)(hn:sets.Nodup):sets.length<=part+1:=zPf part sets hn λs hs=>sub_le (h.sub s hs)
theorem zXh{al:Nat->Bool}{part:Nat}:∀(k:Nat)(Cs sets r:List Nat),Cnf al part Cs sets->sets.Nodup->zJ6 al part k sets=Ax r->r.length<=part+1
 |0,_,_,_,_,_,h=>by cases h
 | k+1,Cs,sets,r,hc,hn,h=>by
  unfold zJ6 at h;split at h
  ·injection h with h;rw[<-h];exact cnf_few hc hn
  rename_i s h0;exact zXh k _ _ r (zKn hc (BX h0)) (meet_nd _ hn) h
section
open Go.RowKit
noncomputable def cflA (A:List (List Nat×List Rw)) (P:Nat):List Nat:=if alB A P then[]else(zJ6 (alB A) P (P+2) [0]).getD []
noncomputable def zP3 (A:List (List Nat×List Rw)):Option (List Int):=(((zDs A).flatMap (cflA A)).map memL).foldl bstS AX
theorem zPq:∀(l L:List (List Int))(o:Option (List Int)),FstL L o->FstL (L++l) (l.foldl bstS o)
 |[],L,o,h=>by rw[BS];exact h
 |a::l,L,o,h=>by
  have:=zPq l (L++[a]) (bstS o a) (bst_step h a)
  rwa[B8]at this
theorem zT7(A:List (List Nat×List Rw)){P:Nat}(hP:P<2^32)(m:Nat):m∈cflA A P↔MinC (alB A) P m:=by
 unfold cflA;split
 ·rename_i ha;refine⟨λh=>(by cases h),λh=>?_⟩
  have:=zKu A m P h.1 ha
  rw[h.2.1]at this;cases this
 obtain⟨r,hr,_⟩:=zMa (P+2) [] [0] (zEm (alB A) P) (by show P+1-0<P+2;omega);rw[hr];exact zXg (zKu A) hP (P+2) [] [0] r (zEm (alB A) P) (mht_start P) (λC hC=>by cases hC) hr m
theorem bestA_ok(A:List (List Nat×List Rw))(hl:A.length<=32):∃L,FstL L (zP3 A)/\∀l,l∈L↔∃m,MinC (alB A) (2^A.length-1) m/\l=memL m:=by
 obtain⟨h1,h2,_⟩:=zQ5 A;refine⟨((zDs A).flatMap (cflA A)).map memL,?_,λl=>?_⟩
 ·have:=zPq (((zDs A).flatMap (cflA A)).map memL) [] AX rfl
  rwa[AS]at this
 have hp:=λm=>minc_part (A:=A) (parts:=zDs A) (full:=2^A.length-1) (λi=>by rw[BT,decide_eq_true_eq]) h1 h2 m;have h32:∀P∈zDs A,P<2^32:=λP hP=>by
  have h3:=sub_le (h1 P hP).2;have h4:2^A.length<=2^32:=Bx (by omega) hl
  have:=Cq A.length
  omega
 constructor
 ·intro h;obtain⟨m,hm,rfl⟩:=Aq.1 h;obtain⟨P,hP,hm⟩:=Bu.1 hm;exact⟨m,(hp m).2 ⟨P,hP,(zT7 A (h32 P hP) m).1 hm⟩,rfl⟩
 rintro⟨m,hm,rfl⟩;obtain⟨P,hP,hm⟩:=(hp m).1 hm;exact Aq.2 ⟨m,Bu.2 ⟨P,hP,(zT7 A (h32 P hP) m).2 hm⟩,rfl⟩
theorem bst_ne:∀(l:List (List Int))(o:Option (List Int)),(∀x∈l,0<x.length)->(∀b,o=Ax b->0<b.length)->∀b,l.foldl bstS o=Ax b->0<b.length
 |[],o,_,ho,b,h=>ho b h
 | a::l,o,hl,ho,b,h=>by
  refine bst_ne l (bstS o a) (λx hx=>hl x (Bm _ hx)) (λc hc=>?_) b h;unfold bstS at hc;split at hc
  ·injection hc with hc;rw[<-hc];exact hl a (AZ ..)
  split at hc
  ·injection hc with hc;rw[<-hc];exact hl a (AZ ..)
  exact ho c hc
theorem zT9:∀(l:List (List Int))(o:Option (List Int)),(∀x∈l,x.length<=32)->(∀b,o=Ax b->b.length<=32)->∀b,l.foldl bstS o=Ax b->b.length<=32
 |[],o,_,ho,b,h=>ho b h
 | a::l,o,hl,ho,b,h=>by
  refine zT9 l (bstS o a) (λx hx=>hl x<|Bm _ hx) (λc hc=>?_) b h;unfold bstS at hc;split at hc
  ·injection hc with hc;rw[<-hc];exact hl a (AZ ..)
  split at hc
  ·injection hc with hc;rw[<-hc];exact hl a (AZ ..)
  exact ho c hc
theorem zPh(s:Nat):(memL s).length<=32:=by
 unfold memL;rw[Al]
 have:=Bq (λi=>s.testBit i) (Ap 32)
 rw[Ca]at this;exact this
theorem memL_ne{s:Nat}(hs:s<2^32)(h0:s≠0):0<(memL s).length:=by
 obtain⟨i,hi⟩:=CH h0;have h32:i<32:=by
  rcases An i 32 with h|h
  ·exact h
  rw[CJ (Cg hs (Bx (by omega) h))]at hi;cases hi
 exact List.length_pos_of_mem (memL_mem.2 ⟨h32,hi⟩)
theorem cfl_ok(A:List (List Nat×List Rw)){P:Nat}(hP:P<2^32){s:Nat}(h:s∈cflA A P):s<2^32/\s≠0:=by
 obtain⟨h1,h2,_⟩:=(zT7 A hP s).1 h;refine⟨Cr (sub_le h1) hP,λe=>?_⟩;rw[e,alB_0]at h2;cases h2
def agrR(known:Rw)(V:List Nat)(r:Rw):Bool:=(Ap V.length).all λk=>decide (V.getD k 0<known.length->r.getD k Af=known.getD (V.getD k 0) Af)
def alwR(known:Rw)(a:List Nat×List Rw):Bool:=a.2.any (agrR known a.1)
structure ValsOk(A:List (List Nat×List Rw))(vf:Nat->List Va):Prop where
 mem:∀v,(∃a∈A,v∈a.1)->∃a∈A,v∈a.1/\∀x,x∈vf v↔∃r∈a.2,r.getD (a.1.idxOf v) Af=x
def zA4(A:List (List Nat×List Rw))(vf:Nat->List Va):Nat->Rw->List Rw
 |0,known=>if A.all (alwR known)then[known]else[]
 |m+1,known=>if A.all (alwR known)then(vf known.length).flatMap λv=>zA4 A vf m (known++[v])else[]
section
variable {A : List (List Nat × List Rw)} {vf : Nat → List Va} (hl : ∀ a ∈ A, ∀ r ∈ a.2, r.length = a.1.length)
theorem agr_iff{known:Rw}{V:List Nat}{r:Rw}:agrR known V r=Ab↔∀k,k<V.length->V.getD k 0<known.length->r.getD k Af=known.getD (V.getD k 0) default:=by
 unfold agrR;rw[Bb];constructor
 ·intro h k hk;exact of_decide_eq_true (h k (A2.2 hk))
 intro h k hk;exact decide_eq_true (h k (A2.1 hk))
theorem zWt(f:Nat->Va)(V:List Nat)(k:Nat)(h:k<V.length):(V.map f).getD k Af=f (V.getD k 0):=by
 rw[Am,BL,Aw h,Am,Aw h];rfl
theorem alw_of{known y:Rw}(hy:y.take known.length=known)(hs:SatA A λv=>y.getD v Af):A.all (alwR known)=true:=by
 rw[Bb];intro a ha;refine Bo.2 ⟨_,hs a ha,agr_iff.2 λk hk hv=>?_⟩;rw[zWt _ _ _ hk];generalize a.1.getD k 0=j at hv⊢;have h:(y.take known.length)[j]?=known[j]?:=by rw[hy]
 rw[Cj,if_pos hv]at h;rw[Am,Am,h]
include hl
theorem zLt(hv:ValsOk A vf):∀(m:Nat)(known y:Rw),(∀a∈A,∀v∈a.1,v<known.length+m)->(∀v,known.length<=v->v<known.length+m->∃a∈A,v∈a.1)->(y∈zA4 A vf m known↔y.length=known.length+m/\y.take known.length=known/\SatA A λv=>y.getD v Af)
 | 0, known,y,hlt,_=>by
  unfold zA4;constructor
  ·intro h;split at h
   ·rename_i ha;rw[A4.1 h];refine⟨by omega,A5,λa haA=>?_⟩;obtain⟨r,hr,hag⟩:=Bo.1 (Bb.1 ha a haA);have e:a.1.map (λv=>known.getD v Af)=r:=by
     have hlr:=hl a haA r hr;apply List.ext_getElem (by rw[Al,hlr]);intro k h1 h2;rw[Al]at h1;have h3:=agr_iff.1 hag k h1 (by
      have:=hlt a haA (a.1.getD k 0) (by rw[Am,Aw h1];exact Bg h1)
      omega)
     rw[Am,Aw h2]at h3;rw[List.getElem_map];have h4:r[k]=known.getD (a.1.getD k 0) default:=h3;rw[h4,Am (l:=a.1),Aw h1];rfl
    rw[e];exact hr
   cases h
  rintro⟨h1,h2,h3⟩;have e:y=known:=by
   rw[<-h2,AN (by omega)]
  rw[if_pos (alw_of h2 h3),e];exact A4.2 rfl
 | m+1,known,y,hlt,hcv=>by
  unfold zA4;have hlen:∀v:Va,(known++[v]).length=known.length+1:=λv=>by simp
  have ih:=λv=>zLt hv m (known++[v]) y (λa ha w hw=>by rw[hlen];have:=hlt a ha w hw;omega) (λw h1 h2=>by rw[hlen]at h1 h2;exact hcv w (by omega) (by omega));have htk:∀v:Va,y.length=known.length+(m+1)->(y.take (known.length+1)=known++[v]↔y.take known.length=known/\y.getD known.length Af=v):=λv hy=>by
   rw[Bp (by omega),Am,Aw (by omega:known.length<y.length)];constructor
   ·intro h;obtain⟨h1,h2⟩:=List.append_inj h (by rw[AU];omega);exact⟨h1,by simpa using h2⟩
   rintro⟨h1,h2⟩;have h2:y[known.length]=v:=h2;rw[h1,h2]
  constructor
  ·intro h;split at h
   ·obtain⟨v,hvv,h⟩:=Bu.1 h;obtain⟨h1,h2,h3⟩:=(ih v).1 h;rw[hlen]at h1 h2;exact⟨by omega,((htk v (by omega)).1 h2).1,h3⟩
   cases h
  rintro⟨h1,h2,h3⟩;rw[if_pos (alw_of h2 h3)];refine Bu.2 ⟨y.getD known.length Af,?_,(ih _).2 ⟨by rw[hlen];omega,by rw[hlen];exact(htk _ h1).2 ⟨h2,rfl⟩,h3⟩⟩;obtain⟨a,ha,hva,hx⟩:=hv.mem known.length (hcv known.length (AK _) (by omega));refine(hx _).2 ⟨_,h3 a ha,?_⟩;have hi:=BP.2 hva;rw[zWt _ _ _ hi,Am (l:=a.1),Aw hi,B2,B6 hi]
end
def strR:List UInt8->List UInt8->Int
 |x::a,y::b=>if x<y then-1 else if y<x then 1 else strR a b
 |a,b=>(a.length:Int)-(b.length:Int)
theorem zKz{A B:Array UInt8}{i:Nat}(ha:i<A.size)(hb:i<B.size):strR (A.toList.drop i) (B.toList.drop i)=if A.getD i 0<B.getD i 0 then-1 else if B.getD i 0<A.getD i 0 then 1 else strR (A.toList.drop (i+1)) (B.toList.drop (i+1)):=by
 have ea:=BK (l:=A.toList) (i:=i) (by simpa using ha);have eb:=BK (l:=B.toList) (i:=i) (by simpa using hb);rw[ea,eb];simp[strR,Cb,ha,hb]
theorem strR_end{A B:List UInt8}{i:Nat}(h:i=A.length\/i=B.length)(h1:i<=A.length)(h2:i<=B.length):strR (A.drop i) (B.drop i)=(A.length:Int)-(B.length:Int):=by
 have e1:=Bn (i:=i) (l:=A);have e2:=Bn (i:=i) (l:=B);generalize A.drop i=X at*;generalize B.drop i=Y at*;match X,Y,e1,e2 with
 |[],Y,e1,e2=>simp only[strR,BO]at*;omega
 |x::X,[],e1,e2=>simp only[strR,BO]at*;omega
 |x::X,y::Y,e1,e2=>simp only[AT]at*;omega
theorem zQj:∀a b:List UInt8,(strR a b<0/\BN a b=-1)\/(strR a b=0/\BN a b=0)\/(0<strR a b/\BN a b=1)
 |[],[]=>by simp[strR,BN]
 |[],y::b=>by simp[strR,BN]<;>omega
 |x::a,[]=>by simp[strR,BN]<;>omega
 | x::a,y::b=>by
  have ih:=zQj a b;simp only[strR,BN];by_cases h1:x<y
  ·simp[h1]
  by_cases h2:y<x
  ·simp[h1,h2]
  simpa[h1,h2]using ih
def cntR(L:List Rw)(x:Rw):Nat:=(L.filter λy=>decide (rcmp y x<0)).length
def insR(L:List Rw)(x:Rw):List Rw:=if x∈L then L else L.take (cntR L x)++x::L.drop (cntR L x)
theorem zLx(L:List Rw)(x:Rw):cntR L x<=L.length:=Bq _ _
theorem zW3(L:List Rw)(r x:Rw):x∈insR L r↔x=r\/x∈L:=by
 unfold insR;split
 ·rename_i h;exact⟨.inr,λhh=>hh.elim (λe=>e▸h) id⟩
 conv=>rhs;rw[<-CL (cntR L r) L]
 simp only[Bs,AR];constructor
 ·rintro(h|h|h)
  ·exact .inr (.inl h)
  ·exact .inl h
  exact .inr (.inr h)
 rintro(h|h|h)
 ·exact .inr (.inl h)
 ·exact .inl h
 exact .inr (.inr h)
theorem insR_len(L:List Rw)(r:Rw):(insR L r).length<=L.length+1:=by
 have:=zLx L r
 unfold insR;split
 ·omega
 simp only[AL,AT,AU,Bn];omega
theorem zLa:∀{L:List Rw}(x:Rw),Rsc L->(∀y∈L.take (cntR L x),rcmp y x<0)/\(∀y∈L.drop (cntR L x),¬rcmp y x<0)
 |[],x,_=>⟨λy h=>(by cases h),λy h=>(by cases h)⟩
 | a::L,x,h=>by
  obtain⟨h1,h2⟩:=Bh.1 h;obtain⟨i1,i2⟩:=zLa x h2;unfold cntR at i1 i2⊢;by_cases ha:rcmp a x<0
  ·rw[List.filter_cons_of_pos (by rw[decide_eq_true ha]),AT];refine⟨λy hy=>?_,λy hy=>?_⟩
   ·rw[List.take_succ_cons]at hy;rcases AR.1 hy with rfl|hy
    ·exact ha
    exact i1 y hy
   rw[List.drop_succ_cons]at hy;exact i2 y hy
  have hz:L.filter (λy=>decide (rcmp y x<0))=[]:=List.filter_eq_nil_iff.2 λy hy hh=>by
   have:=of_decide_eq_true hh
   exact ha (zGr _ _ _ (h1 y hy) this)
  rw[List.filter_cons_of_neg (by rw[decide_eq_false ha];decide),hz];refine⟨λy hy=>(by cases hy),λy hy hh=>?_⟩;rw[BO,AJ]at hy;rcases AR.1 hy with rfl|hy
  ·exact ha hh
  exact ha (zGr _ _ _ (h1 y hy) hh)
theorem insR_rsc{L:List Rw}(r:Rw)(h:Rsc L):Rsc (insR L r):=by
 unfold insR;split
 ·exact h
 rename_i hne;obtain⟨hlt,hge⟩:=zLa r h;have hsp:Rsc (L.take (cntR L r)++L.drop (cntR L r)):=by rw[CL];exact h
 obtain⟨h1,h2,h3⟩:=List.pairwise_append.1 hsp;have hgt:∀x∈L.drop (cntR L r),rcmp r x<0:=λx hx=>by
  have hn:=hge x hx;obtain⟨c1,c2,c3⟩:=zA3 x r;have:rcmp x r≠0:=λe=>hne (c2.1 e▸Cv hx);omega
 exact List.pairwise_append.2 ⟨h1,Bh.2 ⟨hgt,h2⟩,λx hx y hy=>by
  rcases AR.1 hy with rfl|hy
  ·exact hlt x hx
  exact h3 x hx y hy⟩
def prjL(cols:List Nat)(R:List Rw):List Rw:=R.foldl (λL r=>insR L (cols.map λc=>r.getD c Af)) []
theorem prjL_snoc(cols:List Nat)(R:List Rw)(r:Rw):prjL cols (R++[r])=insR (prjL cols R) (cols.map λc=>r.getD c Af):=by
 unfold prjL;rw[BU];rfl
theorem prjL_ok(cols:List Nat):∀(R L:List Rw),Rsc L->(∀x∈L,x.length=cols.length)->Rsc (R.foldl (λL r=>insR L (cols.map λc=>r.getD c Af)) L)/\(R.foldl (λL r=>insR L (cols.map λc=>r.getD c Af)) L).length<=L.length+R.length/\(∀x,x∈R.foldl (λL r=>insR L (cols.map λc=>r.getD c Af)) L↔x∈L\/∃r∈R,cols.map (λc=>r.getD c Af)=x)/\∀x∈R.foldl (λL r=>insR L (cols.map λc=>r.getD c Af)) L,x.length=cols.length
 |[],L,h,hl=>⟨h,AK _,λx=>⟨.inl,λhh=>hh.elim id λ⟨r,hr,_⟩=>(by cases hr)⟩,hl⟩
 | r ::R,L,h,hl=>by
  obtain⟨h1,h2,h3,h4⟩:=prjL_ok cols R (insR L (cols.map λc=>r.getD c Af)) (insR_rsc _ h) λx hx=>by
   rcases(zW3 _ _ _).1 hx with rfl|hx
   ·exact Al _
   exact hl x hx
  refine⟨h1,?_,λx=>?_,h4⟩
  ·have:=insR_len L (cols.map λc=>r.getD c Af)
   rw[AT];exact AE h2 (by omega)
  rw[List.foldl_cons,h3,zW3];constructor
  ·rintro((rfl|hx)|⟨q,hq,e⟩)
   ·exact .inr ⟨r,AZ ..,rfl⟩
   ·exact .inl hx
   exact .inr ⟨q,Bm _ hq,e⟩
  rintro(hx|⟨q,hq,e⟩)
  ·exact .inl (.inr hx)
  rcases AR.1 hq with rfl|hq
  ·exact .inl (.inl e.symm)
  exact .inr ⟨q,hq,e⟩
theorem zM2(cols:List Nat)(R:List Rw):Rsc (prjL cols R)/\(prjL cols R).length<=R.length/\(∀x,x∈prjL cols R↔∃r∈R,cols.map (λc=>r.getD c Af)=x)/\∀x∈prjL cols R,x.length=cols.length:=by
 obtain⟨h1,h2,h3,h4⟩:=prjL_ok cols R [] Ch.nil λx hx=>(by cases hx);refine⟨h1,by rw[BO,B9]at h2;exact h2,λx=>(h3 x).trans ⟨λhh=>hh.elim (λe=>(by cases e)) id, .inr⟩,h4⟩
def valF(A:List (List Nat×List Rw))(v:Nat):List Va:=match A.find? λa=>decide (v∈a.1)with
 |none=>[]
 |some a=>(prjL [a.1.idxOf v] a.2).map λx=>x.getD 0 Af
theorem zZc(A:List (List Nat×List Rw)):ValsOk A (valF A):=by
 refine⟨λv hv=>?_⟩;obtain⟨a,ha,hva⟩:=hv;cases hf:A.find? λa=>decide (v∈a.1)with
 |none=>exact absurd hva (by simpa using B_.1 hf a ha)
 | some b=>
  have hb:=BX hf;have hvb:v∈b.1:=by simpa using List.find?_some hf
  refine⟨b,hb,hvb,λx=>?_⟩;unfold valF;rw[hf];obtain⟨_,_,h3,_⟩:=zM2 [b.1.idxOf v] b.2;simp only[Aq];constructor
  ·rintro⟨y,hy,rfl⟩;obtain⟨r,hr,rfl⟩:=(h3 y).1 hy;exact⟨r,hr,rfl⟩
  rintro⟨r,hr,rfl⟩;exact⟨_,(h3 _).2 ⟨r,hr,rfl⟩,rfl⟩
theorem zJ9(A:List (List Nat×List Rw))(h:∀a∈A,a.2.length<=10)(v:Nat):(valF A v).length<=10:=by
 unfold valF;split
 ·exact BC _
 rename_i b hf;rw[Al];exact AE (zM2 _ _).2.1 (h b (BX hf))
theorem zPm{A:List (List Nat×List Rw)}{vf:Nat->List Va}(h:∀v,(vf v).length<=10):∀(m:Nat)(known:Rw),(zA4 A vf m known).length<=10^m
 |0,known=>by
  unfold zA4;split
  ·exact AK _
  exact BC _
 | m +1,known=>by
  unfold zA4;split
  ·have key:∀l:List Va,(l.flatMap λv=>zA4 A vf m (known++[v])).length<=10^m*l.length:=λl=>by
    induction l with
    |nil=>exact BC _
    |cons v l ih=>
     rw[Ck,AL,AT,Nat.mul_succ]
     have:=zPm (A:=A) h m (known++[v])
     omega
   refine AE (key _) ?_;rw[Nat.pow_succ];exact CC _ (h _)
  exact BC _
def snB(B:List (List Nat×List Rw))(v:Nat):Bool:=B.any λa=>decide (v∈a.1)
def rkN(f:Nat->Bool)(v:Nat):Nat:=((Ap v).filter f).length
theorem zN4(f:Nat->Bool)(v:Nat):rkN f (v+1)=rkN f v+if f v then 1 else 0:=by
 unfold rkN;rw[BA,Br,AL,Bl];cases f v<;>rfl
theorem zV5(f:Nat->Bool):∀{a b:Nat},a<=b->rkN f a<=rkN f b:=λ{a b} h=>by
 induction h with
 |refl=>exact AK _
 |step _ ih=>rw[zN4];omega
theorem zZ8{f:Nat->Bool}{v n:Nat}(hv:v<n)(hf:f v=Ab):rkN f v<rkN f n:=by
 have h1:=zN4 f v;rw[hf,if_pos rfl]at h1;have h2:=zV5 f (a:=v+1) (b:=n) hv;omega
theorem zZ9{f:Nat->Bool}{v:Nat}:∀{n:Nat},v<n->f v=Ab->((Ap n).filter f)[rkN f v]?=Ax v
 |0,h,_=>by omega
 | n+1,h,hf=>by
  rw[BA,Br];rcases An v n with h1|h1
  ·rw[CR (zZ8 h1 hf)];exact zZ9 h1 hf
  obtain rfl:v=n:=by omega
  rw[CS (show((Ap v).filter f).length<=rkN f v from AK _)];show([v].filter f)[rkN f v-rkN f v]?=Ax v;rw[Nat.sub_self,List.filter_cons_of_pos hf];rfl
theorem zZ7{f:Nat->Bool}:∀{n k:Nat},k<rkN f n->∃v,v<n/\f v=Ab/\rkN f v=k
 |0,k,h=>by cases h
 | n+1,k,h=>by
  rw[zN4]at h;rcases An k (rkN f n)with h1|h1
  ·obtain⟨v,h2,h3,h4⟩:=zZ7 h1;exact⟨v,by omega,h3,h4⟩
  cases hf:f n
  ·rw[hf,if_neg (by decide)]at h;omega
  rw[hf,if_pos rfl]at h;exact⟨n,by omega,hf,by omega⟩
def renR(f:Nat->Bool)(a:List Nat×List Rw):List Nat×List Rw:=(a.1.map (rkN f),a.2)
def knK(f:Nat->Bool)(p:Rw)(n:Nat):Rw:=((Ap (min n p.length)).filter f).map λw=>p.getD w Af
theorem knK_len(f:Nat->Bool)(p:Rw)(n:Nat):(knK f p n).length=rkN f (min n p.length):=Al _
def alwS(B:List (List Nat×List Rw))(n:Nat)(p:Rw):List Rw:=zA4 (B.map (renR (snB B))) (valF (B.map (renR (snB B)))) (rkN (snB B) n-(knK (snB B) p n).length) (knK (snB B) p n)
theorem zZ2{A:List (List Nat×List Rw)}{s:Nat}{p:Rw}(hl:∀a∈A,∀r∈a.2,r.length=a.1.length)(τ:Nat->Va):SatS (A.map (zBe p)) s τ↔SatS A s (shf p τ):=by
 have key:∀i,i<A.length->(((A.map (zBe p)).getD i Af).1.map τ∈((A.map (zBe p)).getD i Af).2↔(A.getD i Af).1.map (shf p τ)∈(A.getD i Af).2):=λi hi=>by
  have e:(A.map (zBe p)).getD i Af=zBe p (A.getD i Af):=by
   rw[Am,BL,Aw hi,Am,Aw hi];rfl
  have hm:A.getD i Af∈A:=by rw[Am,Aw hi];exact Bg hi
  have h1:=zF6 (A:=[A.getD i Af]) (p:=p) (λa ha r hr=>by
   rw[A4.1 ha]at hr⊢;exact hl _ hm r hr) τ
  rw[e];constructor
  ·intro h;exact h1.1 (λa ha=>by
    have:a=zBe p (A.getD i Af):=by simpa using ha
    rw[this];exact h) _ (A4.2 rfl)
  intro h;exact h1.2 (λa ha=>by rw[A4.1 ha];exact h) _ (by simp)
 unfold SatS;rw[Al];exact⟨λh i hi hb=>(key i hi).1 (h i hi hb),λh i hi hb=>(key i hi).2 (h i hi hb)⟩
theorem zYw{A:List (List Nat×List Rw)}{n:Nat}{p:Rw}(s:Nat)(hlt:∀a∈A,∀v∈a.1,v<n)(hp:p.length<=n)(hl:∀a∈A,∀r∈a.2,r.length=a.1.length):alwS (zD2 A s) n p≠[]↔alB (A.map (zBe p)) s=true:=by
 have hsub:∀b∈zD2 A s,b∈A:=λb hb=>by
  obtain⟨i,hi,rfl⟩:=Aq.1 hb;have h1:=A2.1 (AP.1 hi).1;rw[Am,Aw h1];exact Bg h1
 have hal:alB (A.map (zBe p)) s=Ab↔∃τ,SatA (zD2 A s) (shf p τ):=by
  rw[zSk];exact exists_congr λτ=>(zZ2 hl τ).trans sat_chos.symm
 rw[hal];unfold alwS;generalize hB:zD2 A s=B at*;have hltB:∀a∈B,∀v∈a.1,v<n:=λa ha=>hlt a (hsub a ha);have hlB:∀a∈B,∀r∈a.2,r.length=a.1.length:=λa ha=>hl a (hsub a ha);have hfB:∀a∈B,∀v∈a.1,snB B v=true:=λa ha v hv=>Bo.2 ⟨a,ha,decide_eq_true hv⟩;have hfx:∀v,snB B v=Ab->∃a∈B,v∈a.1:=λv hv=>by
  obtain⟨a,ha,hv⟩:=Bo.1 hv;exact⟨a,ha,of_decide_eq_true hv⟩
 generalize snB B=f at*;have hkl:(knK f p n).length=rkN f p.length:=by rw[knK_len,Nat.min_eq_right hp]
 have hle:rkN f p.length<=rkN f n:=zV5 f hp;have hK:knK f p n=((Ap p.length).filter f).map λw=>p.getD w default:=by
  unfold knK;rw[Nat.min_eq_right hp]
 have hKat:∀v,v<p.length->f v=Ab->(knK f p n).getD (rkN f v) Af=p.getD v default:=λv hv hf=>by
  rw[hK,Am,BL,zZ9 hv hf];rfl
 have hspec:=λy=>zLt (A:=B.map (renR f)) (vf:=valF (B.map (renR f))) (λa ha r hr=>by
  obtain⟨b,hb,rfl⟩:=Aq.1 ha;show r.length=(b.1.map (rkN f)).length;rw[Al];exact hlB b hb r hr) (zZc _) (rkN f n-(knK f p n).length) (knK f p n) y (λa ha v hv=>by
  obtain⟨b,hb,rfl⟩:=Aq.1 ha;obtain⟨w,hw,rfl⟩:=Aq.1 hv
  have:=zZ8 (hltB b hb w hw) (hfB b hb w hw)
  omega) (λv h1 h2=>by
  obtain⟨w,w1,w2,w3⟩:=zZ7 (f:=f) (n:=n) (k:=v) (by omega);obtain⟨a,ha,hwa⟩:=hfx w w2;exact⟨renR f a,Aq.2 ⟨a,ha,rfl⟩,Aq.2 ⟨w,hwa,w3⟩⟩)
 rw[show(knK f p n).length+(rkN f n-(knK f p n).length)=rkN f n by omega]at hspec;constructor
 ·intro hne;obtain⟨y,hy⟩:=CT _ hne;obtain⟨y1,y2,y3⟩:=(hspec y).1 hy;refine⟨λv=>y.getD (rkN f (v+p.length)) Af,λa ha=>?_⟩;have h3:=y3 (renR f a) (Aq.2 ⟨a,ha,rfl⟩);have e:(renR f a).1.map (λv=>y.getD v Af)=a.1.map (shf p λv=>y.getD (rkN f (v+p.length)) Af):=by
   show(a.1.map (rkN f)).map _=_;rw[By];refine BR λv hv=>?_;show y.getD (rkN f v) Af=shf p _ v;unfold shf;split
   ·rename_i hvp;have h4:=hKat v hvp (hfB a ha v hv);rw[<-h4,<-y2];have h5:rkN f v<(knK f p n).length:=by rw[hkl];exact zZ8 hvp (hfB a ha v hv)
    rw[Am,Am,Cj,if_pos h5]
   rename_i hvp;show _=y.getD (rkN f (v-p.length+p.length)) Af;rw[show v-p.length+p.length=v by omega]
  rw[e]at h3;exact h3
 rintro⟨τ,hτ⟩;refine List.ne_nil_of_mem ((hspec (((Ap n).filter f).map (shf p τ))).2 ⟨Al _,?_,λa ha=>?_⟩)
 ·have hsp:(Ap n).filter f=(Ap p.length).filter f++((List.range' p.length (n-p.length)).filter f):=by
   rw[<-Br];congr 1;rw[List.range_eq_range',List.range_eq_range',show n=p.length+(n-p.length) by omega,Nat.add_sub_cancel_left]
   have:=List.range'_append (s:=0) (m:=p.length) (n:=n-p.length) (step:=1)
   simpa using this.symm
  rw[hsp,Bd,hkl,CU (by rw[Al];exact AK _),AN (by rw[Al];exact AK _),hK];refine BR λw hw=>?_
  have:=A2.1 (AP.1 hw).1
  show shf p τ w=_;unfold shf;rw[if_pos this]
 obtain⟨b,hb,rfl⟩:=Aq.1 ha;have e:(renR f b).1.map (λv=>(((Ap n).filter f).map (shf p τ)).getD v Af)=b.1.map (shf p τ):=by
  show(b.1.map (rkN f)).map _=_;rw[By];refine BR λv hv=>?_;show(((Ap n).filter f).map (shf p τ)).getD (rkN f v) Af=shf p τ v;rw[Am,BL,zZ9 (hltB b hb v hv) (hfB b hb v hv)];rfl
 rw[e];exact hτ b hb
def minB(al:Nat->Bool)(m s:Nat):Bool:=!al s&&(Ap m).all λi=>!s.testBit i||al (dif s (2^i))
theorem zWo{al:Nat->Bool}(hmo:∀a b,Sub a b->al b=Ab->al a=Ab){m s:Nat}(hs:s<2^m):minB al m s=Ab↔MinC al (2^m-1) s:=by
 have hfull:Sub s (2^m-1):=λi hi=>by
  rw[BT];refine decide_eq_true ?_;rcases An i m with h|h
  ·exact h
  rw[CJ (Cg hs (Bx (by omega) h))]at hi;cases hi
 unfold minB;rw[Ba,Cx,Bb];constructor
 ·rintro⟨h1,h2⟩;refine⟨hfull,h1,λt ht hta=>?_⟩;apply BM;intro hne;obtain⟨i,hi1,hi2⟩:∃i,s.testBit i=Ab/\t.testBit i=false:=by
   apply BM;intro hno;refine hne (ht.eq λi hi=>?_);cases hti:t.testBit i
   ·exact absurd ⟨i,hi,hti⟩ hno
   rfl
  have hi:=hfull i hi1;rw[BT,decide_eq_true_eq]at hi;have h3:=h2 i (A2.2 hi);rw[hi1,CD,Cf]at h3;have h4:=hmo t (dif s (2^i)) (λj hj=>by
   rw[zBs,ht j hj,BD,decide_eq_false (λe=>by subst e;rw[hi2]at hj;cases hj)];rfl) h3
  rw[hta]at h4;cases h4
 rintro⟨_,h1,h2⟩;refine⟨h1,λi _=>?_⟩;cases hi:s.testBit i
 ·rfl
 rw[CD,Cf];cases ha:al (dif s (2^i))
 ·have:=h2 _ (zPx s (2^i)) ha
  have h3:=congrArg (λn=>n.testBit i) this;simp only[zBs,hi,BD]at h3;simp at h3
 rfl
def rbst(al:Nat->Bool)(m:Nat)(k:Nat):Option (List Int):=(((Ap k).filter λj=>minB al m (j+1)).map λj=>memL (j+1)).foldl bstS AX
theorem zX7{al al':Nat->Bool}{m k:Nat}(h:∀s,s<=k->al s=al' s):rbst al m k=rbst al' m k:=by
 have hm:∀j,j<k->minB al m (j+1)=minB al' m (j+1):=λj hj=>by
  unfold minB;rw[h _ (by omega)];congr 1;rw[Bt,Bb,Bb];exact forall_congr' λi=>forall_congr' λ_=>by
   rw[h (dif (j+1) (2^i)) (AE (sub_le (zPx _ _)) (by omega))]
 unfold rbst;rw[List.filter_congr λj hj=>hm j (A2.1 hj)]
theorem best_ref(A:List (List Nat×List Rw))(hl:A.length<=32):zP3 A=rbst (alB A) A.length (2^A.length-1):=by
 obtain⟨L,h1,h2⟩:=bestA_ok A hl;have h3:=zPq (((Ap (2^A.length-1)).filter λj=>minB (alB A) A.length (j+1)).map λj=>memL (j+1)) [] AX rfl;rw[AS]at h3;have hp:=Cq A.length;refine fst_uniq (λl=>?_) h1 h3;rw[h2,Aq];constructor
 ·rintro⟨m,hm,rfl⟩;have hle:=sub_le hm.1;have h0:m≠0:=λe=>by
   have:=hm.2.1
   rw[e,alB_0]at this;cases this
  refine⟨m-1,AP.2 ⟨A2.2 (by omega),?_⟩,by rw[Nat.sub_add_cancel (by omega)]⟩;rw[Nat.sub_add_cancel (by omega)];exact(zWo (zKu A) (by omega)).2 hm
 rintro⟨j,hj,rfl⟩;obtain⟨j1,j2⟩:=AP.1 hj
 have:=A2.1 j1
 exact⟨j+1,(zWo (zKu A) (by omega)).1 j2,rfl⟩
structure FirB(n:Nat)(A:List (List Nat×List Rw))(r p:Rw):Prop where
 l1:r.length<=p.length
 l2:p.length<=n
 t:p.take r.length=r
 a:Ans n A p
 m:∀z:Rw,z.length=n->SatA A (λv=>z.getD v Af)->z.take r.length=r->z.take p.length=p\/rcmp p (z.take p.length)<0
theorem zQx:∀(p q:List Va)(a c:Va),p.length=q.length->rcmp p q<0->rcmp (p++[a]) (q++[c])<0
 |[],[],a,c,_,h=>by simp[rcmp]at h
 | x::p,y::q,a,c,hl,h=>by
  have ih:=zQx p q a c (by simpa using hl);simp only[rcmp,AO]at h⊢;split at h
  ·rename_i hv;rw[if_pos hv];exact ih h
  rename_i hv;rw[if_neg hv];exact h
theorem zM1:∀(p:List Va)(a c:Va),rcmp (p++[a]) (p++[c])=rcmp [a] [c]
 |[],a,c=>rfl
 |x::p,a,c=>by
  have h:rcmp (x::(p++[a])) (x::(p++[c]))=rcmp (p++[a]) (p++[c]):=zG9 1 _ _ (by simp) (by simp) rfl;rw[AO,AO,h,zM1 p a c]
theorem FirB.nil{n:Nat}{A:List (List Nat×List Rw)}{r:Rw}(hr:r.length<=n)(h:Ans n A r):FirB n A r r:=⟨AK _,hr,A5,h,λz _ _ ht=> .inl ht⟩
theorem FirB.none{n:Nat}{A:List (List Nat×List Rw)}{r p:Rw}(hA:AtOk n A)(h:FirB n A r p):∃τ,SatA (A.map (zBe p)) τ:=by
 obtain⟨τ,hτ⟩:=(zGx h.l2 hA.lt).1 h.a;exact⟨τ,(zF6 hA.len τ).2 hτ⟩
theorem FirB.step{n:Nat}{A:List (List Nat×List Rw)}{r p:Rw}(hA:AtOk n A)(h:FirB n A r p)(hp:p.length<n){x:Va}(hx:LstV (A.map (zBe p)) x):FirB n A r (p++[x]):=by
 obtain⟨⟨τ,h0,hτ⟩,hmin⟩:=hx;have hl:(p++[x]).length=p.length+1:=by simp
 have h1:=h.l1;refine⟨by omega,by omega,?_,?_,λz z1 z2 z3=>?_⟩
 ·rw[CU h.l1];exact h.t
 ·refine(zGx (by omega) hA.lt).2 ⟨λv=>τ (v+1),?_⟩;have e:shf (p++[x]) (λv=>τ (v+1))=shf p τ:=by
   funext v;unfold shf;rw[hl];rcases CM v p.length with h2|h2|h2
   ·rw[if_pos (by omega),if_pos h2,Am,CR h2,Am]
   ·subst h2;rw[if_pos (by omega),if_neg (by omega),Am,CS (AK _),Nat.sub_self];exact h0.symm
   rw[if_neg (by omega),if_neg (by omega)];show τ (v-(p.length+1)+1)=τ (v-p.length);rw[show v-(p.length+1)+1=v-p.length by omega]
  rw[e];exact(zF6 hA.len τ).1 hτ
 rw [hl];have ez:z.take (p.length+1)=z.take p.length++[z.getD p.length Af]:=by
  rw[Bp (by omega),Am,Aw (by omega)];rfl
 rw[ez];rcases h.m z z1 z2 z3 with h4|h4
 ·rw [h4,zM1];have hs:SatA (A.map (zBe p)) λv=>z.getD (v+p.length) default:=by
   rw[zF6 hA.len];have e:shf p (λv=>z.getD (v+p.length) Af)=λv=>z.getD v default:=by
    funext v;unfold shf;split
    ·rename_i hv;have h5:(z.take p.length)[v]?=p[v]?:=by rw[h4]
     rw[Cj,if_pos hv]at h5;rw[Am,Am,h5]
    rename_i hv;show z.getD (v-p.length+p.length) Af=z.getD v Af;rw[show v-p.length+p.length=v by omega]
   rw[e];exact z2
  rcases hmin _ hs with h5|h5
  ·left;rw[h5];show p++[z.getD p.length Af]=p++[z.getD (0+p.length) Af];rw[B9]
  right;simp only[B9]at h5;exact h5
 right;refine zQx _ _ _ _ ?_ h4;rw[AU];omega
def witL(A:List (List Nat×List Rw))(y:Rw):List (Nat×Rw):=(Ap A.length).map λi=>(i,zP y (A.getD i Af).1)
theorem zEq(A:List (List Nat×List Rw))(y:Rw):(witL A y).length=A.length:=by simp[witL]
theorem zY3(A:List (List Nat×List Rw))(y:Rw)(i:Nat)(h:i<A.length):(witL A y).take (i+1)=(witL A y).take i++[(i,zP y (A.getD i Af).1)]:=by
 rw[Bp (by rw[zEq];exact h)];congr 2;simp[witL]
end
section
open Go.RowKit
attribute [local irreducible] seqW awp zW zY zR Weak updS zZ retL Pure Acts rP setP setQ cP nP fr
set_option maxRecDepth 4096
set_option maxHeartbeats 1000000 in
theorem strR_c(a b:ByteArray)(ha:a.size<=3000000)(hb:b.size<=3000000):Pure Ao 72 [.val (.string a), .val (.string b)] [] (.val (.int .i64 (strR a.data.toList b.data.toList))):=by
 refine zH zAf mixed Tryz.func72 rfl<|vAu<|zB<|vAe<|zF ?_;have sa:a.size=a.data.toList.length:=rfl;have sb:b.size=b.data.toList.length:=rfl;have sa':a.size=a.data.size:=rfl;have sb':b.size=b.data.size:=rfl;refine zQ (λ(i:Nat)=>fr 37 [(0,Av<|Cp a),(1,Av<|Cp b),(5,iD i)]) (λ_=>[]) (λi=>a.size-i) (λi=>i<=a.size/\i<=b.size/\strR (a.data.toList.drop i) (b.data.toList.drop i)=strR a.data.toList b.data.toList) 0 ?_ ?_ ?_
 ·exact⟨by omega,by omega,by simp⟩
 ·refine vk 0
 rintro i ⟨h1,h2,h3⟩;focus
  refine zB<|vAs<|vrT 5<|vspD 10 ((i:Int)<↑(Bj a)) (λhc=>?_)<|λhc=>?_;refine veT<|vcD ((i:Int)<↑(Bj b)) (λhc=>?_)<|λhc=>?_;refine vKB<|zB<|zB<|vd [0,1,2,3,4,5,6]<|ve (((0:Int)<=(i:Int)/\(i:Int)<↑(Bj a))/\(0:Int)<=(i:Int)/\(i:Int)<↑(Bj b))<|vcD ((↑(Ct<|Cb (Cu a) i (0:UInt8)):Int)<(↑(Ct<|Cb (Cu b) i (0:UInt8)):Int)) (λhc=>?_)<|λhc=>?_;refine vAe<|zJ<|zG<|zN<|zG<|zG<|zN<|zG<|vre (True) (q0_) (.inr rfl) ?_;rotate_left;refine vK<|zB<|vd [0,1,2,3,4,5,6]<|ve (((0:Int)<=(i:Int)/\(i:Int)<↑(Bj a))/\(0:Int)<=(i:Int)/\(i:Int)<↑(Bj b))<|vcD ((↑(Ct<|Cb (Cu a) i (0:UInt8)):Int)>(↑(Ct<|Cb (Cu b) i (0:UInt8)):Int)) (λhc=>?_)<|λhc=>?_;refine vAe<|zJ<|zN<|zG<|zG<|zN<|zG<|vre (True) (q1_) (.inr rfl) ?_;rotate_left;refine zL<|zE<|vN<|zA rfl<|vr 3 (i6 (↑i+1))<|vnil<|zC ?_;rotate_left;refine vZ2<|vA<|ve (i6 ((↑(Bj a):Int)-(↑(Bj b):Int)))<|zJ<|vre (True) (Av<|As AY ((↑(Bj a):Int)-(↑(Bj b):Int))) (.inr rfl) ?_;rotate_left;refine veT<|vf<|vZ2<|vA<|ve (i6 ((↑(Bj a):Int)-(↑(Bj b):Int)))<|zJ<|vre (True) (Av<|As AY ((↑(Bj a):Int)-(↑(Bj b):Int))) (.inr rfl) ?_;rotate_left
 ·rw[<-h3,zKz (i:=i) (by omega) (by omega),if_pos (by rw[Cc];omega)]
 ·rw[<-h3,zKz (i:=i) (by omega) (by omega),if_neg (by rw[Cc];omega),if_pos (by rw[Cc];omega)]
 ·refine⟨i+1,⟨by omega,by omega,?_⟩,by omega,?_⟩
  ·rw[<-h3,zKz (i:=i) (by omega) (by omega),if_neg (by rw[Cc];omega),if_neg (by rw[Cc];omega)]
  refine vk 0
 all_goals rw [<-h3,strR_end (by omega) (by omega) (by omega)];rfl
theorem zZb(a b:Va)(ha:a.str.length<=3000000)(hb:b.str.length<=3000000):Pure Ao 51 [vaD a,vaD b] [] (iD (vcmp a b)):=by
 have hs:=strR_c (bs a.str) (bs b.str) ha hb;rw[bs_data,bs_data]at hs;have h4:=zQj a.str b.str;unfold vcmp cmpD;generalize strR a.str b.str=z at*;generalize BN a.str b.str=y at*;obtain⟨ak,ai,as'⟩:=a;obtain⟨bk,bi,bs'⟩:=b;refine zH zAf mixed Tryz.func51 rfl ?_;focus
  refine vAu<|zB<|vA<|ve (True/\0<3/\True/\0<3/\True)<|zAq (t:=ak !=bk) (by kernel_rfl) (λhc=>?_)<|λhc=>?_;simp only[bne_iff_ne]at hc;refine zB<|vA<|ve (True/\0<3/\True/\0<3)<|vcD (ak<bk) (λhc=>?_)<|λhc=>?_;refine vAe<|zJ<|zG<|zG<|vre (True) (q0_) (.inr rfl) ?_;rotate_left;refine vK<|vAe<|zJ<|zG<|vre (True) (q1_) (.inr rfl) ?_;rotate_left;simp only[bne_eq_false_iff_eq]at hc;refine vK<|zB<|vA<|ve (True/\0<2/\True/\0<2/\True)<|zAq (t:=ai !=bi) (by kernel_rfl) (λhc=>?_)<|λhc=>?_;simp only[bne_iff_ne]at hc;refine zB<|vA<|ve (True/\0<2/\True/\0<2)<|vcD (ai<bi) (λhc=>?_)<|λhc=>?_;refine vAe<|zJ<|zG<|zG<|vre (True) (q0_) (.inr rfl) ?_;rotate_left;refine vK<|vAe<|zJ<|zG<|vre (True) (q1_) (.inr rfl) ?_;rotate_left;simp only[bne_eq_false_iff_eq]at hc;refine vK<|vA<|vr 4 (True/\0<1/\True/\0<1)<|vc hs<|veT<|zB<|vAe<|vcD (z<0) (λhc=>?_)<|λhc=>?_;refine vAe<|zJ<|zG<|vre (True) (q0_) (.inr rfl) ?_;rotate_left;refine vK<|zB<|vAe<|vcD (z>(0:Int)) (λhc=>?_)<|λhc=>?_;refine vAe<|zJ<|zG<|vre (True) (q1_) (.inr rfl) ?_;rotate_left;refine vK<|vAe<|zJ<|vre (True) (q2_) (.inr rfl) ?_;rotate_left
 all_goals (refine congrArg (λz=>iD z) ?_;simp only;(repeat' split)<;>omega)
def Sho(r:Rw):Prop:=r.length<=1000000/\∀v∈r,v.str.length<=3000000
theorem Sho.at{r:Rw}(h:Sho r){i:Nat}(hi:i<r.length):(r.getD i Af).str.length<=3000000:=by
 rw[Am,Aw hi];exact h.2 _ (Bg hi)
set_option maxHeartbeats 1000000 in
theorem zS2(a b:Rw)(n m:Nat)(hn:a.length=n)(hm:b.length=m)(ha:Sho a)(hb:Sho b):Pure Ao 24 [.row (zK a) n, .row (zK b) m] [] (iD (rcmp a b)):=by
 subst hn hm;have ha1:=ha.1;have hb1:=hb.1;refine zH zAf mixed Tryz.func24 rfl<|vAu<|zB<|vAe<|zF<|zQ (λ(i:Nat)=>fr 41 [(0,Ae (zK a)<|Aa a),(1,Ae (zK b)<|Aa b),(5,iD (i:Int))]) (λ_=>[]) (λi=>a.length-i) (λi=>i<=a.length/\i<=b.length/\a.take i=b.take i) 0 ?_ ?_ ?_
 ·exact⟨by omega,by omega,by simp⟩
 ·refine vk 0
 rintro i ⟨h1,h2,h3⟩;by_cases h4:i<a.length/\i<b.length
 ·have hc:=zZb _ _ (ha.at h4.1) (hb.at h4.2);by_cases hz:vcmp (a.getD i Af) (b.getD i Af)=0
  ·rw[hz]at hc;have he:=(zBo _ _).2.1.1 hz;refine zB<|vAs<|vew [] [(4,Ab)] (decide ((i:Int)<↑(Aa a))=Ab)<|vT ((i:Int)<↑(Aa b))<|vKB<|zB<|vd [0,1,2,4,5,6,3,7,8,9]<|vr 7 (ix ↑i ↑(Aa a) (zK a≠[])/\ix ↑i ↑(Aa b) (zK b≠[])/\3<=Aa (Ag (i*3)<|zK a)) ?_ ⟨⟨(by omega),⟨(by omega),(by exact zB8 _ (by omega))⟩⟩,⟨(by omega),⟨(by omega),(by exact zB8 _ (by omega))⟩⟩,(by exact zBt _ _ (by omega))⟩;refine vs 22 (Ar<|Ai 3<|Ag (i*3)<|zK a) (Ar<|vaC<|AQ a i Af) (hd:=by simp(disch:=omega) only[zA2])<|vr 1 (3<=Aa (Ag (i*3)<|zK b)) (vs 26 (Ar<|Ai 3<|Ag (i*3)<|zK b) (Ar<|vaC<|AQ b i Af) (hd:=by simp(disch:=omega) only[zA2])<|vc hc<|veT<|vAe<|vf<|zL<|zE<|vN<|zA rfl ?_) (by exact zBt _ _ (by omega));refine vr 3 (i6 (↑i+1))<|vnil<|zC<|⟨i+1,⟨by omega,by omega,?_⟩,by omega,?_⟩
   ·rw[Bp h4.1,Bp h4.2,h3];rw[Am,Aw h4.1,Am,Aw h4.2]at he;have he:a[i]=b[i]:=he;rw[he]
   refine vk 0
  have hr:=rcmp_at i a b h4.1 h4.2 h3 hz;rw[hr];generalize vcmp (a.getD i Af) (b.getD i Af)=y at*;refine zB<|vAs<|vew [] [(4,Ab)] (decide ((i:Int)<↑(Aa a))=Ab)<|vT ((i:Int)<↑(Aa b))<|vKB<|zB<|vd [0,1,2,4,5,6,3,7,8,9]<|vr 7 (ix ↑i ↑(Aa a) (zK a≠[])/\ix ↑i ↑(Aa b) (zK b≠[])/\3<=Aa (Ag (i*3)<|zK a)) ?_ ⟨⟨(by omega),⟨(by omega),(by exact zB8 _ (by omega))⟩⟩,⟨(by omega),⟨(by omega),(by exact zB8 _ (by omega))⟩⟩,(by exact zBt _ _ (by omega))⟩;refine vs 22 (Ar<|Ai 3<|Ag (i*3)<|zK a) (Ar<|vaC<|AQ a i Af) (hd:=by simp(disch:=omega) only[zA2])<|vr 1 (3<=Aa (Ag (i*3)<|zK b)) (vs 26 (Ar<|Ai 3<|Ag (i*3)<|zK b) (Ar<|vaC<|AQ b i Af) (hd:=by simp(disch:=omega) only[zA2])<|vc hc<|veT<|vAe<|zDw (t:=y !=(0:Int)) (by kernel_rfl) (by simpa using by omega)<|vAe<|zJ<|zN ?_) (by exact zBt _ _ (by omega));refine zG<|zG<|zN<|zG<|vret (True)<|.inr rfl
 have hd:=zG9 i a b h1 h2 h3;rw[hd];rcases CM a.length b.length with h5|h5|h5
 ·obtain rfl:i=a.length:=by omega
  have e:rcmp (a.drop a.length) (b.drop a.length)=-1:=by
   rw[CN,BK h5];rfl
  rw[e];refine zB<|vAs<|vew [] [(4,Ac)] (decide ((Aa a:Int)<(Aa a:Int))=Ac)<|vf<|vZ2<|zB<|vAe<|vT ((Aa a:Int)<↑(Aa b))<|vAe<|zJ<|zG<|vret (True)<|.inr rfl
 ·obtain rfl:i=a.length:=by omega
  have e:rcmp (a.drop a.length) (b.drop a.length)=0:=by
   rw[CN,List.drop_eq_nil_of_le (by omega)];rfl
  rw[e];refine zB<|vAs<|vew [] [(4,Ac)] (decide ((Aa a:Int)<(Aa a:Int))=Ac)<|vf<|vZ2<|zB<|vAe<|vF ((Aa a:Int)<↑(Aa b))<|vK<|zB<|vAe<|vF ((Aa a:Int)>(Aa b:Int))<|vK<|vAe<|zJ<|vret (True)<|.inr rfl
 obtain rfl:i=b.length:=by omega
 have e:rcmp (a.drop b.length) (b.drop b.length)=1:=by
  rw[CN,BK h5];rfl
 rw[e];refine zB<|vAs<|vew [] [(4,Ab)] (decide ((Aa b:Int)<(Aa a:Int))=Ab)<|vF ((Aa b:Int)<↑(Aa b))<|vZ2<|zB<|vAe<|vF ((Aa a:Int)<↑(Aa b))<|vK<|zB<|vAe<|vT ((Aa a:Int)>(Aa b:Int))<|vAe<|zJ<|zG<|vret (True)<|.inr rfl
abbrev rrB(l:List D):Bk:=⟨l,55,1,Ab,Ac, .plain⟩
theorem zDv(L:List Rw)(i:Nat)(h:i<L.length):((L.map rowV).drop i).headD .unk=rowV (L.getD i []):=zA5 rowV L [] i h
set_option maxHeartbeats 1000000 in
theorem zZ1(L:List Rw)(x:Rw)(n k:Nat)(hn:L.length=n)(hk:x.length=k)(ln:n<=1000000)(hL:∀y∈L,Sho y)(hx:Sho x):Pure Ao 133 [.row (L.map rowV) n, .row (zK x) k] [] (.tup [iD (cntR L x:Nat),bD (decide (x∈L))]):=by
 subst hn hk;refine zH zAf mixed Tryz.func133 rfl<|vAu<|vAe<|vAe<|zB<|vAe<|zF<|zBg (λ(i:Nat)(c:Nat)(b:Bool)=>fr 30 [(0,Ae (Ad rowV L)<|Aa L),(1,Ae (zK x)<|Aa x),(4,iD 0),(5,bD Ac),(6,iD (c:Int)),(7,bD b),(8,iD (i:Int))]) (λ(i:Nat)(c:Nat)(b:Bool)=>[]) (λi c b=>L.length-i) (λ(i:Nat)(c:Nat)(b:Bool)=>i<=L.length/\c=cntR (L.take i) x/\b=decide (x∈L.take i)) 0 0 Ac ?_ ?_ ?_
 ·exact⟨by omega,rfl,by simp⟩
 ·refine vk 0
 rintro i c b ⟨h1,h2,h3⟩;rcases An i L.length with h4|h4
 ·have hg:=zDv L i h4;have hne:L.map rowV≠[]:=zAb;have hin:=zAc L [] i h4;have hc:=zS2 (L.getD i []) x _ _ rfl rfl (hL _ hin) hx;have hci:c<=i:=by
   rw[h2];refine AE (zLx _ _) ?_;rw[AU];omega
  have htk:L.take (i+1)=L.take i++[L.getD i []]:=by
   rw[Bp h4,Am,Aw h4];rfl
  have e1:cntR (L.take (i+1)) x=if rcmp (L.getD i []) x<0 then c+1 else c:=by
   rw[htk,h2];unfold cntR;rw[Br,AL,Bl];by_cases hh:rcmp (L.getD i []) x<0
   ·rw[if_pos hh,decide_eq_true hh];rfl
   rw[if_neg hh,decide_eq_false hh];rfl
  have e2:decide (x∈L.take (i+1))=(b||decide (rcmp (L.getD i []) x=0)):=by
   rw[htk,h3,Bt];simp only[Bs,A4,decide_eq_true_eq,Bf];rw[(zA3 (L.getD i []) x).2.1];exact or_congr Iff.rfl eq_comm
  have hv:=(zA3 (L.getD i []) x).1;generalize rcmp (L.getD i []) x=z at*;generalize L.getD i []=y at*;rcases hv with rfl|rfl|rfl
  ·refine zB<|vAu<|vT ((i:Int)<(Aa L:Int))<|vKB<|vA<|vr 3 (ix (i:Int) (Aa L:Int) (Ad rowV L≠[]))<|vp 18 (i) (Ad rowV L)<|vr 1 (0<Aa (Ag i<|Ad rowV L))<|vsh 19 hg<|vrT 1<|vc (hc)<|veT<|zB<|vAe<|vt<|zA rfl<|ve (i6 ((c:Int)+(1:Int)))<|vAe<|vf<|zL<|zE<|vN<|zA rfl<|vr 3 (i6 ((i:Int)+(1:Int)))<|vnil<|zC<|⟨i+1,c+1,b,⟨by omega,by rw[e1];rfl,by rw[e2];simp⟩,by omega,?_⟩;refine vk 0
  ·refine zB<|vAu<|vT ((i:Int)<(Aa L:Int))<|vKB<|vA<|vr 3 (ix (i:Int) (Aa L:Int) (Ad rowV L≠[]))<|vp 18 (i) (Ad rowV L)<|vr 1 (0<Aa (Ag i<|Ad rowV L))<|vsh 19 hg<|vrT 1<|vc (hc)<|veT<|zB<|vAe<|vf<|vK<|vAe<|vt<|zA rfl<|vrT 1<|vnil<|zE<|vN<|zA rfl<|vr 3 (i6 ((i:Int)+(1:Int)))<|vnil<|zC<|⟨i+1,c,Ab,⟨by omega,by rw[e1];rfl,by rw[e2];simp⟩,by omega,?_⟩;refine vk 0
  refine zB<|vAu<|vT ((i:Int)<(Aa L:Int))<|vKB<|vA<|vr 3 (ix (i:Int) (Aa L:Int) (Ad rowV L≠[]))<|vp 18 (i) (Ad rowV L)<|vr 1 (0<Aa (Ag i<|Ad rowV L))<|vsh 19 hg<|vrT 1<|vc (hc)<|veT<|zB<|vAe<|vf<|vK<|vAe<|vf<|zL<|zE<|vN<|zA rfl<|vr 3 (i6 ((i:Int)+(1:Int)))<|vnil<|zC<|⟨i+1,c,b,⟨by omega,by rw[e1];rfl,by rw[e2];simp⟩,by omega,?_⟩;refine vk 0
 obtain rfl:i=L.length:=by omega
 rw[A5]at h2 h3;subst h2 h3;refine zB<|vAu<|vF ((Aa L:Int)<↑(Aa L))<|vZ2<|vAe<|zJ<|vret (True)<|.inr rfl
set_option maxHeartbeats 1000000 in
theorem insertR_c(L:List Rw)(x:Rw)(n k:Nat)(hn:L.length=n)(hk:x.length=k)(ln:n<=100000)(hL:∀y∈L,Sho y)(hx:Sho x):Pure Ao 93 [.row (L.map rowV) n, .row (zK x) k] [] (.row ((insR L x).map rowV) (insR L x).length):=by
 subst hn hk;have hs:=zZ1 L x _ _ rfl rfl (by omega) hL hx;have hle:=zLx L x;unfold insR;by_cases hm:x∈L
 ·rw[if_pos hm];rw[decide_eq_true hm]at hs;refine zH zAf mixed Tryz.func93 rfl<|vAu<|vA<|vrT 2<|vc (hs)<|ve (0<2/\1<2)<|zB<|vAe<|vt<|vAe<|zJ<|zG<|vret (True)<|.inr rfl
 rw[if_neg hm];rw[decide_eq_false hm]at hs;generalize cntR L x=c at*;have e1:(L.map rowV).take c=(L.take c).map rowV:=by rw[List.map_take]
 have e2:(L.map rowV).drop c=(L.drop c).map rowV:=by rw[List.map_drop]
 have e3:((L.drop c).map rowV).take (L.length-c)=(L.drop c).map rowV:=AN (by rw[Al,Bn];exact AK _);have l1:((L.take c).map rowV).length=c:=by rw[Al,AU];omega
 have l2:((L.drop c).map rowV).length=L.length-c:=by rw[Al,Bn]
 have l3:(L.take c++x::L.drop c).length=c+1+(L.length-c):=by simp;omega
 have e4:((L.take c).map rowV++[Ae (zK x) x.length]++(L.drop c).map rowV).take (c+1+(L.length-c))=(L.take c++x::L.drop c).map rowV:=by
  rw[AN (by simp;omega)];simp[rowV]
 rw[<-e4,l3];refine zH zAf mixed Tryz.func93 rfl<|vAu<|vA<|vrT 2<|vc (hs)<|ve (0<2/\1<2)<|zB<|vAe<|vf<|vK<|vAe<|vA<|vr 4 (True/\(0:Int)<=(c:Int)/\True/\0<1/\0<=Ak (c:Int)/\Ak (c:Int)<=Aa L/\Ak (c:Int)=Ak (c:Int))<|vs 19 (Ae (Ai ((Ak (c:Int)-0)*1)<|Ag 0<|Ad rowV L) (Ak (c:Int)-0)) (Ae (Ad rowV<|Ai c L) c) (hd:=by simp(disch:=omega) only[AA,Nat.sub_zero,A8,AJ,e1])<|vr 2 (Aa (Ad rowV<|Ai c L)=c*1/\0<1/\0<24/\55=55/\c*24<=140737488355328/\1=1)<|vs 7 (Aj 0 0 c (c*1) Ab) (Aj 0 0 c c Ab) (hd:=by simp(disch:=omega) only[A8])<|veT<|vA<|vr 5 (((1=1/\1<=1/\True)/\0<1/\1=1/\1<=16777216/\1<=9223372036854775807)/\A_ (Az (Ad rowV<|Ai c L) 55 1 Ab Ac<|kdOf Ac)=Ab/\Aa (Ad rowV<|Ai c L)=c*1/\c=c*1/\A6 (Az (Ad rowV<|Ai c L) 55 1 Ab Ac<|kdOf Ac)=55/\A7 (Az (Ad rowV<|Ai c L) 55 1 Ab Ac<|kdOf Ac)=1/\1=1/\0<1/\0<24/\55=55/\(c+1)*24<=140737488355328/\1=1/\A0 (AF<|Az (Ad rowV<|Ai c L) 55 1 Ab Ac<|kdOf Ac)=Ac/\(Ac=Ac\/A1 (AF<|Az (Ad rowV<|Ai c L) 55 1 Ab Ac<|kdOf Ac)=Ab))<|vs 7 (Aj 0 0 (c+1) ((c+1)*1) Ab) (Aj 0 0 (c+1) (c+1) Ab) (hd:=by simp(disch:=omega) only[A8])<|veT<|vA<|vr 4 ((0:Int)<=(c:Int)/\True/\True/\0<1/\Ak (c:Int)<=Aa L/\Aa L<=Aa L/\Aa L=Aa L)<|vs 28 (Ae (Ai ((Aa L-Ak (c:Int))*1)<|Ag (Ak (c:Int)*1)<|Ad rowV L) (Aa L-Ak (c:Int))) (Ae (Ad rowV<|Ag c L) (Aa L-c)) (hd:=by simp(disch:=omega) only[AA,A8,e2,e3])<|vr 2 (A_ (Az (Ad rowV (Ai c L)++[Ae (zK x)<|Aa x]) 55 1 Ab Ac<|kdOf Ac)=Ab/\Aa (Ad rowV (Ai c L)++[Ae (zK x)<|Aa x])=(c+1)*1/\c+1=(c+1)*1/\A6 (Az (Ad rowV (Ai c L)++[Ae (zK x)<|Aa x]) 55 1 Ab Ac<|kdOf Ac)=55/\A7 (Az (Ad rowV (Ai c L)++[Ae (zK x)<|Aa x]) 55 1 Ab Ac<|kdOf Ac)=1/\Aa (Ad rowV<|Ag c L)=(Aa L-c)*1/\0<1/\0<24/\55=55/\(c+1+(Aa L-c))*24<=140737488355328/\1=1/\A0 (AF<|Az (Ad rowV (Ai c L)++[Ae (zK x)<|Aa x]) 55 1 Ab Ac<|kdOf Ac)=Ac/\(Ac=Ac\/A1 (AF<|Az (Ad rowV (Ai c L)++[Ae (zK x)<|Aa x]) 55 1 Ab Ac<|kdOf Ac)=Ab))<|vs 4 (Aj 0 0 (c+1+(Aa L-c)) ((c+1+(Aa L-c))*1) Ab) (Aj 0 0 (c+1+(Aa L-c)) (c+1+(Aa L-c)) Ab) (hd:=by simp(disch:=omega) only[A8])<|veT<|zJ<|vret (True)<|.inr rfl
theorem Sho.pick{r:Rw}(h:Sho r)(cols:List Nat)(hc:cols.length<=1000000):Sho (cols.map λc=>r.getD c Af):=by
 refine⟨by rw[Al];exact hc,λv hv=>?_⟩;obtain⟨c,_,rfl⟩:=Aq.1 hv;rcases An c r.length with h1|h1
 ·exact h.at h1
 rw[Am,List.getElem?_eq_none h1];exact BC _
set_option maxHeartbeats 2000000 in
theorem zX8(R:List Rw)(cols:List Nat)(n k:Nat)(hn:R.length=n)(hk:cols.length=k)(ln:n<=10000)(lk:k<=1000)(hR:∀y∈R,Sho y/\∀c∈cols,c<y.length):Pure Ao 70 [.row (R.map rowV) n, .row (nsD cols) k] [] (.row ((prjL cols R).map rowV) (prjL cols R).length):=by
 subst hn hk;refine zH zAf mixed Tryz.func70 rfl<|vAu<|vAe<|zB<|vAe<|zF<|zQ (λ(i:Nat)=>fr 38 [(0,Ae (Ad rowV R)<|Aa R),(1,Ae (nsD cols)<|Aa cols),(4,nl),(5,Ae (Ad rowV<|prjL cols<|Ai i R)<|Aa<|prjL cols<|Ai i R),(6,iD (i:Int))]) (λ(i:Nat)=>[]) (λi=>R.length-i) (λ(i:Nat)=>i<=R.length) 0 ?_ ?_ ?_
 ·omega
 ·refine vk 0
 rintro i h1;rcases An i R.length with h4|h4
 ·have hg:=zDv R i h4;have hne:R.map rowV≠[]:=zAb;obtain⟨s1,s2⟩:=hR _ (zAc R [] i h4);have htk:R.take (i+1)=R.take i++[R.getD i []]:=by
   rw[Bp h4,Am,Aw h4];rfl
  have hsn:=prjL_snoc cols (R.take i) (R.getD i []);rw[<-htk]at hsn;obtain⟨p1,p2,p3,p4⟩:=zM2 cols (R.take i);rw[AU]at p2;have hsh:∀y∈prjL cols (R.take i),Sho y:=λy hy=>by
   obtain⟨r,hr,rfl⟩:=(p3 y).1 hy;exact(hR r (List.mem_of_mem_take hr)).1.pick cols (by omega)
  have hin:=insertR_c (prjL cols (R.take i)) (cols.map λc=>(R.getD i []).getD c Af) _ _ rfl (Al _) (by omega) hsh (s1.pick cols (by omega));rw[<-hsn]at hin;generalize prjL cols (R.take i)=L at*;generalize R.getD i []=y at*;refine zB<|vAu<|vT ((i:Int)<↑(Aa R))<|vKB<|vAe<|zB<|vAe<|zF<|zQ (λ(j:Nat)=>fr 38 [(0,Ae (Ad rowV R)<|Aa R),(1,Ae (nsD cols)<|Aa cols),(4,nl),(5,Ae (Ad rowV L)<|Aa L),(6,iD i),(7,Aj 0 0 j (j*3) Ab),(8,iD j)]) (λ(j:Nat)=>[⟨zK ((cols.take j).map λc=>y.getD c Af),95,3,Ab,Ac,.plain⟩]) (λj=>cols.length-j) (λ(j:Nat)=>j<=cols.length) 0 ?_ ?_ ?_
  ·omega
  ·refine vk 0
  rintro j j1;have hl3:(zK ((cols.take j).map λc=>y.getD c Af)).length=j*3:=by
   rw[zAj,Al,AU,BZ j1]
  rcases An j cols.length with j2|j2
  ·have hx:=zAp cols j j2;have hn1:nsD cols≠[]:=zAb;have hcy:=s2 _ (zAc cols 0 j j2);have hcs:zK ((cols.take (j+1)).map λc=>y.getD c Af)=zK ((cols.take j).map λc=>y.getD c Af)++vaC (y.getD (cols.getD j 0) Af):=by
    rw[zAr cols j j2,Bd,zCr];simp[zK]
   generalize zK ((cols.take j).map λc=>y.getD c Af)=q at*;generalize cols.getD j 0=c at*;have htv:=zA2 y c (by omega);have hva:=zB8 y (by omega);have hv3:=zBt y c (by omega);refine zB<|vAu<|vT ((j:Int)<↑(Aa cols))<|vKB<|vd [0,1,2,3,5,6,7,4,8,9,10,11,12,13]<|vr 4 (ix ↑i ↑(Aa R) (Ad rowV R≠[]))<|vp 24 i (Ad rowV R)<|vr 3 (ix ↑j ↑(Aa cols) (nsD cols≠[]))<|vp 28 j (nsD cols)<|vr 1 (0<Aa (Ag i<|Ad rowV R))<|vsh 25 hg<|vr 1 (0<Aa (Ag j<|nsD cols))<|vsh 29 hx<|vr 2 (ix ↑c ↑(Aa y) (zK y≠[])/\3<=Aa (Ag (c*3)<|zK y))<|vs 31 (Ar<|Ai 3<|Ag (c*3)<|zK y) (Ar<|vaC<|AQ y c Af) (hd:=by simp(disch:=omega) only[htv])<|vr 3 (((3=3/\3<=3/\True)/\0<3/\3=3/\3<=16777216/\1<=9223372036854775807)/\Ab=Ab/\Aa q=j*3/\j*3=j*3/\95=95/\3=3/\3=3/\0<3/\0<32/\95=95/\(j+1)*32<=140737488355328/\3=3/\A0 AC=Ac/\(Ac=Ac\/A1 AC=Ab))<|vnil<|zE<|vN<|zA rfl<|vr 3 (i6 (↑j+1))<|vnil<|zC<|⟨j+1,by omega,by omega,?_⟩;rw[hcs];refine vk 1
  obtain rfl:j=cols.length:=by omega
  rw[A5]at hl3⊢;have ht:(zK (cols.map λc=>y.getD c Af)).take (cols.length*3)=zK (cols.map λc=>y.getD c Af):=AN (by omega);refine zB<|vAu<|vF ((Aa cols:Int)<↑(Aa cols))<|vZ2<|zA rfl<|vrT 2<|vcl [Ae (Ad rowV L)<|Aa L,Ae (Ai (Aa cols*3)<|Ag 0<|zK<|Ad (λ(c:Nat)=>AQ y c Af) cols)<|Aa cols] [Ae (Ad rowV L)<|Aa L,Ae (zK<|Ad (λ(c:Nat)=>AQ y c Af) cols)<|Aa cols] (BQ (by simp(disch:=omega) only[AJ,ht])) (by exact hin)<|vrT 1<|vnil<|zE<|vN<|zA rfl<|vr 3 (i6 (↑i+1))<|vnil<|zC<|⟨i+1,by omega,by omega,?_⟩;refine vk 0
 obtain rfl:i=R.length:=by omega
 rw[A5];refine zB<|vAu<|vF ((Aa R:Int)<↑(Aa R))<|vZ2<|vAe<|zJ<|vret (True)<|.inr rfl
abbrev rvK(l:List D):Bk:=⟨l,95,3,Ab,Ac, .plain⟩
theorem zV3(r:Rw)(n:Nat)(hn:r.length=n)(hb:n<=2000000):Pure Ao 15 [.row (zK r) n] [] (.row (zK r) n):=by
 subst hn;refine zH zAf mixed Tryz.func15 rfl<|vAu<|vAe<|zB<|vAe<|zF<|zQ (λ(i:Nat)=>fr 18 [(2,nl),(3,Aj 0 0 i (i*3) Ab),(6,Ae (zK r)<|Aa r),(7,iD (Aa r:Int)),(8,iD (i:Int))]) (λ(i:Nat)=>[rvK<|zK<|r.take i]) (λi=>r.length-i) (λ(i:Nat)=>i<=r.length) 0 ?_ ?_ ?_
 ·omega
 ·refine vk 0
 rintro i h1;have hl3:(zK (r.take i)).length=i*3:=by rw[zAj,AU,BZ h1]
 rcases An i r.length with h2|h2
 ·have hcs:zK (r.take (i+1))=zK (r.take i)++vaC (r.getD i Af):=by
   rw[zAr r i h2,zCr];simp[zK]
  generalize zK (r.take i)=q at*;have htv:=zA2 r i h2;have hva:=zB8 r (by omega);have hv3:=zBt r i h2;refine vAu<|zB<|vT ((i:Int)<↑(Aa r))<|vKB<|vA<|vr 2 (ix ↑i ↑(Aa r) (zK r≠[])/\3<=Aa (Ag (i*3)<|zK r))<|vs 11 (Ar<|Ai 3<|Ag (i*3)<|zK r) (Ar<|vaC<|AQ r i Af) (hd:=by simp(disch:=omega) only[htv])<|ve (Ac=Ac/\Ab=Ab/\3=3/\3<=3)<|zA rfl<|vr 5 (3<=3/\((3=3/\3<=3/\True)/\0<3/\3=3/\3<=16777216/\1<=9223372036854775807)/\A_ (rvK q)=Ab/\Aa (AD<|rvK q)=i*3/\i*3=i*3/\A6 (rvK q)=95/\A7 (rvK q)=3/\3=3/\0<3/\0<32/\95=95/\(i+1)*32<=140737488355328/\3=3/\A0 (AF<|rvK q)=Ac/\(Ac=Ac\/A1 (AF<|rvK q)=Ab))<|vnil<|zE<|vN<|zA rfl<|vr 2 (i6 (↑i+1))<|vnil<|zC<|⟨i+1,by omega,by omega,?_⟩;rw[hcs];refine vk 1
 obtain rfl:i=r.length:=by omega
 rw[A5];rw[A5]at hl3;have ht:(zK r).take (r.length*3)=zK r:=AN (by omega);refine vAu<|zB<|vF ((Aa r:Int)<↑(Aa r))<|vZ2<|vAe<|zJ<|zAs (True) (Ae (Ai (Aa r*3)<|Ag 0<|AD<|rvK<|zK r)<|Aa r) (Ae (zK r)<|Aa r) (.inr rfl) (by simp(disch:=omega) only[AJ,ht]) rfl
theorem rowsL_c(L:List Rw)(n:Nat)(hn:L.length=n)(hb:n<=2000000)(hl:∀r∈L,r.length<=2000000):Pure Ao 41 [.row (L.map rowV) n] [] (.row (L.map rowV) n):=by
 subst hn;refine zH zAf mixed Tryz.func41 rfl<|vAu<|vAe<|zB<|vAe<|zF<|zQ (λ(i:Nat)=>fr 19 [(2,nl),(3,Aj 0 0 i i Ab),(6,Ae (Ad rowV L)<|Aa L),(7,iD (Aa L:Int)),(8,iD (i:Int))]) (λ(i:Nat)=>[rrB<|(L.take i).map rowV]) (λi=>L.length-i) (λ(i:Nat)=>i<=L.length) 0 ?_ ?_ ?_
 ·omega
 ·refine vk 0
 rintro i h1;have hl1:((L.take i).map rowV).length=i:=by rw[Al,AU,BZ h1]
 rcases An i L.length with h2|h2
 ·have hg:=zDv L i h2;have hne:L.map rowV≠[]:=zAb;have hrl:=zV3 (L.getD i []) _ rfl (hl _ (zAc L [] i h2));have hcs:(L.take (i+1)).map rowV=(L.take i).map rowV++[rowV (L.getD i [])]:=by
   rw[Bp h2,Bd,Am,Aw h2];rfl
  generalize (L.take i).map rowV=q at*;generalize L.getD i []=r at*;refine vAu<|zB<|vT ((i:Int)<↑(Aa L))<|vKB<|vA<|vr 1 (ix ↑i ↑(Aa L) (Ad rowV L≠[]))<|vp 10 i (Ad rowV L)<|vr 1 (0<Aa (Ag i<|Ad rowV L))<|vsh 11 hg<|veT<|zA rfl<|vrT 2<|vc hrl<|vr 3 (((1=1/\1<=1/\True)/\0<1/\1=1/\1<=16777216/\1<=9223372036854775807)/\A_ (rrB q)=Ab/\Aa (AD<|rrB q)=i*1/\i=i*1/\A6 (rrB q)=55/\A7 (rrB q)=1/\1=1/\0<1/\0<24/\55=55/\(i+1)*24<=140737488355328/\1=1/\A0 (AF<|rrB q)=Ac/\(Ac=Ac\/A1 (AF<|rrB q)=Ab))<|vs 3 (Aj 0 0 (i+1) ((i+1)*1) Ab) (Aj 0 0 (i+1) (i+1) Ab) (hd:=by simp(disch:=omega) only[A8])<|vnil<|zE<|vN<|zA rfl<|vr 2 (i6 (↑i+1))<|vnil<|zC<|⟨i+1,by omega,by omega,?_⟩;rw[hcs];refine vk 1
 obtain rfl:i=L.length:=by omega
 rw[A5];have ht:(L.map rowV).take L.length=L.map rowV:=AN (by simp);refine vAu<|zB<|vF ((Aa L:Int)<↑(Aa L))<|vZ2<|vAe<|zJ<|zAs (True) (Ae (Ai (Aa L)<|Ag 0<|AD<|rrB<|Ad rowV L)<|Aa L) (Ae (Ad rowV L)<|Aa L) (.inr rfl) (by simp(disch:=omega) only[AJ,ht]) rfl
def grtR(r:Rw):Bool:=decide (8<r.length)||r.any λv=>decide (60<v.str.length)
theorem great_c(r:Rw)(hb:r.length<=2000000)(hs:∀v∈r,v.str.length<=2000000):Pure Ao 31 [.row [rowV r] 1] [] (bD (grtR r)):=by
 refine zH zAf mixed Tryz.func31 rfl<|vAu<|zB<|vAe<|zF<|zQ (λ(i:Nat)=>fr 31 [(0,Ae [rowV r] 1),(7,Ae [Ae (zK r)<|Aa r] 1),(8,iD (↑(1:Nat):Int)),(9,iD (i:Int))]) (λ(i:Nat)=>[]) (λi=>1-i) (λ(i:Nat)=>i=0\/i=1/\grtR r=Ac) 0 ?_ ?_ ?_
 ·exact .inl rfl
 ·refine vk 0
 rintro i (rfl|⟨rfl,h2⟩);case inr=>
  rw[h2];refine vAu<|zB<|vf<|vZ2<|vAe<|zJ<|vret (True)<|.inr rfl
 by_cases h8:8<r.length
 ·have hg:grtR r=true:=by unfold grtR;rw[decide_eq_true h8];rfl
  rw[hg];refine vAu<|zB<|vt<|vKB<|vA<|ve (ix ↑(0:Nat) ↑(1:Nat) ([(q3_ r)]≠[])/\0<1)<|zB<|vAe<|vT ((Aa r:Int)>(8:Int))<|vAe<|zJ<|zG<|zN<|zG<|zG<|zN ?_;refine zG<|vret (True)<|.inr rfl
 have hg:grtR r=r.any λv=>decide (60<v.str.length):=by unfold grtR;rw[decide_eq_false h8,Cf]
 rw[hg];refine vAu<|zB<|vt<|vKB<|vA<|ve (ix ↑(0:Nat) ↑(1:Nat) ([(q3_ r)]≠[])/\0<1)<|zB<|vAe<|vF ((Aa r:Int)>(8:Int))<|vK<|vAe<|zF<|zQ (λ(j:Nat)=>fr 31 [(0,Ae [rowV r] 1),(7,Ae [(q3_ r)] 1),(8,iD ↑(1:Nat)),(9,iD ↑(0:Nat)),(16,(q3_ r)),(17,iD<|Aa r),(18,iD j)]) (λ(j:Nat)=>[]) (λj=>r.length-j) (λ(j:Nat)=>j<=r.length/\(r.take j).any (λv=>decide (60<v.str.length))=Ac) 0 ?_ ?_ ?_
 ·exact⟨by omega,rfl⟩
 ·refine vk 0
 rintro j ⟨j1,j2⟩;rcases An j r.length with j3|j3
 ·have hin:=zAc r Af j j3;have hss:=hs _ hin;have htk:=zAr r j j3;have hany:60<(r.getD j Af).str.length->(r.any λv=>decide (60<v.str.length))=true:=λhh=>Bo.2 ⟨_,hin,decide_eq_true hh⟩;have htv:=zA2 r j j3;have hva:=zB8 r (by omega);have hv3:=zBt r j j3;generalize r.getD j Af=v at*;obtain⟨ka,ia,str⟩:=v;simp only at hany hss;have hsz:(bs str).size=str.length:=bs_size str;by_cases h60:60<str.length
  ·rw[hany h60];refine vAu<|zB<|vT ((j:Int)<↑(Aa r))<|vKB<|vA<|vr 2 (ix ↑j ↑(Aa r) (zK r≠[])/\3<=Aa (Ag (j*3)<|zK r))<|vs 21 (Ar<|Ai 3<|Ag (j*3)<|zK r) (Ar<|vaC<|BI ka ia str) (hd:=by simp(disch:=omega) only[htv])<|ve (Ac=Ac/\Ab=Ab/\3=3/\3<=3)<|vA<|ve (True/\0<1)<|vT ((Aa str:Int)>(60:Int))<|vAe<|zJ<|zN<|zG<|zG<|zN ?_;refine zN<|zG<|zG<|zN<|zG<|vret (True)<|.inr rfl
  refine vAu<|zB<|vT ((j:Int)<(Aa r:Int))<|vKB<|vA<|vr 2 (ix (j:Int) (Aa r:Int) (zK r≠[])/\3<=Aa (Ag (j*3)<|zK r))<|vs 21 (Ar<|Ai 3<|Ag (j*3)<|zK r) (Ar<|vaC<|BI ka ia str) (hd:=by simp(disch:=omega) only[htv])<|ve (Ac=Ac/\Ab=Ab/\3=3/\3<=3)<|vA<|ve (True/\0<1)<|vF ((Aa str:Int)>(60:Int))<|zL<|zE<|vN<|zA rfl<|vr 2 (i6 ((j:Int)+(1:Int)))<|vnil<|zC<|⟨j+1,⟨by omega,?_⟩,by omega,?_⟩
  ·rw[htk,List.any_append,j2];simpa using h60
  refine vk 0
 rw[AN j3]at j2;obtain rfl:j=r.length:=by omega
 refine vAu<|zB<|vF ((Aa r:Int)<↑(Aa r))<|vY2<|zE<|vN<|zA rfl<|vr 2 (i6 (↑(0:Nat)+1))<|vnil<|zC ?_;exact⟨1, .inr ⟨rfl,j2⟩,by omega,by refine vk 0⟩
abbrev raN(a:List Nat×List Rw):List D:=[.row (nsD a.1) a.1.length, .row (a.2.map rowV) a.2.length]
theorem zCb(a:List Nat×List Rw):(raN a).length=2:=rfl
set_option maxHeartbeats 2000000 in
theorem atoms_c(z0 z1:Int)(cs2 cs3:List D)(m2 m3:Nat)(A:List (List Nat×List Rw))(hA:A.length<=1000)(h:∀a∈A,a.2.length<=10000/\∀r∈a.2,r.length<=2000000):Pure Ao 13 [.agg (inpA (iD z0) (iD z1) (.row cs2 m2) (.row cs3 m3) A)] [] (.row (A.flatMap raN) A.length):=by
 refine zH zAf mixed Tryz.func13 rfl<|vAu<|vAe<|zB<|vA<|ve (True/\0<1)<|zF<|zQ (λ(i:Nat)=>fr 25 [(2,nl),(3,Aj 1 0 i (i*2) Ab),(7,Ae (Ah atN A)<|Aa A),(8,iD (Aa A:Int)),(9,iD (i:Int))]) (λ(i:Nat)=>[⟨inpA (iD z0) (iD z1) (.row cs2 m2) (.row cs3 m3) A,32,0,Ac,Ac,.plain⟩,⟨(A.take i).flatMap raN,94,2,Ab,Ac,.plain⟩]) (λi=>A.length-i) (λ(i:Nat)=>i<=A.length) 0 ?_ ?_ ?_
 ·omega
 ·refine vk 1
 rintro i h1;have hl1:((A.take i).flatMap raN).length=i*2:=by rw[zEl zCb,AU,BZ h1]
 rcases An i A.length with h2|h2
 ·have hg:=zFi zAk A i h2;have hle:=zDd zAk A i h2;have hne:=zDc zAk (by decide) A;obtain⟨k1,k2⟩:=h _ (zAc A Af i h2);have hrr:=rRows_c ((A.getD i Af).1.length:Nat) (A.getD i Af).2 (by omega) k2;have hrl:=rowsL_c (A.getD i Af).2 _ rfl (by omega) k2;have hcs:(A.take (i+1)).flatMap raN=(A.take i).flatMap raN++raN (A.getD i Af):=by
   rw[zAr A i h2,BE];simp
  generalize (A.take i).flatMap raN=q at*;generalize A.getD i Af=a at*;obtain⟨V,R⟩:=a;refine vAu<|zB<|vT ((i:Int)<↑(Aa A))<|vKB<|vA<|vr 1 (ix ↑i ↑(Aa A) (Ah atN A≠[]))<|vs 11 (AB<|Ag (Ak (i:Int)*3)<|Ah atN A) (AB (Ae (Ad (λ(v:Nat)=>iD v) V) (Aa V)::iD (Aa V)::Ae (Ad rowV R) (Aa R)::Ah atN (Ag (i+1) A))) (hd:=by simp(disch:=omega) only[AA,AO,AS,hg])<|ve (3<=Aa (Ae (Ad (λ(v:Nat)=>iD v) V) (Aa V)::iD (Aa V)::Ae (Ad rowV R) (Aa R)::Ah atN (Ag (i+1) A))/\Ac=Ac/\Ab=Ab/\3=3/\3<=3)<|vd [0,1,3,2,4,5,6,7,8,9,10]<|vr 5 (True/\True/\0<3/\2<=2)<|vc hrr<|vc hrl<|vr 4 (((1=1/\1<=2/\1=1/\2<=2/\True)/\Ab=Ab)/\((2=2/\2<=2/\True)/\0<2/\2=2/\2<=16777216/\1<=9223372036854775807)/\Ab=Ab/\Aa q=i*2/\i*2=i*2/\94=94/\2=2/\2=2/\0<2/\0<48/\94=94/\(i+1)*48<=140737488355328/\2=2/\A0 AC=Ac/\(Ac=Ac\/A1 AC=Ab))<|vnil<|zE<|vN<|zA rfl<|vr 2 (i6 (↑i+1))<|vnil<|zC<|⟨i+1,by omega,by omega,?_⟩;rw[hcs];refine vk 2
 obtain rfl:i=A.length:=by omega
 rw[A5];have ht:=zFg zCb A A.length rfl;refine vAu<|zB<|vF ((Aa A:Int)<↑(Aa A))<|vZ2<|vAe<|zJ<|zAs (True) (Ae (Ai (Aa A*2)<|Ag 0<|Ah raN A)<|Aa A) (Ae (Ah raN A)<|Aa A) (.inr rfl) (by simp(disch:=omega) only[AJ,ht]) rfl
structure RaOk(A:List (List Nat×List Rw)):Prop where
 l:A.length<=1000
 v:∀a∈A,a.1.length<=1000
 r:∀a∈A,a.2.length<=10
 s:∀a∈A,∀r∈a.2,Sho r
 e:∀a∈A,∀r∈a.2,r.length=a.1.length
abbrev raK(a:List Nat×List Rw):Bk:=⟨raN a,94,0,Ac,Ac, .plain⟩
set_option maxHeartbeats 4000000 in
theorem zXs(a:List Nat×List Rw)(known:Rw)(hV:a.1.length<=1000)(hR:a.2.length<=10)(hs:∀r∈a.2,Sho r)(he:∀r∈a.2,r.length=a.1.length)(hk:Sho known):Pure Ao 47 [.agg (raN a),rowV known] [] (bD (alwR known a)):=by
 obtain⟨V,R⟩:=a;simp only at hV hR hs he;have hk1:=hk.1;refine zH zAf mixed Tryz.func47 rfl<|vAu<|zB<|vAe<|zF<|zQ (λ(i:Nat)=>fr 51 [(1,rowV known),(2,AH 0 0),(5,iD (i:Int))]) (λ(i:Nat)=>[raK (V,R)]) (λi=>R.length-i) (λ(i:Nat)=>i<=R.length/\(R.take i).any (agrR known V)=Ac) 0 ?_ ?_ ?_
 ·exact⟨by omega,rfl⟩
 ·refine vk 1
 rintro i ⟨i1,i2⟩;rcases An i R.length with i3|i3;case inr=>
  rw[AN i3]at i2;have ha:alwR known (V,R)=false:=i2;rw[ha];refine zB<|vAs<|ve (True/\0<1)<|vF ((i:Int)<↑(Aa R))<|vZ2<|vAe<|zJ<|vret (True)<|.inr rfl
 have hin:=zAc R [] i i3;have hg:=zDv R i i3;have hne:R.map rowV≠[]:=zAb;have hsr:=hs _ hin;have hlr:=he _ hin;have htk:R.take (i+1)=R.take i++[R.getD i []]:=by
  rw[Bp i3,Am,Aw i3];rfl
 have hyes:agrR known V (R.getD i [])=Ab->alwR known (V,R)=true:=λhh=>Bo.2 ⟨_,hin,hh⟩;generalize R.getD i []=r at*;refine zB<|vAs<|ve (True/\0<1)<|vT ((i:Int)<↑(Aa R))<|vKB<|vAe<|zB<|vAe<|zF<|zAu (λ(k:Nat)(b:Bool)=>fr 51 [(1,rowV known),(2,AH 0 0),(5,iD i),(6,bD b),(7,iD k)]) (λ(k:Nat)(b:Bool)=>[raK (V,R)]) (λk b=>V.length-k) (λ(k:Nat)(b:Bool)=>k<=V.length/\b=(Ap k).all λk=>decide (V.getD k 0<known.length->r.getD k Af=known.getD (V.getD k 0) Af)) 0 Ab ?_ ?_ ?_
 ·exact⟨by omega,rfl⟩
 ·refine vk 1
 rintro k b ⟨k1,k2⟩;rcases An k V.length with k3|k3
 ·have hx:=zAp V k k3;have hn1:nsD V≠[]:=zAb;have hst:(Ap (k+1)).all (λk=>decide (V.getD k 0<known.length->r.getD k Af=known.getD (V.getD k 0) Af))=(b&&decide (V.getD k 0<known.length->r.getD k Af=known.getD (V.getD k 0) Af)):=by
   rw[BA,List.all_append,<-k2];simp
  have htv:=zA2 r k (by omega);have hva:=zB8 r (by omega);have hv3:=zBt r k (by omega);have hs1:=hsr.at (i:=k) (by omega);generalize V.getD k 0=v at*;by_cases hv:v<known.length
  ·have htw:=zA2 known v hv;have hwa:=zB8 known (by omega);have hw3:=zBt known v hv;have hc:=zZb _ _ hs1 (hk.at hv);have hz:=(zBo (r.getD k Af) (known.getD v Af)).2.1;generalize r.getD k Af=y at*;generalize known.getD v Af=w at*;by_cases he2:y=w
   ·rw[hz.2 he2]at hc;rw[decide_eq_true (λ_=>he2),Bool.and_true]at hst;refine zB<|vAs<|ve (True/\0<2)<|vT ((k:Int)<↑(Aa V))<|vKB<|zB<|vd [0,2,5,6,1,3,4,7,8,9,11,14,17,18,20,10,12,13,15,16,19,21,22,23,24,25,26,27]<|vr 6 (True/\0<2/\ix ↑k ↑(Aa V) (nsD V≠[]))<|vp 25 k (nsD V)<|vr 1 (0<Aa (Ag k<|nsD V))<|vsh 26 hx<|vw 10 [] [(8,Ab)] (decide ((v:Int)<↑(Aa known))=Ab/\True/\True/\0<1/\ix ↑i ↑(Aa R) (Ad rowV R≠[]))<|vp 34 i (Ad rowV R)<|vr 1 (0<Aa (Ag i<|Ad rowV R))<|vsh 35 hg<|vr 2 (ix ↑k ↑(Aa r) (zK r≠[])/\3<=Aa (Ag (k*3)<|zK r))<|vs 38 (Ar<|Ai 3<|Ag (k*3)<|zK r) (Ar<|vaC y) (hd:=by simp(disch:=omega) only[htv])<|vr 2 (0<2/\ix ↑k ↑(Aa V) (nsD V≠[]))<|vp 43 k (nsD V)<|vr 1 (0<Aa (Ag k<|nsD V))<|vsh 44 hx<|vr 2 (ix ↑v ↑(Aa known) (zK known≠[])/\3<=Aa (Ag (v*3)<|zK known))<|vs 46 (Ar<|Ai 3<|Ag (v*3)<|zK known) (Ar<|vaC w) (hd:=by simp(disch:=omega) only[htw])<|vc hc<|veT<|vf<|zL<|zE<|vN<|zA rfl<|vr 3 (i6 (↑k+1))<|vnil<|zC<|⟨k+1,b,⟨by omega,hst.symm⟩,by omega,?_⟩;refine vk 1
   have hne2:vcmp y w≠0:=λe=>he2 (hz.1 e);rw[decide_eq_false (λh=>he2 (h hv)),Bool.and_false]at hst;generalize vcmp y w=z at*;have hz2:(z !=0)=true:=bne_iff_ne.2 hne2;refine zB<|vAs<|ve (True/\0<2)<|vT ((k:Int)<↑(Aa V))<|vKB<|zB<|vd [0,2,5,6,1,3,4,7,8,9,11,14,17,18,20,10,12,13,15,16,19,21,22,23,24,25,26,27]<|vr 6 (True/\0<2/\ix ↑k ↑(Aa V) (nsD V≠[]))<|vp 25 k (nsD V)<|vr 1 (0<Aa (Ag k<|nsD V))<|vsh 26 hx<|vw 10 [] [(8,Ab)] (decide ((v:Int)<↑(Aa known))=Ab/\True/\True/\0<1/\ix ↑i ↑(Aa R) (Ad rowV R≠[]))<|vp 34 i (Ad rowV R)<|vr 1 (0<Aa (Ag i<|Ad rowV R))<|vsh 35 hg<|vr 2 (ix ↑k ↑(Aa r) (zK r≠[])/\3<=Aa (Ag (k*3)<|zK r))<|vs 38 (Ar<|Ai 3<|Ag (k*3)<|zK r) (Ar<|vaC y) (hd:=by simp(disch:=omega) only[htv])<|vr 2 (0<2/\ix ↑k ↑(Aa V) (nsD V≠[]))<|vp 43 k (nsD V)<|vr 1 (0<Aa (Ag k<|nsD V))<|vsh 44 hx<|vr 2 (ix ↑v ↑(Aa known) (zK known≠[])/\3<=Aa (Ag (v*3)<|zK known))<|vs 46 (Ar<|Ai 3<|Ag (v*3)<|zK known) (Ar<|vaC w) (hd:=by simp(disch:=omega) only[htw])<|vc hc<|vrT 1<|vs 48 (bD (z !=(0:Int))) (bD Ab) (hd:=by simp(disch:=omega) only[hz2])<|veT<|vt<|zA rfl<|vrT 1<|vnil<|zE<|vN<|zA rfl<|vr 3 (i6 (↑k+1))<|vnil<|zC<|⟨k+1,Ac,⟨by omega,hst.symm⟩,by omega,?_⟩;refine vk 1
  rw[decide_eq_true (λh=>absurd h hv),Bool.and_true]at hst;refine zB<|vAs<|ve (True/\0<2)<|vT ((k:Int)<↑(Aa V))<|vKB<|zB<|vd [0,2,5,6,1,3,4,7,8,9,11,14,17,18,20,10,12,13,15,16,19,21,22,23,24,25,26,27]<|vr 6 (True/\0<2/\ix ↑k ↑(Aa V) (nsD V≠[]))<|vp 25 k (nsD V)<|vr 1 (0<Aa (Ag k<|nsD V))<|vsh 26 hx<|vew [] [(8,Ac)] (decide ((v:Int)<↑(Aa known))=Ac)<|vf<|zL<|zE<|vN<|zA rfl<|vr 3 (i6 (↑k+1))<|vnil<|zC<|⟨k+1,b,⟨by omega,hst.symm⟩,by omega,?_⟩;refine vk 1
 obtain rfl:k=V.length:=by omega
 have k2:b=agrR known V r:=k2;cases b
 ·refine zB<|vAs<|ve (True/\0<2)<|vF ((Aa V:Int)<(Aa V:Int))<|vZ2<|vAe<|vf<|zL<|zE<|vN<|zA rfl<|vr 3 (i6 ((i:Int)+(1:Int)))<|vnil<|zC<|⟨i+1,⟨by omega,?_⟩,by omega,?_⟩
  ·rw[htk,List.any_append,i2,List.any_cons,<-k2];rfl
  refine vk 1
 rw[hyes k2.symm];refine zB<|vAs<|ve (True/\0<2)<|vF ((Aa V:Int)<↑(Aa V))<|vZ2<|vAe<|vt<|vAe<|zJ<|zN<|zG<|zG<|zN<|zG<|vret (True)<|.inr rfl
def valL(A:List (List Nat×List Rw))(v:Nat):List Rw:=match A.find? λa=>decide (v∈a.1)with
 |none=>[]
 |some a=>prjL [a.1.idxOf v] a.2
theorem valL_F(A:List (List Nat×List Rw))(v:Nat):valF A v=(valL A v).map λx=>x.getD 0 default:=by
 unfold valF valL;cases A.find? (λa=>decide (v∈a.1))<;>rfl
theorem valL_at{A:List (List Nat×List Rw)}{v:Nat}:∀{i:Nat},i<A.length->v∈(A.getD i Af).1->(∀j,j<i->v∉(A.getD j Af).1)->A.find? (λa=>decide (v∈a.1))=Ax (A.getD i Af):=by
 induction A with
 |nil=>intro i h;cases h
 | cons a A ih=>
  intro i hi h1 h2;cases i with
  |zero=>
   have h1:v∈a.1:=h1;rw[List.find?_cons_of_pos (by simpa using h1)];rfl
  |succ i=>
   have h0:v∉a.1:=h2 0 (by omega);rw[List.find?_cons_of_neg (by simpa using h0)];exact ih (by simpa using hi) (by simpa using h1) (λj hj=>by simpa using h2 (j+1) (by omega))
theorem valL_no{A:List (List Nat×List Rw)}{v:Nat}(h:∀j,j<A.length->v∉(A.getD j Af).1):valL A v=[]:=by
 unfold valL;have:A.find? (λa=>decide (v∈a.1))=none:=B_.2 λa ha=>by
  obtain⟨j,hj,rfl⟩:=BY ha
  have:=h j hj
  rw[Am,Aw hj]at this;simpa using this
 rw[this]
theorem valL_one{A:List (List Nat×List Rw)}(v:Nat):∀x∈valL A v,x.length=1:=λx hx=>by
 unfold valL at hx;split at hx
 ·cases hx
 exact(zM2 _ _).2.2.2 x hx
theorem idx_first{V:List Nat}{v k:Nat}(hk:k<V.length)(h:V.getD k 0=v)(hn:∀q,q<k->V.getD q 0≠v):V.idxOf v=k:=by
 have h1:v∈V:=h▸zAc V 0 k hk;have h2:=BP.2 h1;have h3:V.getD (V.idxOf v) 0=v:=by
  rw[Am,Aw h2];exact B6 h2
 rcases CM (V.idxOf v) k with h4|h4|h4
 ·exact absurd h3 (hn _ h4)
 ·exact h4
 have:=List.not_of_lt_findIdx (p:=λx=>x==v) (xs:=V) (i:=k) h4
 rw[Am,Aw hk]at h;have h:V[k]=v:=h;rw[h]at this;simp at this
set_option maxHeartbeats 4000000 in
theorem values_c{A:List (List Nat×List Rw)}(hA:RaOk A)(v:Nat)(hv:v<=1000000):Pure Ao 48 [iD (v:Nat), .row (A.flatMap raN) A.length] [] (.row (zK (valF A v)) (valF A v).length):=by
 have hAl:=hA.l;refine zH zAf mixed Tryz.func48 rfl<|vAu<|vAe<|zB<|vAe<|zF<|zAu (λ(i:Nat)(O:List Rw)=>fr 62 [(0,iD (v:Int)),(1,Ae (Ah raN A)<|Aa A),(4,nl),(5,Ae (Ad rowV O)<|Aa O),(6,iD (i:Int))]) (λ(i:Nat)(O:List Rw)=>[]) (λi O=>A.length+1-i) (λ(i:Nat)(O:List Rw)=>(i<=A.length/\O=[]/\∀j,j<i->v∉(A.getD j Af).1)\/(i=A.length+1/\O=valL A v)) 0 [] ?_ ?_ ?_
 ·exact .inl ⟨by omega,rfl,λj hj=>by omega⟩
 ·refine vk 0
 rintro i O hJ;have hend:A.length<=i->O=valL A v:=λhi=>by
  rcases hJ with⟨h1,h2,h3⟩|⟨h1,h2⟩
  ·obtain rfl:i=A.length:=by omega
   rw[h2,valL_no h3]
  exact h2
 rcases An i A.length with i3|i3;case inr=>
  obtain rfl:=hend i3;have hil:i<=1001:=by rcases hJ with⟨h1,_⟩|⟨h1,_⟩<;>omega
  have hone:=valL_one (A:=A) v;have hlen:(valL A v).length<=10:=by
   have:=zJ9 A hA.r v
   rw[valL_F,Al]at this;exact this
  rw[valL_F];generalize valL A v=O at*;clear hend hJ;have hpl:(O.map λx=>x.getD 0 Af).length=O.length:=Al _;rw[hpl];refine zB<|vAu<|vF ((i:Int)<↑(Aa A))<|vZ2<|vAe<|zB<|vAe<|zF<|zQ (λ(q:Nat)=>fr 62 [(4,nl),(5,Ae (Ad rowV O)<|Aa O),(8,Aj 0 0 q (q*3) Ab),(9,iD q)]) (λ(q:Nat)=>[rvK<|zK<|(O.map λx=>x.getD 0 Af).take q]) (λq=>O.length-q) (λ(q:Nat)=>q<=O.length) 0 ?_ ?_ ?_
  ·omega
  ·refine vk 0
  rintro q q1;have hl3:(zK ((O.map λx=>x.getD 0 Af).take q)).length=q*3:=by rw[zAj,AU,hpl,BZ q1]
  rcases An q O.length with q2|q2
  ·have hg:=zDv O q q2;have hne:O.map rowV≠[]:=zAb;have hx1:=hone _ (zAc O [] q q2);have hcs:zK ((O.map λx=>x.getD 0 Af).take (q+1))=zK ((O.map λx=>x.getD 0 Af).take q)++vaC ((O.getD q []).getD 0 Af):=by
    rw[zAr _ q (by omega),zCr];have e:(O.map λx=>x.getD 0 Af).getD q Af=(O.getD q []).getD 0 default:=by
     rw[Am,BL,Aw q2,Am (l:=O),Aw q2];rfl
    rw[e];simp[zK]
   generalize zK ((O.map λx=>x.getD 0 Af).take q)=c at*;generalize O.getD q []=x at*;obtain⟨w,rfl⟩:∃w,x=[w]:=by
    match x,hx1 with
    |[w],_=>exact⟨w,rfl⟩
   have hcw:zK [w]=vaC w:=by simp[zK]
   have hrw:rowV [w]= .row (vaC w) 1:=by show Ae (zK [w]) 1=_;rw[hcw]
   rw[hrw]at hg;obtain⟨ka,ia,sa⟩:=w;have hcs:zK ((O.map λx=>x.getD 0 Af).take (q+1))=c++vaC ⟨ka,ia,sa⟩:=hcs;refine zB<|vAu<|vT ((q:Int)<↑(Aa O))<|vKB<|zA rfl<|vr 4 (ix ↑q ↑(Aa O) (Ad rowV O≠[]))<|vp 55 q (Ad rowV O)<|vr 1 (0<Aa (Ag q<|Ad rowV O))<|vsh 56 hg<|vr 5 (ix (0:Int) (↑(1:Nat):Int) (vaC (BI ka ia sa)≠[])/\3<=3/\((3=3/\3<=3/\True)/\0<3/\3=3/\3<=16777216/\1<=9223372036854775807)/\A_ (rvK c)=Ab/\Aa (AD<|rvK c)=q*3/\q*3=q*3/\A6 (rvK c)=95/\A7 (rvK c)=3/\3=3/\0<3/\0<32/\95=95/\(q+1)*32<=140737488355328/\3=3/\A0 (AF<|rvK c)=Ac/\(Ac=Ac\/A1 (AF<|rvK c)=Ab))<|vnil<|zE<|vN<|zA rfl<|vr 3 (i6 (↑q+1))<|vnil<|zC<|⟨q+1,by omega,by omega,?_⟩;rw[hcs];refine vk 1
  obtain rfl:q=O.length:=by omega
  rw[AN (by omega)]at hl3⊢;have ht:(zK (O.map λx=>x.getD 0 Af)).take (O.length*3)=zK (O.map λx=>x.getD 0 Af):=AN (by omega);refine zB<|vAu<|vF ((Aa O:Int)<↑(Aa O))<|vZ2<|vAe<|zJ<|zAs (True) (Ae (Ai (Aa O*3)<|Ag 0<|AD<|rvK<|zK<|Ad (λ(x:Rw)=>AQ x 0 Af) O)<|Aa O) (Ae (zK<|Ad (λ(x:Rw)=>AQ x 0 Af) O)<|Aa O) (.inr rfl) (by simp(disch:=omega) only[AJ,ht]) rfl
 obtain⟨h1,rfl,h3⟩:i<=A.length/\O=[]/\∀j,j<i->v∉(A.getD j Af).1:=by
  rcases hJ with hJ|⟨hJ,_⟩
  ·exact hJ
  omega
 have hg:=zFi zCb A i i3;have hle:=zDd zCb A i i3;have hne:=zDc zCb (by decide) A;have hin:=zAc A Af i i3;have hVl:=hA.v _ hin;have hRl:=hA.r _ hin;have hRs:=hA.s _ hin;have hRe:=hA.e _ hin;have hval:v∈(A.getD i Af).1->valL A v=prjL [(A.getD i Af).1.idxOf v] (A.getD i Af).2:=λhm=>by
  unfold valL;rw[valL_at i3 hm h3]
 have hno:v∉(A.getD i Af).1->∀j,j<i+1->v∉(A.getD j Af).1:=λhm j hj=>by
  rcases An j i with h4|h4
  ·exact h3 j h4
  obtain rfl:j=i:=by omega
  exact hm
 generalize A.getD i Af=a at*;obtain⟨V,R⟩:=a;simp only at hVl hRl hRs hRe hval hno;refine zB<|vAu<|vT ((i:Int)<↑(Aa A))<|vKB<|vAe<|zF<|zQ (λ(k:Nat)=>fr 62 [(0,iD v),(1,Ae (Ah raN A)<|Aa A),(4,nl),(5,Ae [] 0),(6,iD i),(7,iD k)]) (λ(k:Nat)=>[]) (λk=>V.length-k) (λ(k:Nat)=>k<=V.length/\∀q,q<k->V.getD q 0≠v) 0 ?_ ?_ ?_
 ·exact⟨by omega,λq hq=>by omega⟩
 ·refine vk 0
 rintro k ⟨k1,k2⟩;rcases An k V.length with k3|k3
 ·have hx:=zAp V k k3;have hn1:nsD V≠[]:=zAb;by_cases hvk:V.getD k 0=v
  ·have hid:=idx_first k3 hvk k2;have hvm:v∈V:=hvk▸zAc V 0 k k3;have hpj:=zX8 R [k] R.length 1 rfl rfl (by omega) (by omega) λy hy=>⟨hRs y hy,λc hc=>by rw[A4.1 hc,hRe y hy];exact k3⟩;have hv2:=hval hvm;rw[hid]at hv2;rw[<-hv2]at hpj;rw[hvk]at hx;have e2:(((v:Nat):Int)==((v:Nat):Int))=true:=beq_self_eq_true _;generalize valL A v=O at*;refine zB<|vAs<|vr 4 (ix ↑i ↑(Aa A) (Ah raN A≠[]))<|vs 19 (AB<|Ag (Ak (i:Int)*2)<|Ah raN A) (AB (Ae (nsD V) (Aa V)::Ae (Ad rowV R) (Aa R)::Ah raN (Ag (i+1) A))) (hd:=by simp(disch:=omega) only[AA,AO,AS,hg])<|ve (True/\0<Aa (Ae (nsD V) (Aa V)::Ae (Ad rowV R) (Aa R)::Ah raN (Ag (i+1) A)))<|vT ((k:Int)<↑(Aa V))<|vKB<|vA<|vr 3 (ix ↑i ↑(Aa A) (Ah raN A≠[]))<|vs 28 (AB<|Ag (Ak (i:Int)*2)<|Ah raN A) (AB (Ae (nsD V) (Aa V)::Ae (Ad rowV R) (Aa R)::Ah raN (Ag (i+1) A))) (hd:=by simp(disch:=omega) only[AA,AO,AS,hg])<|vr 4 (True/\0<Aa (Ae (nsD V) (Aa V)::Ae (Ad rowV R) (Aa R)::Ah raN (Ag (i+1) A))/\ix ↑k ↑(Aa V) (nsD V≠[]))<|vp 32 k (nsD V)<|vr 1 (0<Aa (Ag k<|nsD V))<|vsh 33 hx<|vrT 2<|vs 35 (bD ((v:Int)==↑v)) (bD Ab) (hd:=by simp(disch:=omega) only[e2])<|veT<|vt<|vA<|vr 3 (ix ↑i ↑(Aa A) (Ah raN A≠[]))<|vs 38 (AB<|Ag (Ak (i:Int)*2)<|Ah raN A) (AB (Ae (nsD V) (Aa V)::Ae (Ad rowV R) (Aa R)::Ah raN (Ag (i+1) A))) (hd:=by simp(disch:=omega) only[AA,AO,AS,hg])<|vr 4 (True/\0<Aa (Ae (Ad rowV R) (Aa R)::Ah raN (Ag (i+1) A))/\(1=1/\1<=1/\True)/\0<1/\1=1/\1<=16777216/\1<=9223372036854775807)<|vc hpj<|veT<|vAe<|zV<|zYv (by decide)<|zM<|zM<|zS rfl<|zE<|vN<|zA rfl<|vr 3 (i6 (↑(Aa A)+1))<|vnil<|zC<|⟨A.length+1,O,.inr ⟨rfl,rfl⟩,by omega,?_⟩;refine vk 0
  have hv2:(((V.getD k 0:Nat):Int)==(v:Nat))=false:=beq_eq_false_iff_ne.2 λe=>hvk (by omega);have hk2:∀q,q<k+1->V.getD q 0≠v:=λq hq=>by
   rcases An q k with h4|h4
   ·exact k2 q h4
   obtain rfl:q=k:=by omega
   exact hvk
  generalize V.getD k 0=u at*;refine zB<|vAs<|vr 4 (ix ↑i ↑(Aa A) (Ah raN A≠[]))<|vs 19 (AB<|Ag (Ak (i:Int)*2)<|Ah raN A) (AB (Ae (nsD V) (Aa V)::Ae (Ad rowV R) (Aa R)::Ah raN (Ag (i+1) A))) (hd:=by simp(disch:=omega) only[AA,AO,AS,hg])<|ve (True/\0<Aa (Ae (nsD V) (Aa V)::Ae (Ad rowV R) (Aa R)::Ah raN (Ag (i+1) A)))<|vT ((k:Int)<↑(Aa V))<|vKB<|vA<|vr 3 (ix ↑i ↑(Aa A) (Ah raN A≠[]))<|vs 28 (AB<|Ag (Ak (i:Int)*2)<|Ah raN A) (AB (Ae (nsD V) (Aa V)::Ae (Ad rowV R) (Aa R)::Ah raN (Ag (i+1) A))) (hd:=by simp(disch:=omega) only[AA,AO,AS,hg])<|vr 4 (True/\0<Aa (Ae (nsD V) (Aa V)::Ae (Ad rowV R) (Aa R)::Ah raN (Ag (i+1) A))/\ix ↑k ↑(Aa V) (nsD V≠[]))<|vp 32 k (nsD V)<|vr 1 (0<Aa (Ag k<|nsD V))<|vsh 33 hx<|vrT 2<|vs 35 (bD ((u:Int)==↑v)) (bD Ac) (hd:=by simp(disch:=omega) only[hv2])<|veT<|vf<|zL<|zE<|vN<|zA rfl<|vr 3 (i6 (↑k+1))<|vnil<|zC<|⟨k+1,⟨by omega,hk2⟩,by omega,?_⟩;refine vk 0
 obtain rfl:k=V.length:=by omega
 have hnm:v∉V:=λhm=>by
  obtain⟨q,hq,e⟩:=BY hm;refine k2 q hq ?_;rw[Am,Aw hq];exact e
 refine zB<|vAs<|vr 4 (ix ↑i ↑(Aa A) (Ah raN A≠[]))<|vs 19 (AB<|Ag (Ak (i:Int)*2)<|Ah raN A) (AB (Ae (nsD V) (Aa V)::Ae (Ad rowV R) (Aa R)::Ah raN (Ag (i+1) A))) (hd:=by simp(disch:=omega) only[AA,AO,AS,hg])<|ve (True/\0<Aa (Ae (nsD V) (Aa V)::Ae (Ad rowV R) (Aa R)::Ah raN (Ag (i+1) A)))<|vF ((Aa V:Int)<↑(Aa V))<|vY2<|zE<|vN<|zA rfl<|vr 3 (i6 (↑i+1))<|vnil<|zC<|⟨i+1,[],.inl ⟨by omega,rfl,hno hnm⟩,by omega,?_⟩;refine vk 0
theorem valF_sho{A:List (List Nat×List Rw)}(hA:RaOk A)(v:Nat):∀x∈valF A v,x.str.length<=3000000:=λx hx=>by
 unfold valF at hx;split at hx
 ·cases hx
 rename_i b hf;obtain⟨y,hy,rfl⟩:=Aq.1 hx;obtain⟨r,hr,rfl⟩:=((zM2 _ _).2.2.1 y).1 hy
 have:=(hA.s b (BX hf) r hr).pick [b.1.idxOf v] (by simp)
 exact this.at (i:=0) (by simp)
set_option maxHeartbeats 4000000 in
theorem joinR_c{A:List (List Nat×List Rw)}(hA:RaOk A):∀(m:Nat)(known:Rw),m<=8->known.length+m<=1000->Sho known->Pure Ao 21 [iD ((known.length+m:Nat):Int),rowV known, .row (A.flatMap raN) A.length] [] (.row ((zA4 A (valF A) m known).map rowV) (zA4 A (valF A) m known).length):=λm=>by
 induction m with
 | zero=>
  intro known hm hk hs;have hAl:=hA.l;refine zH zAf mixed Tryz.func21 rfl<|vAu<|zB<|vAe<|zF<|zQ (λ(i:Nat)=>fr 57 [(0,iD (↑(Aa known+0):Int)),(1,rowV known),(2,Ae (Ah raN A)<|Aa A),(7,iD (i:Int))]) (λ(i:Nat)=>[]) (λi=>A.length-i) (λ(i:Nat)=>i<=A.length/\(A.take i).all (alwR known)=Ab) 0 ?_ ?_ ?_
  ·exact⟨by omega,rfl⟩
  ·refine vk 0
  rintro i ⟨i1,i2⟩;rcases An i A.length with i3|i3
  ·have hg:=zFi zCb A i i3;have hle:=zDd zCb A i i3;have hne:=zDc zCb (by decide) A;have hin:=zAc A Af i i3;have hal:=zXs (A.getD i Af) known (hA.v _ hin) (hA.r _ hin) (hA.s _ hin) (hA.e _ hin) hs;have hst:=zKs (alwR known) Af A i i3;have hno:=all_no (alwR known) Af A i i3;generalize A.getD i Af=a at*;cases hb:alwR known a
   ·rw[hb]at hal;have e:zA4 A (valF A) 0 known=[]:=by
     unfold zA4;rw[if_neg (by rw[hno hb];decide)]
    rw[e];refine zB<|vAu<|vT ((i:Int)<↑(Aa A))<|vKB<|vA<|vr 3 (ix ↑i ↑(Aa A) (Ah raN A≠[]))<|vs 20 (AB<|Ag (Ak (i:Int)*2)<|Ah raN A) (AB (Ae (nsD<|AG a) (Aa<|AG a)::Ae (Ad rowV<|AM a) (Aa<|AM a)::Ah raN (Ag (i+1) A))) (hd:=by simp(disch:=omega) only[AA,AO,AS,hg])<|vr 2 (2<=Aa (Ae (nsD<|AG a) (Aa<|AG a)::Ae (Ad rowV<|AM a) (Aa<|AM a)::Ah raN (Ag (i+1) A)))<|vc hal<|veT<|vt<|vAe<|zJ<|zN<|zG<|zG<|zN<|zG<|vret (True)<|.inr rfl
   rw[hb]at hal;refine zB<|vAu<|vT ((i:Int)<↑(Aa A))<|vKB<|vA<|vr 3 (ix ↑i ↑(Aa A) (Ah raN A≠[]))<|vs 20 (AB<|Ag (Ak (i:Int)*2)<|Ah raN A) (AB (Ae (nsD<|AG a) (Aa<|AG a)::Ae (Ad rowV<|AM a) (Aa<|AM a)::Ah raN (Ag (i+1) A))) (hd:=by simp(disch:=omega) only[AA,AO,AS,hg])<|vr 2 (2<=Aa (Ae (nsD<|AG a) (Aa<|AG a)::Ae (Ad rowV<|AM a) (Aa<|AM a)::Ah raN (Ag (i+1) A)))<|vc hal<|veT<|vf<|zL<|zE<|vN<|zA rfl<|vr 3 (i6 (↑i+1))<|vnil<|zC<|⟨i+1,⟨by omega,by rw[hst,i2,hb];rfl⟩,by omega,?_⟩;refine vk 0
  obtain rfl:i=A.length:=by omega
  rw[A5]at i2;have e:zA4 A (valF A) 0 known=[known]:=by
   unfold zA4;rw[if_pos i2]
  rw[e];refine zB<|vAu<|vF ((Aa A:Int)<↑(Aa A))<|vZ2<|zB<|vAe<|vEt ((Aa known:Int)) ((Aa known:Int))<|vA<|ve ((1=1/\1<=1/\True)/\0<1/\1=1/\1<=16777216/\1<=9223372036854775807)<|zJ<|zG<|vret (True)<|.inr rfl
 | succ m ih=>
  intro known hm hk hs;have hAl:=hA.l;refine zH zAf mixed Tryz.func21 rfl<|vAu<|zB<|vAe<|zF<|zQ (λ(i:Nat)=>fr 57 [(0,iD (↑(Aa known+(m+1)):Int)),(1,rowV known),(2,Ae (Ah raN A)<|Aa A),(7,iD (i:Int))]) (λ(i:Nat)=>[]) (λi=>A.length-i) (λ(i:Nat)=>i<=A.length/\(A.take i).all (alwR known)=Ab) 0 ?_ ?_ ?_
  ·exact⟨by omega,rfl⟩
  ·refine vk 0
  rintro i ⟨i1,i2⟩;rcases An i A.length with i3|i3
  ·have hg:=zFi zCb A i i3;have hle:=zDd zCb A i i3;have hne:=zDc zCb (by decide) A;have hin:=zAc A Af i i3;have hal:=zXs (A.getD i Af) known (hA.v _ hin) (hA.r _ hin) (hA.s _ hin) (hA.e _ hin) hs;have hst:=zKs (alwR known) Af A i i3;have hno:=all_no (alwR known) Af A i i3;generalize A.getD i Af=a at*;cases hb:alwR known a
   ·rw[hb]at hal;have e:zA4 A (valF A) (m+1) known=[]:=by
     unfold zA4;rw[if_neg (by rw[hno hb];decide)]
    rw[e];refine zB<|vAu<|vT ((i:Int)<↑(Aa A))<|vKB<|vA<|vr 3 (ix ↑i ↑(Aa A) (Ah raN A≠[]))<|vs 20 (AB<|Ag (Ak (i:Int)*2)<|Ah raN A) (AB (Ae (nsD<|AG a) (Aa<|AG a)::Ae (Ad rowV<|AM a) (Aa<|AM a)::Ah raN (Ag (i+1) A))) (hd:=by simp(disch:=omega) only[AA,AO,AS,hg])<|vr 2 (2<=Aa (Ae (nsD<|AG a) (Aa<|AG a)::Ae (Ad rowV<|AM a) (Aa<|AM a)::Ah raN (Ag (i+1) A)))<|vc hal<|veT<|vt<|vAe<|zJ<|zN<|zG<|zG<|zN<|zG<|vret (True)<|.inr rfl
   rw[hb]at hal;refine zB<|vAu<|vT ((i:Int)<↑(Aa A))<|vKB<|vA<|vr 3 (ix ↑i ↑(Aa A) (Ah raN A≠[]))<|vs 20 (AB<|Ag (Ak (i:Int)*2)<|Ah raN A) (AB (Ae (nsD<|AG a) (Aa<|AG a)::Ae (Ad rowV<|AM a) (Aa<|AM a)::Ah raN (Ag (i+1) A))) (hd:=by simp(disch:=omega) only[AA,AO,AS,hg])<|vr 2 (2<=Aa (Ae (nsD<|AG a) (Aa<|AG a)::Ae (Ad rowV<|AM a) (Aa<|AM a)::Ah raN (Ag (i+1) A)))<|vc hal<|veT<|vf<|zL<|zE<|vN<|zA rfl<|vr 3 (i6 (↑i+1))<|vnil<|zC<|⟨i+1,⟨by omega,by rw[hst,i2,hb];rfl⟩,by omega,?_⟩;refine vk 0
  obtain rfl:i=A.length:=by omega
  rw[A5]at i2;have e:zA4 A (valF A) (m+1) known=(valF A known.length).flatMap λv=>zA4 A (valF A) m (known++[v]):=by
   conv=>lhs;unfold zA4
   rw[if_pos i2]
  rw[e];have hvl:=zJ9 A hA.r known.length;have hvs:=valF_sho hA known.length;have hvc:=values_c hA known.length (by omega);have hne0:¬((known.length:Int)=((known.length+(m+1):Nat):Int)):=by omega
  have hq:(((known.length:Nat):Int)==((known.length+(m+1):Nat):Int))=false:=beq_eq_false_iff_ne.2 hne0;have hpw:10^m<=10^8:=Bx (by omega) (by omega);have hjl:=λv=>zPm (A:=A) (vf:=valF A) (zJ9 A hA.r) m (known++[v]);generalize valF A known.length=W at*;refine zB<|vAu<|vF ((Aa A:Int)<↑(Aa A))<|vZ2<|zB<|vA<|vrT 4<|vs 28 (bD ((Aa known:Int)==(↑(Aa known+(m+1)):Int))) (bD Ac) (hd:=by simp(disch:=omega) only[hq])<|veT<|vf<|vK<|vAe<|vA<|vrT 3<|vc hvc<|veT<|zB<|vAe<|zF<|zAu (λ(q:Nat)(O:List Rw)=>fr 57 [(0,iD (↑(Aa known+(m+1)):Int)),(1,rowV known),(2,Ae (Ah raN A)<|Aa A),(8,Aj 0 0 (Aa O) (Aa O) Ab),(9,Ae (zK W)<|Aa W),(10,iD q)]) (λ(q:Nat)(O:List Rw)=>[rrB<|O.map rowV]) (λq O=>W.length-q) (λ(q:Nat)(O:List Rw)=>q<=W.length/\O=(W.take q).flatMap λv=>zA4 A (valF A) m (known++[v])) 0 [] ?_ ?_ ?_
  ·exact⟨by omega,rfl⟩
  ·refine vk 0
  rintro q O ⟨q1,q2⟩;have hOl:O.length<=10^8*10:=by
   rw[q2];refine AE (zPs _ (10^8) (λv=>AE (hjl v) hpw) _) (CC _ ?_);rw[AU];omega
  have hol:(O.map rowV).length=O.length:=Al ..
  rcases An q W.length with q3|q3
  ·have hstr:=hvs _ (zAc W Af q q3);have htv:=zA2 W q q3;have hva:=zB8 W (by omega);have hv3:=zBt W q q3;have hcl:=zAj known;have hkv:(known++[W.getD q Af]).length=known.length+1:=by simp
   have hih:=ih (known++[W.getD q Af]) (by omega) (by omega) ⟨by omega,λv hv=>by
    rcases Bs.1 hv with hv|hv
    ·exact hs.2 v hv
    rw[A4.1 hv];exact hstr⟩
   have hcs:zK (known++[W.getD q Af])=zK known++vaC (W.getD q Af):=by
    rw[zCr];simp[zK]
   have hrw:rowV (known++[W.getD q Af])= .row (zK known++vaC (W.getD q Af)) (known.length+1):=by
    show Ae _ (known++[W.getD q Af]).length=_;rw[hkv,hcs]
   rw[hrw,hkv,show known.length+1+m=known.length+(m+1) by omega]at hih;have hjq:=hjl (W.getD q Af);have hsn:(W.take (q+1)).flatMap (λv=>zA4 A (valF A) m (known++[v]))=O++zA4 A (valF A) m (known++[W.getD q Af]):=by
    rw[zAr W q q3,BE,<-q2,B7]
   have hkt:(zK known).take (known.length*3)=zK known:=AN (by omega);have hlt:(zK known++vaC (W.getD q Af)).take ((known.length+1)*3)=zK known++vaC (W.getD q Af):=AN (by rw[AL,hcl];show _+3<=_;omega);generalize W.getD q Af=w at*;generalize zA4 A (valF A) m (known++[w])=J at*;have hJt:(J.map rowV).take J.length=J.map rowV:=AN (by simp);have hJl:(J.map rowV).length=J.length:=Al ..
   obtain⟨ka,ia,sa⟩:=w;refine zB<|vAu<|vT ((q:Int)<↑(Aa W))<|vKB<|vAe<|vA<|ve (Aa (zK known)=Aa known*3/\0<3/\0<32/\95=95/\Aa known*32<=140737488355328/\3=3)<|zA rfl<|vr 7 (ix ↑q ↑(Aa W) (zK W≠[])/\3<=Aa (Ag (q*3)<|zK W))<|vs 50 (Ar<|Ai 3<|Ag (q*3)<|zK W) (Ar<|vaC<|BI ka ia sa) (hd:=by simp(disch:=omega) only[htv])<|vr 3 (((3=3/\3<=3/\True)/\0<3/\3=3/\3<=16777216/\1<=9223372036854775807)/\Ab=Ab/\Aa (zK known)=Aa known*3/\Aa known*3=Aa known*3/\95=95/\3=3/\3=3/\0<3/\0<32/\95=95/\(Aa known+1)*32<=140737488355328/\3=3/\A0 (kdOf Ac)=Ac/\(Ac=Ac\/A1 (kdOf Ac)=Ab))<|vcl [iD (↑(Aa known+(m+1)):Int),Ae (Ai ((Aa known+1)*3)<|Ag 0 (zK known++[iD ka,iD ia,Av<|Cp<|bs sa])) (Aa known+1),Ae (Ah raN A)<|Aa A] [iD (↑(Aa known+(m+1)):Int),Ae (zK known++vaC (BI ka ia sa)) (Aa known+1),Ae (Ah raN A)<|Aa A] (BQ (by simp(disch:=omega) only[AJ,hlt])) (by exact hih)<|vr 2 (Ab=Ab/\Aa (Ad rowV O)=Aa O*1/\Aa O=Aa O*1/\55=55/\1=1/\Aa (Ad rowV J)=Aa J*1/\0<1/\0<24/\55=55/\(Aa O+Aa J)*24<=140737488355328/\1=1/\A0 AC=Ac/\(Ac=Ac\/A1 AC=Ab))<|vs 8 (Aj 0 0 (Aa O+Aa J) ((Aa O+Aa J)*1) Ab) (Aj 0 0 (Aa O+Aa J) (Aa O+Aa J) Ab) (hd:=by simp(disch:=omega) only[A8])<|vnil<|zE<|vN<|zA rfl<|vr 3 (i6 (↑q+1))<|vnil<|zC<|⟨q+1,O++J,⟨by omega,hsn.symm⟩,by omega,?_⟩;rw[Bd,AL];refine vk 1
  rw[AN q3]at q2;rw[<-q2];have ht:(O.map rowV).take O.length=O.map rowV:=AN (by omega);refine zB<|vAu<|vF ((q:Int)<↑(Aa W))<|vZ2<|vAe<|zJ<|zAs (True) (Ae (Ai (Aa O)<|Ag 0<|AD<|rrB<|Ad rowV O)<|Aa O) (Ae (Ad rowV O)<|Aa O) (.inr rfl) (by simp(disch:=omega) only[AJ,ht]) rfl
end
section
open Go.RowKit
def Cs.A(c:Cs):List (List Nat×List Rw):=(Ap c.V.length).map λi=>((c.V.getD i []).map Ak,relR (c.R.getD i []))
structure Cs.Good(c:Cs):Prop where
 s:c.Small
 l:c.V.length=c.R.length
 e:∀i,i<c.V.length->c.err i=0
 ck:icE c.n c.f c.desc.length c.P (c.ats c.V.length)=0
 f:c.Few
 t:c.Typ
theorem Cs.A_len(c:Cs):c.A.length=c.V.length:=by simp[Cs.A]
theorem Cs.Good.ok{c:Cs}(h:c.Good):AtOk c.n.toNat c.A:=by
 obtain⟨hs,hl,he,hc,hf,ht⟩:=h;obtain⟨i1,i2,i3,i4,i5,i6,i7,i8⟩:=Cs.ic hc;obtain⟨l1,l2,l3⟩:=Cs.lf hc;have hn6:c.n<=6:=by rcases hf.n with h|h<;>omega
 have hrow:∀i,i<c.V.length->(c.R.getD i []).length<=10/\∀x∈c.R.getD i [],x.length=(c.V.getD i []).length/\∀v∈x,vok v=Ab/\Vs v:=λi hi=>by
  have hm:c.R.getD i []∈c.R:=by rw[Am,Aw (by omega)];exact Bg _
  refine⟨hf.r _ hm,λx hx=>?_⟩;have h1:=he i hi;unfold Cs.err rofA at h1;split at h1
  ·omega
  unfold rofE at h1;split at h1
  ·rename_i h2;exact absurd h1 h2
  rename_i h2;have h3:accL ((c.V.getD i []).length:Nat) (c.R.getD i [])=0:=BM h2;obtain⟨q1,q2⟩:=zXu h3 x hx;refine⟨by omega,λv hv=>?_⟩;have h4:=Bb.1 q2 v hv;exact⟨h4,(ht _ hm x hx v hv).vs h4⟩
 have hA:∀a∈c.A,∃i,i<c.V.length/\a=((c.V.getD i []).map Ak,relR (c.R.getD i [])):=λa ha=>by
  obtain⟨i,hi,e⟩:=Aq.1 ha;exact⟨i,A2.1 hi,e.symm⟩
 refine⟨by omega,by rw[Cs.A_len];exact hf.V,λa ha=>?_,λa ha v hv=>?_,λv hv=>?_,λa ha=>?_,λa ha r hr=>?_,λa ha=>?_,λa ha r hr v hv=>?_⟩
 ·obtain⟨i,hi,rfl⟩:=hA a ha;obtain⟨q1,q2⟩:=Cs.vars hc hi;exact BV.2 (q1.imp_of_mem λ{x y} hx hy h=>by have:=q2 x hx;have:=q2 y hy;omega)
 ·obtain⟨i,hi,rfl⟩:=hA a ha;obtain⟨z,hz,rfl⟩:=Aq.1 hv
  have:=(Cs.vars hc hi).2 z hz
  omega
 ·have h1:(useP c.n.toNat (c.ats c.V.length) []).getD v Ab=true:=by
   cases e:(useP c.n.toNat (c.ats c.V.length) []).getD v Ab with
   |true=>rfl
   |false=>
    have hlen:=zKa c.n.toNat (c.ats c.V.length) [];rw[Am,Aw (by omega),B2]at e;have:(useP c.n.toNat (c.ats c.V.length) []).contains Ac=true:=List.contains_iff_mem.2 (e▸Bg _);rw[l3]at this;cases this
  unfold useP at h1;rw[Am,BL,List.getElem?_range hv,Option.map_some,B2]at h1;simp only[List.not_mem_nil,decide_false,Bool.or_false,Bo,decide_eq_true_eq]at h1;obtain⟨a,ha,hm⟩:=h1;obtain⟨i,hi,rfl⟩:=Aq.1 ha;have hi:=A2.1 hi;exact⟨_,Aq.2 ⟨i,A2.2 hi,rfl⟩,Aq.2 ⟨(v:Int),hm,by omega⟩⟩
 ·obtain⟨i,hi,rfl⟩:=hA a ha;exact zV2 _
 ·obtain⟨i,hi,rfl⟩:=hA a ha
  have:=((hrow i hi).2 r (zHf.1 hr)).1
  rw[this];simp
 ·obtain⟨i,hi,rfl⟩:=hA a ha;exact AE (zN5 _) (hrow i hi).1
 obtain⟨i,hi,rfl⟩:=hA a ha;exact((hrow i hi).2 r (zHf.1 hr)).2 v hv
theorem Cs.Good.atD{c:Cs}(h:c.Good):c.A.flatMap atN=(c.ats c.V.length).flatMap atC:=by
 unfold Cs.A Cs.ats;rw[B4,B4,List.flatMap_def,List.flatMap_def];refine congrArg List.flatten (BR λi hi=>?_);have hi:=A2.1 hi;show[Ae (((c.V.getD i []).map Ak).map λv:Nat=>iD (v:Int)) ((c.V.getD i []).map Ak).length,iD (((c.V.getD i []).map Ak).length:Nat),_]=[Ae ((c.V.getD i []).map λz=>iD z) (c.V.getD i []).length,iD ((c.V.getD i []).length:Nat),_];rw[By,Al];congr 2;exact BR λz hz=>by have:=(Cs.vars h.ck hi).2 z hz;show iD ((z.toNat:Nat):Int)=iD z;rw[show((z.toNat:Nat):Int)=z by omega]
theorem Cs.Good.inD{c:Cs}(h:c.Good):inpD c.n c.f c.desc c.P (c.ats c.V.length)= .agg [iD (c.n.toNat:Nat),iD (c.f.toNat:Nat), .row (c.desc.map bD) c.desc.length, .row (c.P.map λz=>iD z) c.P.length, .row (c.A.flatMap atN) c.A.length]:=by
 obtain⟨i1,i2,i3,i4,_⟩:=Cs.ic h.ck;rw[h.atD,Cs.A_len,show((c.n.toNat:Nat):Int)=c.n by omega,show((c.f.toNat:Nat):Int)=c.f by omega];show Ar [_,_,_,_, .row _ (c.ats c.V.length).length]=_;rw[Cs.ats_len]
theorem AtOk.ra{n:Nat}{A:List (List Nat×List Rw)}(h:AtOk n A):RaOk A:=by
 have hl:=h.l;have hv:∀a∈A,a.1.length<=32:=λa ha=>zB0 (A:=a.1) ⟨h.asc a ha,λv hv=>by have:=h.lt a ha v hv;have:=h.n8;omega⟩;refine⟨by omega,λa ha=>by have:=hv a ha;omega,h.few,λa ha r hr=>⟨by have:=hv a ha;rw[h.len a ha r hr];omega,λv hv=>?_⟩,h.len⟩
 have:=(h.val a ha r hr v hv).2.2.2
 omega
theorem AtOk.v32{n:Nat}{A:List (List Nat×List Rw)}(h:AtOk n A):∀a∈A,a.1.length<=32:=λa ha=>zB0 (A:=a.1) ⟨h.asc a ha,λv hv=>by have:=h.lt a ha v hv;have:=h.n8;omega⟩
theorem zGc{n:Nat}{A:List (List Nat×List Rw)}(h:AtOk n A){p:Rw}(hp:p.length<=n)(y:Rw):y∈zA4 A (valF A) (n-p.length) p↔y.length=n/\y.take p.length=p/\SatA A λv=>y.getD v default:=by
 have:=zLt h.len (zZc A) (n-p.length) p y (λa ha v hv=>by have:=h.lt a ha v hv;omega) (λv _ hv=>h.cov v (by omega))
 rwa[show p.length+(n-p.length)=n by omega]at this
theorem zSi{n:Nat}{A:List (List Nat×List Rw)}(h:AtOk n A){p:Rw}(hp:p.length<=n):ansB n A p=decide (0<(zA4 A (valF A) (n-p.length) p).length):=by
 rw[Bt,zSh,decide_eq_true_eq,List.length_pos_iff];constructor
 ·rintro⟨y,hy⟩;exact List.ne_nil_of_mem ((zGc h hp y).2 hy)
 intro hne;obtain⟨y,hy⟩:=CT _ hne;exact⟨y,(zGc h hp y).1 hy⟩
theorem zWv{n:Nat}{A:List (List Nat×List Rw)}(h:AtOk n A){r:Rw}(hr:r.length<=n):lvlZ (λi=>decide (0<(zA4 A (valF A) (n-i) (r.take i)).length)) r.length=lvlZ (λi=>ansB n A (r.take i)) r.length:=by
 refine zM8 _ λi hi=>?_;have hl:(r.take i).length=i:=by rw[AU];omega
 rw[zSi h (by omega),hl]
theorem zXp{n:Nat}{A:List (List Nat×List Rw)}(h:AtOk n A){p:Rw}(hp:p.length<=n):zP3 (A.map (zBe p))=rbst (λs=>decide (0<(alwS (zD2 A s) n p).length)) A.length (2^A.length-1):=by
 have hl:=h.l;rw[best_ref _ (by rw[Al];omega),Al];refine zX7 λs _=>?_;rw[Bt,<-zYw (A:=A) (n:=n) (p:=p) s h.lt hp h.len,decide_eq_true_eq,List.length_pos_iff]
abbrev nuV(k:Int):Va:=⟨1,k,[]⟩
def whC:Cs:=⟨3,2,[Ac,Ac],[2],[[0,2],[1,2]],[[[nuV 1,nuV 5],[nuV 2,nuV 6]],[[nuV 7,nuV 5]]]⟩
def whA:List (List Nat×List Rw):=[([0,2],[[nuV 1,nuV 5],[nuV 2,nuV 6]]),([1,2],[[nuV 7,nuV 5]])]
theorem whC_s:whC.Small:=⟨by decide,by decide,by decide,by decide,by decide,by decide⟩
theorem whC_e:∀i,i<whC.V.length->whC.err i=0:=by
 have:∀i:Fin 2,whC.err i=0:=by decide+kernel
 exact λi hi=>this ⟨i,hi⟩
theorem whC_A:whC.A=whA:=by decide+kernel
theorem whC_g:whC.Good:=by
 refine⟨whC_s,rfl,whC_e,by decide+kernel,⟨by decide,by decide,by decide,by decide,by decide,by decide,by decide,by decide⟩,?_⟩;intro l hl x hx v hv;have hall:(whC.R.all λl=>l.all λx=>x.all λv=>decide ((-9223372036854775808<=v.kind/\v.kind<=9223372036854775807)/\(-9223372036854775808<=v.int/\v.int<=9223372036854775807)/\v.str.length<=2000000))=true:=by decide+kernel
 have h4:=Bb.1 (Bb.1 (Bb.1 hall l hl) x hx) v hv;rw[decide_eq_true_eq]at h4;exact h4
theorem zFj:AtOk 3 whA:=whC_A▸whC_g.ok
theorem ex_ans:ansB 3 whA [nuV 1,nuV 7]=true:=by
 rw[zSi zFj (by decide)];decide+kernel
theorem ex_fir{y:Rw}(h:FirB 3 whA [nuV 1,nuV 7] y)(hy:y.length=3):y=[nuV 1,nuV 7,nuV 5]:=by
 obtain⟨z,z1,z2,z3⟩:=h.a;have e:y=z:=by
  rw[<-z2,AN (by omega)]
 subst e;have hj:=(zGc zFj (p:=[nuV 1,nuV 7]) (by decide) y).2 ⟨z1,h.t,z3⟩;have he:zA4 whA (valF whA) (3-[nuV 1,nuV 7].length) [nuV 1,nuV 7]=[[nuV 1,nuV 7,nuV 5]]:=by decide+kernel
 rw[he]at hj;exact A4.1 hj
theorem ex_lvl1:lvlZ (λi=>ansB 3 whA ([nuV 2,nuV 7].take i)) 2=0:=by
 have:=zWv zFj (r:=[nuV 2,nuV 7]) (by decide)
 rw[show 2=[nuV 2,nuV 7].length from rfl,<-this];decide+kernel
theorem ex_lvl2:lvlZ (λi=>ansB 3 whA ([nuV 1,nuV 8].take i)) 2=1:=by
 have:=zWv zFj (r:=[nuV 1,nuV 8]) (by decide)
 rw[show 2=[nuV 1,nuV 8].length from rfl,<-this];decide+kernel
theorem ex_best1:zP3 (whA.map (zBe ([nuV 2,nuV 7].take 1)))=Ax [0,1]:=by
 rw[zXp zFj (by decide)];decide+kernel
theorem ex_best2:zP3 (whA.map (zBe ([nuV 1,nuV 8].take 2)))=Ax [1]:=by
 rw[zXp zFj (by decide)];decide+kernel
theorem zTw{L:List Rw}(x:Rw)(h:Rsc L){i:Nat}(hi:i<L.length):decide (0<=rcmp (L.getD i []) x)=decide (cntR L x<=i):=by
 obtain⟨h1,h2⟩:=zLa x h;have e:L.getD i []=L[i]:=by rw[Am,Aw hi];rfl
 rw[e,Bt,decide_eq_true_eq,decide_eq_true_eq];rcases An i (cntR L x)with h3|h3
 ·have h4:L[i]∈L.take (cntR L x):=List.mem_take_iff_getElem.2 ⟨i,by omega,rfl⟩
  have:=h1 _ h4
  omega
 have h4:L[i]∈L.drop (cntR L x):=List.mem_iff_getElem.2 ⟨i-cntR L x,by rw[Bn];omega,by rw[List.getElem_drop];congr 1;omega⟩
 have:=h2 _ h4
 omega
theorem cntR_at{L:List Rw}{x:Rw}(h:Rsc L)(hm:x∈L):cntR L x<L.length/\L.getD (cntR L x) []=x:=by
 obtain⟨i,hi,e⟩:=BY hm;have h1:=zTw x h hi;have e2:L.getD i []=x:=by rw[Am,Aw hi];exact e
 rw[e2,(zA3 x x).2.1.2 rfl,decide_eq_true (Int.le_refl _)]at h1;have h2:=of_decide_eq_true h1.symm;have h3:cntR L x<L.length:=by omega
 refine⟨h3,?_⟩;have h4:=zTw x h h3;rw[decide_eq_true (AK _)]at h4;have h4:=of_decide_eq_true h4;rcases An (cntR L x) i with h5|h5
 ·have h6:=CG.1 h (cntR L x) i h3 hi h5;rw[e]at h6;have e3:L.getD (cntR L x) []=L[cntR L x]:=by rw[Am,Aw h3];rfl
  rw[e3]at h4;omega
 rw[show cntR L x=i by omega];exact e2
theorem cntR_mem{L:List Rw}{x:Rw}(h:Rsc L):(decide (cntR L x<L.length)&&decide (L.getD (cntR L x) []=x))=decide (x∈L):=by
 rw[Bt,Ba,decide_eq_true_eq,decide_eq_true_eq,decide_eq_true_eq];constructor
 ·rintro⟨h1,h2⟩;rw[<-h2,Am,Aw h1];exact Bg _
 exact λhm=>cntR_at h hm
end
section
open Go.RowKit
attribute [local irreducible] seqW awp zW zY zR Weak updS zZ retL Pure Acts rP setP setQ cP nP fr
set_option maxRecDepth 4096
abbrev itsD(l:List Int):List D:=l.map λz=>iD z
abbrev u32K(l:List D):Bk:=⟨l,97,1,Ab,Ac, .plain⟩
theorem zCf(l:List Nat)(i:Nat)(h:i<l.length):((l.map u32D).drop i).headD .unk=u32D (l.getD i 0):=zA5 u32D l 0 i h
theorem zE9{l:List Nat}{P:Nat->Prop}(h:∀s∈l,P s){i:Nat}(hi:i<l.length):P (l.getD i 0):=by
 rw[Am,Aw hi];exact h _ (Bg hi)
set_option maxHeartbeats 2000000 in
theorem wmem_c(s:Nat)(hs:s<4294967296):Pure Ao 58 [u32D s] [] (.row (itsD (memL s)) (memL s).length):=by
 refine zH zAf mixed Tryz.func58 rfl<|zB<|zA rfl<|v0s<|veT<|zB<|zA rfl<|ve (True/\0<1/\1=1/\0<=16777216/\0<=9223372036854775807)<|zB<|zB<|zA rfl<|veT<|zF<|zAu (λ(i:Nat)(l:List Int)=>fr 20 [(0,u32D s),(2,nl),(3,Aj 0 0 (Aa l) (Aa l) Ab),(6,iD (i:Int))]) (λ(i:Nat)(l:List Int)=>[intB<|itsD l]) (λi l=>32-i) (λ(i:Nat)(l:List Int)=>i<=32/\l=((Ap i).filter λi=>s.testBit i).map λi:Nat=>(i:Int)) 0 [] ?_ ?_ ?_
 ·exact⟨by omega,rfl⟩
 ·refine vk 1
 rintro i l ⟨h1,h2⟩;have hl:l.length<=32:=by
  rw[h2,Al]
  have:=Bq (λi=>s.testBit i) (Ap i)
  rw[Ca]at this;omega
 have hcl:(itsD l).length=l.length:=Al ..
 rcases An i 32 with h3|h3
 ·have hsu:((Ap (i+1)).filter λi=>s.testBit i).map (λi:Nat=>(i:Int))=if s.testBit i then l++[(i:Int)]else l:=by
   rw[BA,Br,Bd,<-h2,Bl];cases s.testBit i<;>simp
  have w1:=zEu s (v:=i) (by omega);have w2:=zSb hs i;have w3:=bit_w hs i;focus
   refine zB<|zA rfl<|v0s<|veT<|zB<|vT ((i:Int)<(32:Int))<|zL<|zC<|zD<|zB<|zF<|zB<|zA rfl<|veT<|zB<|zA rfl<|vr 3 ((0:Int)<=(i:Int))<|vs 11 (Av<|As Au<|BJ (s:Int) ((2:Int)^min (Ak (i:Int)) 32)) (dig (s>>>i)) (hd:=by simp(disch:=omega) only[AA,w1])<|vrT 1<|vs 12 (Av<|As Au<|AV Au (↑(AW (Ay 32 (↑(s>>>i):Int)&&&Ay 32 (1:Int))):Int)) (dig<|AW (Ay 32 (↑(s>>>i):Int)&&&Ay 32 (1:Int))) (hd:=by simp(disch:=omega) only[zA8])<|vrT 1<|vs 13 (bD ((↑(AW (Ay 32 (↑(s>>>i):Int)&&&Ay 32 (1:Int))):Int)==(1:Int))) (bD<|Ci s i) (hd:=by simp(disch:=omega) only[w2])<|veT<|zAq (t:=Ci s i) (by kernel_rfl) (λhc=>?_)<|λhc=>?_;refine zA rfl<|vr 5 (((1=1/\1<=1/\True)/\0<1/\1=1/\1<=16777216/\1<=9223372036854775807)/\A_ (intB<|itsD l)=Ab/\Aa (AD<|intB<|itsD l)=Aa l*1/\Aa l=Aa l*1/\A6 (intB<|itsD l)=3/\A7 (intB<|itsD l)=1/\1=1/\0<1/\0<8/\3=3/\(Aa l+1)*8<=140737488355328/\1=1/\A0 (AF<|intB<|itsD l)=Ac/\(Ac=Ac\/A1 (AF<|intB<|itsD l)=Ab))<|vs 3 (Aj 0 0 (Aa l+1) ((Aa l+1)*1) Ab) (Aj 0 0 (Aa l+1) (Aa l+1) Ab) (hd:=by simp(disch:=omega) only[A8])<|vnil<|zE<|zC<|zD<|zA rfl<|vr 2 (i6 ((i:Int)+(1:Int)))<|vnil<|zC ?_;rotate_left;refine zL<|zE<|zC<|zD<|zA rfl<|vr 2 (i6 ((i:Int)+(1:Int)))<|vnil<|zC ?_;rotate_left
  ·have hc2:s.testBit i=true:=by assumption
   rw[hc2,if_pos rfl]at hsu;refine⟨i+1,l++[(i:Int)],⟨by omega,hsu.symm⟩,by omega,?_⟩;rw[show itsD (l++[(i:Int)])=itsD l++[iD (i:Nat)] by simp,AL,BW];refine vk 1
  have hc2:s.testBit i=false:=by assumption
  rw[hc2,if_neg (by decide)]at hsu;refine⟨i+1,l,⟨by omega,hsu.symm⟩,by omega,?_⟩;refine vk 1
 obtain rfl:i=32:=by omega
 have h2:l=memL s:=h2;subst h2;have ht:(itsD (memL s)).take (memL s).length=itsD (memL s):=AN (by rw[Al];exact AK _);refine zB<|zA rfl<|v0s<|veT<|zB<|vf<|zV<|zM<|zM<|zS rfl<|zC<|zD<|zB<|zA rfl<|veT<|zJ<|zAs (True) (Ae (Ai (Aa<|memL s)<|Ag 0<|AD<|intB<|itsD<|memL s)<|Aa<|memL s) (Ae (itsD<|memL s)<|Aa<|memL s) (.inr rfl) (by simp(disch:=omega) only[AJ,ht]) rfl
set_option maxHeartbeats 2000000 in
theorem meet1_c(k g:Nat)(hk:k<4294967296)(hg:g<4294967296):Pure Ao 107 [u32D k, .ptr [u32D g]] [] (bD (dif k g==0)):=by
 have e:=an_eq hk hg (d:=dif k g) λi=>zBs _ _ i;have hle:=dif_le k g;have w:=zAx (n:=dif k g) (by omega);have e2:(((dif k g:Nat):Int)==0)=(dif k g==0):=by
  rw[Bt,beq_iff_eq,beq_iff_eq];omega
 refine zH zAf mixed Tryz.func107 rfl<|zB<|zA rfl<|v0s<|veT<|zB<|zA rfl<|vr 3 (0<1/\True)<|vs 6 (Av<|As Au<|AV Au (↑(AW (Ay 32 (k:Int)&&&~~~Ay 32 (g:Int))):Int)) (dig<|dif k g) (hd:=by simp(disch:=omega) only[w,e])<|vrT 1<|vs 7 (bD ((↑(dif k g):Int)==(0:Int))) (bD (dif k g==0)) (hd:=by simp(disch:=omega) only[e2])<|veT<|zJ<|vret (True)<|.inr rfl
abbrev meF(g:Nat):D:= .clo (.func 107) [] [.ptr [u32D g]]
def Twc(N:Nat)(i:FuncId->Bool):Par:=⟨i,λ_ _=>AX,λk=>decide (k<N),λ
 | .call {callee:= .value (.tmp _),..}=>Ab
 |_=>Ac,λ_=>Ac⟩
theorem zF0(N:Nat)(i:FuncId->Bool):zBl Ao (Twc N i):=by intro t n f h;cases h
set_option maxHeartbeats 2000000 in
theorem indexM_c(kept:List Nat)(g:Nat)(hb:kept.length<=100000000)(hk:∀s∈kept,s<4294967296)(hg:g<4294967296):∃z:Int,(decide (0<=z)=kept.any λk=>dif k g==0)/\Pure Ao 77 [.row (kept.map u32D) kept.length,meF g] [] (iD z):=by
 have hor:(∃p,p<kept.length/\(dif (kept.getD p 0) g==0)=Ab/\∀j,j<p->(dif (kept.getD j 0) g==0)=Ac)\/∀j,j<kept.length->(dif (kept.getD j 0) g==0)=false:=fst_or (λs=>dif s g==0) kept;rcases hor with⟨p,p1,p2,p3⟩|hno
 ·refine⟨p,?_,?_⟩
  ·rw[decide_eq_true (by omega)];refine(Bo.2 ⟨kept.getD p 0,?_,p2⟩).symm;rw[Am,Aw p1];exact Bg p1
  refine zH (zF0 0 λ_=>Ac) mixed Tryz.func77 rfl<|zB<|zA rfl<|v0s<|veT<|zB<|zB<|zA rfl<|veT<|zF<|zQ (λ(i:Nat)=>fr 19 [(0,Ae (Ad u32D kept)<|Aa kept),(1,meF g),(7,iD (Aa kept:Int)),(8,iD (i:Int))]) (λ(i:Nat)=>[]) (λ(i:Nat)=>p-i) (λ(i:Nat)=>i<=p) 0 ?_ ?_ ?_
  ·omega
  ·refine vk 0
  rintro i h1;have hx:=zCf kept i (by omega);have hne:kept.map u32D≠[]:=zAb;have hm:=meet1_c (kept.getD i 0) g (zE9 hk (by omega)) hg;rcases An i p with h2|h2
  ·rw[p3 i h2]at hm;generalize kept.getD i 0=s at*;refine zB<|zA rfl<|v0s<|veT<|zB<|vT ((i:Int)<(Aa kept:Int))<|zL<|zC<|zD<|zB<|zF<|zB<|zA rfl<|veT<|zB<|zA rfl<|vr 4 (ix (i:Int) (Aa kept:Int) (Ad u32D kept≠[]))<|vp 14 (i) (Ad u32D kept)<|vr 1 (0<Aa (Ag i<|Ad u32D kept))<|vsh 15 hx<|vc (hm)<|veT<|vf<|zL<|zE<|zC<|zD<|zA rfl<|vr 2 (i6 ((i:Int)+(1:Int)))<|vnil<|zC<|⟨i+1,by omega,by omega,?_⟩;refine vk 0
  obtain rfl:i=p:=by omega
  rw[p2]at hm;generalize kept.getD i 0=s at*;refine zB<|zA rfl<|v0s<|veT<|zB<|vT ((i:Int)<(Aa kept:Int))<|zL<|zC<|zD<|zB<|zF<|zB<|zA rfl<|veT<|zB<|zA rfl<|vr 4 (ix (i:Int) (Aa kept:Int) (Ad u32D kept≠[]))<|vp 14 (i) (Ad u32D kept)<|vr 1 (0<Aa (Ag i<|Ad u32D kept))<|vsh 15 hx<|vc (hm)<|veT<|vt<|zB<|zA rfl<|veT<|zJ<|zN ?_;refine zG<|zG<|zN<|zG<|vret (True)<|.inr rfl
 refine⟨-1,?_,?_⟩
 ·rw[decide_eq_false (by omega)];refine(List.any_eq_false.2 λs hs=>?_).symm;obtain⟨j,hj,rfl⟩:=BY hs
  have:=hno j hj
  rw[Am,Aw hj]at this;exact λh=>by rw[show(dif kept[j] g==0)=Ac from this]at h;cases h
 refine zH (zF0 0 λ_=>Ac) mixed Tryz.func77 rfl<|zB<|zA rfl<|v0s<|veT<|zB<|zB<|zA rfl<|veT<|zF<|zQ (λ(i:Nat)=>fr 19 [(0,Ae (Ad u32D kept)<|Aa kept),(1,meF g),(7,iD (Aa kept:Int)),(8,iD (i:Int))]) (λ(i:Nat)=>[]) (λ(i:Nat)=>kept.length-i) (λ(i:Nat)=>i<=kept.length) 0 ?_ ?_ ?_
 ·omega
 ·refine vk 0
 rintro i h1;rcases An i kept.length with h2|h2
 ·have hx:=zCf kept i h2;have hne:kept.map u32D≠[]:=zAb;have hm:=meet1_c (kept.getD i 0) g (zE9 hk h2) hg;rw[hno i h2]at hm;generalize kept.getD i 0=s at*;refine zB<|zA rfl<|v0s<|veT<|zB<|vT ((i:Int)<(Aa kept:Int))<|zL<|zC<|zD<|zB<|zF<|zB<|zA rfl<|veT<|zB<|zA rfl<|vr 4 (ix (i:Int) (Aa kept:Int) (Ad u32D kept≠[]))<|vp 14 (i) (Ad u32D kept)<|vr 1 (0<Aa (Ag i<|Ad u32D kept))<|vsh 15 hx<|vc (hm)<|veT<|vf<|zL<|zE<|zC<|zD<|zA rfl<|vr 2 (i6 ((i:Int)+(1:Int)))<|vnil<|zC<|⟨i+1,by omega,by omega,?_⟩;refine vk 0
 obtain rfl:i=kept.length:=by omega
 refine zB<|zA rfl<|v0s<|veT<|zB<|vF ((Aa kept:Int)<(Aa kept:Int))<|zV<|zM<|zM<|zS rfl<|zC<|zD<|zB<|zA rfl<|veT<|zJ<|vret (True)<|.inr rfl
theorem zTt(kept:List Nat)(g:Nat)(hb:kept.length<=100000000)(hk:∀s∈kept,s<4294967296)(hg:g<4294967296):Pure Ao 106 [.row (kept.map u32D) kept.length,meF g] [] (bD (kept.any λk=>dif k g==0)):=by
 obtain⟨z,hz,hi⟩:=indexM_c kept g hb hk hg;rw[<-hz];refine zH zAf mixed Tryz.func106 rfl<|zB<|zA rfl<|v0s<|veT<|zB<|zA rfl<|vrT 2<|vc (hi)<|veT<|zJ<|vret (True)<|.inr rfl
theorem info_u32:(Ao.info? 97).map (λi=>(i.zero,i.size,i.bytes))=Ax (Ax (.int .u32 0),1,4):=by kernel_rfl
set_option maxHeartbeats 400000 in
theorem zYs:Pure Ao 105 [.row [] 0] [⟨[],97,1,Ab,Ac, .plain⟩] (.osl 0 0 0 0 Ab):=by
 refine zFn λI w vs hr=>?_;simp only[RelT,Rel]at hr;obtain⟨v,ys,rfl,⟨a,c,rfl,_,_,hc,_⟩,rfl⟩:=hr;cases a with
 |none=>
  obtain rfl:=hc rfl;have he:=λ(w:World)=>Lib.run_eql_slice_nil (P:=Ao) w 113 97 AX 0 0 0 0 Tryz.underlying113;go_enter Tryz.func105,Tryz.ntmps105;go_wp2;go_ret;exact .inl ⟨rfl,Ext.refl _⟩
 |some x=>
  obtain⟨i0,hi,hz0,hz1,hz2⟩:=info_parts info_u32;have he:=λ(w:World)=>Lib.run_eql_slice_nil (P:=Ao) w 113 97 (Ax x) 0 c 0 0 Tryz.underlying113;have hS:RowAt (λ_=>True) w (Ax x) []:= .inl rfl;go_enter Tryz.func105,Tryz.ntmps105;go_wp2_with (at_builtin;refine zBc rfl _ _ 113 rfl w.heap.size 97 i0 (.int .u32 0) 1 4 Tryz.underlying113 hi hz0 hz1 hz2 rfl (by decide) (.slice (Ax ⟨w.heap.size,0,AX⟩) 0 0) 0 [] rfl (World.ownsRow_made _ #[] 0 (AK _) (BC _) rfl) x 0 c [] rfl (by simp) (by simp) (by simp) (by simp[maxLen]) (by decide) (by simp) ?_;intro v' w' hown hgrow hdr);go_ret;have hext:Ext w w':=⟨((Below.refl _ _).alloc (AK _) _).grown hgrow (by simp) (by simp[Value.ownBlock]),hdr⟩;obtain⟨_,⟨rfl,_⟩|⟨g,cap,cur,rfl,hb,hg,_,hc1,hs,_⟩⟩:=hown
  ·exact .inl ⟨rfl,hext⟩
  exact .inr ⟨g,cur.toList,cap,rfl,hb,hext,by rw[Array.toArray_toList];exact hg,by simpa using hs,hc1⟩
theorem zYr(cs:List D)(n:Nat)(hl:cs.length=n)(hn:n<=1000000000):Pure Ao 105 [.row cs n] [⟨cs,97,1,Ab,Ac, .plain⟩] (.osl 0 0 n n Ab):=by
 by_cases h0:n=0
 ·subst h0;obtain rfl:cs=[]:=CQ (by omega);exact zYs
 have h1:0<n:=by omega
 refine zCc zAf mixed Tryz.func105 rfl rfl<|zB<|zA rfl<|v0s<|veT<|zB<|zB<|zA rfl<|ve (0<n)<|vf<|zL<|zC<|zD<|zB<|zA rfl<|vr 4 ((True/\0<1/\1=1/\0<=16777216/\0<=9223372036854775807)/\Ab=Ab/\0=0/\0=0/\97=97/\1=1/\Aa cs=n*1/\0<1/\0<4/\97=97/\(0+n)*4<=140737488355328/\1=1/\Ac=Ac/\(Ac=Ac\/Ac=Ab))<|vs 2 (Aj 0 0 (0+n) ((0+n)*1) Ab) (Aj 0 0 n n Ab) (hd:=by simp(disch:=omega) only[B9,A8])<|veT<|zJ<|zAm (True) [Aj 0 0 n n Ab] (.inr rfl) ?_;exact⟨0,by simp[oneD],by kernel_rfl⟩
theorem zSu(l:List Nat)(s:Nat):(l++[s]).map u32D=l.map u32D++[u32D s]:=by simp
set_option maxHeartbeats 4000000 in
theorem meeting_c(sets:List Nat)(o:Nat)(hn:sets.length<=1000000)(hs:∀s∈sets,s<4294967296)(ho:o<4294967296):Pure Ao 78 [.row (sets.map u32D) sets.length,u32D o] [] (.row ((zDy sets o).map u32D) (zDy sets o).length):=by
 refine zH zAf mixed Tryz.func78 rfl<|zB<|zA rfl<|v0s<|veT<|zB<|zA rfl<|ve (True/\0<1/\1=1/\0<=16777216/\0<=9223372036854775807)<|zB<|zB<|zA rfl<|veT<|zF<|zAu (λ(i:Nat)(L:List Nat)=>fr 64 [(0,Ae (Ad u32D sets)<|Aa sets),(1,u32D o),(4,nl),(5,Aj 0 0 (Aa L) (Aa L) Ab),(14,Ae (Ad u32D sets)<|Aa sets),(15,iD (Aa sets:Int)),(16,iD (i:Int))]) (λ(i:Nat)(L:List Nat)=>[u32K<|L.map u32D]) (λi L=>sets.length-i) (λ(i:Nat)(L:List Nat)=>i<=sets.length/\L=(sets.take i).filter λs=>s&&&o !=0) 0 [] ?_ ?_ ?_
 ·exact⟨by omega,rfl⟩
 ·refine vk 1
 rintro i L ⟨h1,h2⟩;have hL:L.length<=sets.length:=by
  rw[h2];refine AE (Bq _ _) ?_;rw[AU];omega
 have hcl:(L.map u32D).length=L.length:=Al ..
 rcases An i sets.length with h3|h3
 ·have hx:=zCf sets i h3;have hne:sets.map u32D≠[]:=zAb;have hs2:sets.getD i 0<4294967296:=zE9 hs h3;have htk:=zCy sets i h3;have hsu:(sets.take (i+1)).filter (λs=>s&&&o !=0)=if sets.getD i 0&&&o !=0 then L++[sets.getD i 0]else L:=by
   rw[htk,Br,<-h2,Bl];cases sets.getD i 0&&&o !=0<;>simp
  generalize sets.getD i 0=s at*;have hand:s&&&o<4294967296:=Cr CO hs2;have w1:=zMm hs2 ho;have w2:=zAx hand;by_cases hq:s&&&o=0
  ·have w3:(((s&&&o:Nat):Int)!=0)=false:=by rw[hq];rfl
   rw[if_neg (by rw[hq];decide)]at hsu;refine zB<|zA rfl<|v0s<|veT<|zB<|vT ((i:Int)<(Aa sets:Int))<|zL<|zC<|zD<|zB<|zF<|zB<|zA rfl<|vr 1 (ix (i:Int) (Aa sets:Int) (Ad u32D sets≠[]))<|vp 18 (i) (Ad u32D sets)<|vr 1 (0<Aa (Ag i<|Ad u32D sets))<|vsh 19 hx<|veT<|zB<|zA rfl<|vrT 3<|vs 22 (Av<|As Au<|AV Au (↑(AW (Ay 32 (s:Int)&&&Ay 32 (o:Int))):Int)) (dig (s&&&o)) (hd:=by simp(disch:=omega) only[w2,w1])<|vrT 1<|vs 23 (bD ((↑(s&&&o):Int)!=(0:Int))) (bD Ac) (hd:=by simp(disch:=omega) only[w3])<|veT<|vf<|zL<|zE<|zC<|zD<|zA rfl<|vr 2 (i6 ((i:Int)+(1:Int)))<|vnil<|zC<|⟨i+1,L,⟨by omega,hsu.symm⟩,by omega,?_⟩;refine vk 1
  have w3:(((s&&&o:Nat):Int)!=0)=true:=by rw[bne_iff_ne];omega
  rw[if_pos (by rw[bne_iff_ne];exact hq)]at hsu;refine zB<|zA rfl<|v0s<|veT<|zB<|vT ((i:Int)<(Aa sets:Int))<|zL<|zC<|zD<|zB<|zF<|zB<|zA rfl<|vr 1 (ix (i:Int) (Aa sets:Int) (Ad u32D sets≠[]))<|vp 18 (i) (Ad u32D sets)<|vr 1 (0<Aa (Ag i<|Ad u32D sets))<|vsh 19 hx<|veT<|zB<|zA rfl<|vrT 3<|vs 22 (Av<|As Au<|AV Au (↑(AW (Ay 32 (s:Int)&&&Ay 32 (o:Int))):Int)) (dig (s&&&o)) (hd:=by simp(disch:=omega) only[w2,w1])<|vrT 1<|vs 23 (bD ((↑(s&&&o):Int)!=(0:Int))) (bD Ab) (hd:=by simp(disch:=omega) only[w3])<|veT<|vt<|zA rfl<|vr 5 (((1=1/\1<=1/\True)/\0<1/\1=1/\1<=16777216/\1<=9223372036854775807)/\A_ (u32K<|Ad u32D L)=Ab/\Aa (AD<|u32K<|Ad u32D L)=Aa L*1/\Aa L=Aa L*1/\A6 (u32K<|Ad u32D L)=97/\A7 (u32K<|Ad u32D L)=1/\1=1/\0<1/\0<4/\97=97/\(Aa L+1)*4<=140737488355328/\1=1/\A0 (AF<|u32K<|Ad u32D L)=Ac/\(Ac=Ac\/A1 (AF<|u32K<|Ad u32D L)=Ab))<|vs 5 (Aj 0 0 (Aa L+1) ((Aa L+1)*1) Ab) (Aj 0 0 (Aa L+1) (Aa L+1) Ab) (hd:=by simp(disch:=omega) only[A8])<|vnil<|zE<|zC<|zD<|zA rfl<|vr 2 (i6 ((i:Int)+(1:Int)))<|vnil<|zC<|⟨i+1,L++[s],⟨by omega,hsu.symm⟩,by omega,?_⟩;rw[zSu,AL,BW];refine vk 1
 obtain rfl:i=sets.length:=by omega
 rw[A5]at h2;have h2:L=zYf sets o:=h2;have hK:∀s∈L,s<4294967296:=λs h=>hs s (AP.1 (h2▸h)).1;have ht:(L.map u32D).take L.length=L.map u32D:=AN (by omega);have hco:=zYr (L.map u32D) L.length hcl (by omega);refine zB<|zA rfl<|v0s<|veT<|zB<|vF ((Aa sets:Int)<(Aa sets:Int))<|zV<|zM<|zM<|zS rfl<|zC<|zD<|zB<|zA rfl<|vrT 1<|vnl [Ae (Ai (Aa L)<|Ag 0<|AD<|u32K<|Ad u32D L)<|Aa L] [Ae (Ad u32D L)<|Aa L] (BQ (by simp(disch:=omega) only[AJ,ht])) (by exact hco)<|veT<|zB<|zB<|zA rfl<|veT<|zF<|zAu (λ(i:Nat)(M:List Nat)=>fr 64 [(1,u32D o),(4,nl),(5,Aj 0 0 (Aa L) (Aa L) Ab),(8,Aj 1 0 (Aa M) (Aa M) Ab),(31,Ae (Ad u32D sets)<|Aa sets),(32,iD (Aa sets:Int)),(33,iD (i:Int))]) (λ(i:Nat)(M:List Nat)=>[⟨L.map u32D,97,1,Ab,Ab,.plain⟩,u32K<|M.map u32D]) (λi M=>sets.length-i) (λ(i:Nat)(M:List Nat)=>i<=sets.length/\M=L++((sets.take i).filter λs=>s&&&o==0).flatMap λs=>zA6 L o s (Ap 32)) 0 L ?_ ?_ ?_
 ·exact⟨by omega,by simp⟩
 ·refine vk 2
 rintro i M ⟨i1,i2⟩;have hgl:∀s,(zA6 L o s (Ap 32)).length<=32:=λs=>zL0 (Ap 32);have hM:M.length<=33000000:=by
  rw[i2,AL];have h5:=zPs (λs=>zA6 L o s (Ap 32)) 32 hgl ((sets.take i).filter λs=>s&&&o==0);have h6:=Bq (λs=>s&&&o==0) (sets.take i);rw[AU]at h6;omega
 rcases An i sets.length with i3|i3;case inr=>
  obtain rfl:i=sets.length:=by omega
  rw[A5]at i2;have i2:M=zDy sets o:=by rw[i2,h2];rfl
  subst i2;have ht2:((zDy sets o).map u32D).take (zDy sets o).length=(zDy sets o).map u32D:=AN (by rw[Al];exact AK _);refine zB<|zA rfl<|v0s<|veT<|zB<|vF ((Aa sets:Int)<(Aa sets:Int))<|zV<|zM<|zM<|zS rfl<|zC<|zD<|zB<|zA rfl<|veT<|zJ<|zAs (True) (Ae (Ai (Aa<|zDy sets o)<|Ag 0<|AD<|u32K<|Ad u32D<|zDy sets o)<|Aa<|zDy sets o) (Ae (Ad u32D<|zDy sets o)<|Aa<|zDy sets o) (.inr rfl) (by simp(disch:=omega) only[AJ,ht2]) rfl
 have hx:=zCf sets i i3;have hne:sets.map u32D≠[]:=zAb;have hs2:sets.getD i 0<4294967296:=zE9 hs i3;have htk:=zCy sets i i3;have hsu:L++((sets.take (i+1)).filter λs=>s&&&o==0).flatMap (λs=>zA6 L o s (Ap 32))=if sets.getD i 0&&&o==0 then M++zA6 L o (sets.getD i 0) (Ap 32)else M:=by
  rw[htk,Br,BE,<-B8,<-i2,Bl];cases sets.getD i 0&&&o==0<;>simp
 generalize sets.getD i 0=s at*;have hand:s&&&o<4294967296:=Cr CO hs2;have w1:=zMm hs2 ho;have w2:=zAx hand;by_cases hq:s&&&o=0;case neg=>
  have w3:(((s&&&o:Nat):Int)!=0)=true:=by rw[bne_iff_ne];omega
  rw[if_neg (by rw[beq_iff_eq];exact hq)]at hsu;refine zB<|zA rfl<|v0s<|veT<|zB<|vT ((i:Int)<(Aa sets:Int))<|zL<|zC<|zD<|zB<|zF<|zB<|zA rfl<|vr 1 (ix (i:Int) (Aa sets:Int) (Ad u32D sets≠[]))<|vp 35 (i) (Ad u32D sets)<|vr 1 (0<Aa (Ag i<|Ad u32D sets))<|vsh 36 hx<|veT<|zB<|zB<|zA rfl<|vrT 3<|vs 39 (Av<|As Au<|AV Au (↑(AW (Ay 32 (s:Int)&&&Ay 32 (o:Int))):Int)) (dig (s&&&o)) (hd:=by simp(disch:=omega) only[w1,w2])<|vrT 1<|vs 40 (bD ((↑(s&&&o):Int)!=(0:Int))) (bD Ab) (hd:=by simp(disch:=omega) only[w3])<|veT<|vt<|zV ?_;refine zM<|zS rfl<|zC<|zD<|zA rfl<|vr 2 (i6 ((i:Int)+(1:Int)))<|vnil<|zC<|⟨i+1,M,⟨by omega,hsu.symm⟩,by omega,?_⟩;refine vk 2
 have w3:(((s&&&o:Nat):Int)!=0)=false:=by rw[hq];rfl
 rw[if_pos (by rw[hq];decide)]at hsu;refine zB<|zA rfl<|v0s<|veT<|zB<|vT ((i:Int)<(Aa sets:Int))<|zL<|zC<|zD<|zB<|zF<|zB<|zA rfl<|vr 1 (ix (i:Int) (Aa sets:Int) (Ad u32D sets≠[]))<|vp 35 (i) (Ad u32D sets)<|vr 1 (0<Aa (Ag i<|Ad u32D sets))<|vsh 36 hx<|veT<|zB<|zB<|zA rfl<|vrT 3<|vs 39 (Av<|As Au<|AV Au (↑(AW (Ay 32 (s:Int)&&&Ay 32 (o:Int))):Int)) (dig (s&&&o)) (hd:=by simp(disch:=omega) only[w1,w2])<|vrT 1<|vs 40 (bD ((↑(s&&&o):Int)!=(0:Int))) (bD Ac) (hd:=by simp(disch:=omega) only[w3])<|veT<|vf<|zL<|zC<|zD<|zB<|zA rfl<|veT<|zF<|zAu (λ(j:Nat)(R:List Nat)=>fr 64 [(1,u32D o),(4,nl),(5,Aj 0 0 (Aa L) (Aa L) Ab),(8,Aj 1 0 (Aa R) (Aa R) Ab),(10,dig s),(31,Ae (Ad u32D sets)<|Aa sets),(32,iD (Aa sets:Int)),(33,iD (i:Int)),(41,iD (j:Int))]) (λ(j:Nat)(R:List Nat)=>[⟨L.map u32D,97,1,Ab,Ab,.plain⟩,u32K<|R.map u32D]) (λj R=>32-j) (λ(j:Nat)(R:List Nat)=>j<=32/\R=M++zA6 L o s (Ap j)) 0 M ?_ ?_ ?_
 ·exact⟨by omega,by simp[zA6]⟩
 ·refine vk 2
 rintro j R ⟨j1,j2⟩;have hR:R.length<=34000000:=by
  rw[j2,AL]
  have:=zL0 (kept:=L) (o:=o) (s:=s) (Ap j)
  rw[Ca]at this;omega
 have hcr:(R.map u32D).length=R.length:=Al ..
 rcases An j 32 with j3|j3
 ·have hsn:M++zA6 L o s (Ap (j+1))=R++(if s|||(o&&&2^j)=s then[]else if L.any (λk=>dif k (s|||(o&&&2^j))==0)then[]else[s|||(o&&&2^j)]):=by
   rw[BA,zNe,<-B8,<-j2]
  have hp:=zF8 j3;have v1:=zEv j3;have v2:=zMm ho hp;have v3:o&&&2^j<4294967296:=Cr CO ho;have v4:=zAx v3;have v5:=zMv hs2 v3;have v6:=zLi hs2 v3;have v7:=zAx v6;have hcn:=zTt L (s|||(o&&&2^j)) (by omega) hK v6;generalize s|||(o&&&2^j)=g at*;by_cases hg:g=s
  ·have v8:(((g:Nat):Int)==((s:Nat):Int))=true:=by rw[beq_iff_eq];omega
   rw[if_pos hg,BS]at hsn;refine zB<|zA rfl<|v0s<|veT<|zB<|vT ((j:Int)<(32:Int))<|zL<|zC<|zD<|zB<|zF<|zB<|zA rfl<|veT<|zB<|zA rfl<|vr 4 ((0:Int)<=(j:Int))<|vs 47 (Av<|As Au<|AV Au ((1:Int)*(2:Int)^min (Ak (j:Int)) 32)) (dig ((2:Nat)^j)) (hd:=by simp(disch:=omega) only[AA,v1])<|vrT 1<|vs 48 (Av<|As Au<|AV Au (↑(AW (Ay 32 (o:Int)&&&Ay 32 (↑((2:Nat)^j):Int))):Int)) (dig (o&&&(2:Nat)^j)) (hd:=by simp(disch:=omega) only[v4,v2])<|vrT 1<|vs 49 (Av<|As Au<|AV Au (↑(AW (Ay 32 (s:Int)|||Ay 32 (↑(o&&&(2:Nat)^j):Int))):Int)) (dig g) (hd:=by simp(disch:=omega) only[v7,v5])<|ve (Ac=Ac/\Ab=Ab/\1=1/\1<=1)<|zB<|zB<|zA rfl<|vr 3 (0<1/\True)<|vs 52 (bD ((g:Int)==(s:Int))) (bD Ab) (hd:=by simp(disch:=omega) only[v8])<|veT<|vt<|zV<|zM<|zS rfl<|zC<|zD<|zA rfl<|vr 2 (i6 ((j:Int)+(1:Int)))<|vnil<|zC<|⟨j+1,R,⟨by omega,hsn.symm⟩,by omega,?_⟩;refine vk 2
  have v8:(((g:Nat):Int)==((s:Nat):Int))=false:=by rw[beq_eq_false_iff_ne];omega
  rw[if_neg hg]at hsn;cases hb:L.any λk=>dif k g==0
  ·rw[hb]at hcn hsn;rw[if_neg (by decide)]at hsn;refine zB<|zA rfl<|v0s<|veT<|zB<|vT ((j:Int)<(32:Int))<|zL<|zC<|zD<|zB<|zF<|zB<|zA rfl<|veT<|zB<|zA rfl<|vr 4 ((0:Int)<=(j:Int))<|vs 47 (Av<|As Au<|AV Au ((1:Int)*(2:Int)^min (Ak (j:Int)) 32)) (dig ((2:Nat)^j)) (hd:=by simp(disch:=omega) only[AA,v1])<|vrT 1<|vs 48 (Av<|As Au<|AV Au (↑(AW (Ay 32 (o:Int)&&&Ay 32 (↑((2:Nat)^j):Int))):Int)) (dig (o&&&(2:Nat)^j)) (hd:=by simp(disch:=omega) only[v4,v2])<|vrT 1<|vs 49 (Av<|As Au<|AV Au (↑(AW (Ay 32 (s:Int)|||Ay 32 (↑(o&&&(2:Nat)^j):Int))):Int)) (dig g) (hd:=by simp(disch:=omega) only[v7,v5])<|ve (Ac=Ac/\Ab=Ab/\1=1/\1<=1)<|zB<|zB<|zA rfl<|vr 3 (0<1/\True)<|vs 52 (bD ((g:Int)==(s:Int))) (bD Ac) (hd:=by simp(disch:=omega) only[v8])<|veT<|vf<|zL<|zC<|zD<|zB<|zA rfl<|vrT 2<|vcl [Ae (Ai (Aa L)<|Ag 0<|Ad u32D L)<|Aa L,D.clo (Fn.func 107) [] [AB [dig g]]] [Ae (Ad u32D L)<|Aa L,D.clo (Fn.func 107) [] [AB [dig g]]] (BQ (by simp(disch:=omega) only[AJ,ht])) (by exact hcn)<|veT<|vt<|zA rfl<|vr 5 (0<1/\((1=1/\1<=1/\True)/\0<1/\1=1/\1<=16777216/\1<=9223372036854775807)/\A_ (u32K<|Ad u32D R)=Ab/\Aa (AD<|u32K<|Ad u32D R)=Aa R*1/\Aa R=Aa R*1/\A6 (u32K<|Ad u32D R)=97/\A7 (u32K<|Ad u32D R)=1/\1=1/\0<1/\0<4/\97=97/\(Aa R+1)*4<=140737488355328/\1=1/\A0 (AF<|u32K<|Ad u32D R)=Ac/\(Ac=Ac\/A1 (AF<|u32K<|Ad u32D R)=Ab))<|vs 8 (Aj 1 0 (Aa R+1) ((Aa R+1)*1) Ab) (Aj 1 0 (Aa R+1) (Aa R+1) Ab) (hd:=by simp(disch:=omega) only[A8])<|vnil<|zE<|zC<|zD<|zA rfl<|vr 2 (i6 ((j:Int)+(1:Int)))<|vnil<|zC<|⟨j+1,R++[g],⟨by omega,hsn.symm⟩,by omega,?_⟩;rw[zSu,AL,BW];refine vk 2
  rw[hb]at hcn hsn;rw[if_pos rfl,BS]at hsn;refine zB<|zA rfl<|v0s<|veT<|zB<|vT ((j:Int)<(32:Int))<|zL<|zC<|zD<|zB<|zF<|zB<|zA rfl<|veT<|zB<|zA rfl<|vr 4 ((0:Int)<=(j:Int))<|vs 47 (Av<|As Au<|AV Au ((1:Int)*(2:Int)^min (Ak (j:Int)) 32)) (dig ((2:Nat)^j)) (hd:=by simp(disch:=omega) only[AA,v1])<|vrT 1<|vs 48 (Av<|As Au<|AV Au (↑(AW (Ay 32 (o:Int)&&&Ay 32 (↑((2:Nat)^j):Int))):Int)) (dig (o&&&(2:Nat)^j)) (hd:=by simp(disch:=omega) only[v4,v2])<|vrT 1<|vs 49 (Av<|As Au<|AV Au (↑(AW (Ay 32 (s:Int)|||Ay 32 (↑(o&&&(2:Nat)^j):Int))):Int)) (dig g) (hd:=by simp(disch:=omega) only[v7,v5])<|ve (Ac=Ac/\Ab=Ab/\1=1/\1<=1)<|zB<|zB<|zA rfl<|vr 3 (0<1/\True)<|vs 52 (bD ((g:Int)==(s:Int))) (bD Ac) (hd:=by simp(disch:=omega) only[v8])<|veT<|vf<|zL<|zC<|zD<|zB<|zA rfl<|vrT 2<|vcl [Ae (Ai (Aa L)<|Ag 0<|Ad u32D L)<|Aa L,D.clo (Fn.func 107) [] [AB [dig g]]] [Ae (Ad u32D L)<|Aa L,D.clo (Fn.func 107) [] [AB [dig g]]] (BQ (by simp(disch:=omega) only[AJ,ht])) (by exact hcn)<|veT<|vf<|zL<|zE<|zC<|zD<|zA rfl<|vr 2 (i6 ((j:Int)+(1:Int)))<|vnil<|zC<|⟨j+1,R,⟨by omega,hsn.symm⟩,by omega,?_⟩;refine vk 2
 obtain rfl:j=32:=by omega
 rw[<-j2]at hsu;refine zB<|zA rfl<|v0s<|veT<|zB<|vf<|zV<|zM<|zM<|zS rfl<|zE<|zC<|zD<|zA rfl<|vr 2 (i6 ((i:Int)+(1:Int)))<|vnil<|zC<|⟨i+1,R,⟨by omega,hsu.symm⟩,by omega,?_⟩;refine vk 2
theorem shr64(m:Nat){v:Nat}(h:v<64):BJ (m:Int) (2^(min v 64))=((m>>>v:Nat):Int):=by
 rw[BZ (by omega),CB,Int.fdiv_eq_ediv_of_nonneg _ (by exact Int.pow_nonneg (by decide))];simp
section
variable {A : List (List Nat × List Rw)} (hA : RaOk A)
include hA
end
theorem zX6(a b:List Va):zJ5 a b []=rcmp a b:=zLd a b
section
variable (L : List Rw) (x : Rw)
abbrev seCl(L:List Rw)(x:Rw):D:= .clo (.func 98) [] [.ptr [.row (L.map rowV) L.length], .ptr [rowV x], .ptr [.row [] 0]]
theorem se1_c(hL:∀y∈L,y.length<=1000000)(hx:x.length<=1000000)(i:Nat)(hi:i<L.length):Pure Ao 98 [iD (i:Nat), .ptr [.row (L.map rowV) L.length], .ptr [rowV x], .ptr [.row [] 0]] [] (bD (decide (0<=rcmp (L.getD i []) x))):=by
 have hg:=zDv L i hi;have hne:L.map rowV≠[]:=zAb;have hc:=zJs (L.getD i []) x [] _ _ 0 rfl rfl rfl (by have:=hL _ (zAc L [] i hi);omega) (by omega) (by omega);rw[zX6]at hc;generalize rcmp (L.getD i []) x=z at*;generalize L.getD i []=y at*;have hz:decide (z>=0)=decide (0<=z):=rfl;refine zH zAf mixed Tryz.func98 rfl<|vAu<|zB<|vd [1,0,2,3,4,5,6,7,8]<|vr 3 (0<1/\ix (i:Int) (Aa L:Int) (Ad rowV L≠[]))<|vp 8 (i) (Ad rowV L)<|vr 1 (0<Aa (Ag i<|Ad rowV L))<|vsh 9 hg<|vr 2 (0<1/\0<1)<|vc (hc)<|veT<|zJ<|vret (True)<|.inr rfl
theorem half_u{a b:Nat}(h:a+b<4294967296):BJ (((a+b:Nat):Int)) (2^1)=(((a+b)/2:Nat):Int):=by
 have:=shr64 (a+b) (v:=1) (by omega)
 rw[show min 1 64=1 from rfl]at this;rw[this,CB]
theorem wrapU{n:Nat}(h:n<4294967296):Cd.wrap (n:Int)=(n:Int):=zCe (k:= .u64) (by simp only[inK];omega)
set_option maxHeartbeats 1000000 in
theorem sse_c(hs:Rsc L)(hb:L.length<=1000000)(hL:∀y∈L,y.length<=1000000)(hx:x.length<=1000000):Pure Ao 97 [iD (L.length:Nat),seCl L x] [] (iD (cntR L x:Nat)):=by
 have hcl:=zLx L x;have hse:=λi hi=>se1_c L x hL hx i hi;have hct:=λi hi=>zTw (L:=L) x hs (i:=i) hi;generalize cntR L x=m at*;refine zH (zF0 0 λ_=>Ac) mixed Tryz.func97 rfl<|vAu<|vAe<|vB<|zAu (λ(i:Nat)(j:Nat)=>fr 26 [(1,seCl L x),(4,iD 0),(5,iD (i:Int)),(6,iD (j:Int))]) (λ(i:Nat)(j:Nat)=>[]) (λi j=>j-i) (λ(i:Nat)(j:Nat)=>i<=m/\m<=j/\j<=L.length) 0 L.length ?_ ?_ ?_
 ·exact⟨by omega,hcl,AK _⟩
 ·refine vk 0
 rintro i j ⟨h1,h2,h3⟩;rcases An i j with h4|h4
 ·have hq:(i+j)/2<L.length:=by omega
  have hh:=hse _ hq;rw[hct _ hq]at hh;have w1:=half_u (a:=i) (b:=j) (by omega);have w2:=wrapU (n:=i+j) (by omega);have w3:((i:Nat):Int)+(j:Nat)=((i+j:Nat):Int):=by omega
  have w4:=wrapU (n:=(i+j)/2) (by omega);have w5:AY.wrap (((i+j)/2:Nat):Int)=(((i+j)/2:Nat):Int):=zCe (k:= .i64) (by simp only[inK];omega);have w6:AY.wrap (((i+j):Nat):Int)=(((i+j):Nat):Int):=zCe (k:= .i64) (by simp only[inK];omega);by_cases hm:m<=(i+j)/2
  ·rw[decide_eq_true hm]at hh;generalize hqq:(i+j)/2=q at*;refine zB<|vAu<|vT ((i:Int)<↑j)<|vK<|zF<|vA<|vr 5 (i6 ((i:Int)+(j:Int))/\u6 (↑(i+j):Int)/\(0:Int)<=(1:Int))<|vs 16 (Av<|As Cd<|BJ (↑(i+j):Int) ((2:Int)^1)) (Av<|As Cd (q:Int)) (hd:=by simp(disch:=omega) only[w1])<|ve (i6 (q:Int))<|vA<|vrT 2<|vc hh<|veT<|vf<|zA rfl<|vrT 2<|vnil<|zE<|zC<|⟨i,q,⟨by omega,by omega,by omega⟩,by omega,?_⟩;refine vk 0
  rw[decide_eq_false hm]at hh;generalize hqq:(i+j)/2=q at*;refine zB<|vAu<|vT ((i:Int)<↑j)<|vK<|zF<|vA<|vr 5 (i6 ((i:Int)+(j:Int))/\u6 (↑(i+j):Int)/\(0:Int)<=(1:Int))<|vs 16 (Av<|As Cd<|BJ (↑(i+j):Int) ((2:Int)^1)) (Av<|As Cd (q:Int)) (hd:=by simp(disch:=omega) only[w1])<|ve (i6 (q:Int))<|vA<|vrT 2<|vc hh<|veT<|vt<|zA rfl<|vr 3 (i6 (↑q+1))<|vnil<|zE<|zC<|⟨q+1,j,⟨by omega,by omega,by omega⟩,by omega,?_⟩;refine vk 0
 obtain rfl:i=m:=by omega
 refine zB<|vAu<|vF ((i:Int)<↑j)<|vZ2<|vAe<|zJ<|vret (True)<|.inr rfl
theorem zZ5(hs:Rsc L)(hb:L.length<=1000000)(hL:∀y∈L,y.length<=1000000)(hx:x.length<=1000000):Pure Ao 74 [.row (L.map rowV) L.length,rowV x, .row [] 0] [] (.tup [iD (cntR L x:Nat),bD (decide (x∈L))]):=by
 have hss:=sse_c L x hs hb hL hx;have hcl:=zLx L x;have hme:=cntR_mem (x:=x) hs;rw[<-hme];by_cases h1:cntR L x<L.length
 ·rw[decide_eq_true h1,Bool.true_and];have hg:=zDv L _ h1;have hne:L.map rowV≠[]:=zAb;have heq:=zF7 (L.getD (cntR L x) []) x _ _ rfl rfl (by have:=hL _ (zAc L [] _ h1);omega) (by omega);generalize decide (L.getD (cntR L x) []=x)=b at*;generalize L.getD (cntR L x) []=y at*;generalize cntR L x=m at*;refine zH zAf mixed Tryz.func74 rfl<|vAu<|vA<|vr 3 (0<1)<|vc (hss)<|veT<|zB<|vd [0,1,2,3,4,5,7,6,8,9,10,11,12,13,14]<|vw 9 [] [(5,Ab)] (0<1/\decide ((m:Int)<(Aa L:Int))=Ab/\0<1/\ix (m:Int) (Aa L:Int) (Ad rowV L≠[]))<|vp 21 (m) (Ad rowV L)<|vr 1 (0<Aa (Ag m<|Ad rowV L))<|vsh 22 hg<|vr 1 (0<1)<|vc (heq)<|veT<|zJ<|vret (True)<|.inr rfl
 rw[decide_eq_false h1,Bool.false_and];generalize cntR L x=m at*;refine zH zAf mixed Tryz.func74 rfl<|vAu<|vA<|vr 3 (0<1)<|vc (hss)<|veT<|zB<|vd [0,1,2,3,4,5,7,6,8,9,10,11,12,13,14]<|vew [] [(5,Ac)] (0<1/\decide ((m:Int)<(Aa L:Int))=Ac)<|zJ<|vret (True)<|.inr rfl
theorem zS1(ar:Int)(hs:Rsc L)(hb:L.length<=1000000)(hL:∀y∈L,y.length<=1000000)(hx:x.length<=1000000):Pure Ao 53 [relD ar L,rowV x] [] (.tup [iD (cntR L x:Nat),bD (decide (x∈L))]):=by
 have h:=zZ5 L x hs hb hL hx;generalize cntR L x=m at*;generalize decide (x∈L)=b at*;refine zH zAf mixed Tryz.func53 rfl<|vAu<|vA<|vr 3 (True/\0<1)<|vcl [Ae (Ad rowV L)<|Aa L,Ae (zK x)<|Aa x,nl] [Ae (Ad rowV L)<|Aa L,Ae (zK x)<|Aa x,Ae [] 0] (LeL.trans (LeL.refl _)<|LeL.cons (LeD.refl _)<|LeL.cons (LeD.refl _)<|LeL.cons LeD.nil_row LeL.nil) (by exact h)<|ve (0<2/\1<2)<|zJ<|vret (True)<|.inr rfl
end
end
end Go.Proofs.YthmfohpkimflhaaGreatDoor
