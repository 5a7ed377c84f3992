/- Texts of this claim, joined. -/
import Derived.Test.YthmfohpkimflhaaGreatDoorU03
import Derived.Lib.SlicesCompact
set_option linter.unusedVariables false
set_option linter.unusedSimpArgs false
namespace Go.Proofs.YthmfohpkimflhaaGreatDoor
open _root_.List renaming length->Aa,map->Ad,flatMap->Ag,drop->Ah,take->Al,length_map->Aq,range->Ar,mem_map->As,getD_eq_getElem?_getD->Au,getElem?_eq_getElem->AC,replicate->AG,mem_cons->AK,mem_filter->AL,length_append->AM,drop_zero->AN,getD->AP,mem_range->AQ,length_cons->AR,take_of_length_le->AT,mem_cons_self->AV,set->AX,length_take->AZ,cons_append->A0,mem_singleton->A2,all_eq_true->A6,getElem_mem->A7,nil_append->A8,pairwise_cons->Bb,mem_cons_of_mem->Bf,any_eq_true->Bj,map_append->Bl,filter_cons->Bm,length_filter_le->Bn,mem_flatMap->Bo,getElem?_map->Bp,take_length->Bq,map_map->Bs,filter_append->Bt,mem_append->Bv,length_drop->BB,flatMap_append->BC,range_succ->BF,map_congr_left->BH,length_singleton->BJ,append_assoc->BM,take_succ_eq_append_getElem->BN,append_nil->BO,drop_eq_getElem_cons->BP,pairwise_map->BR,flatMap_map->BS,idxOf_lt_length_iff->BT,length_range->BV,mem_append_left->BX,foldl_append->BZ,nodup_cons->B0,flatMap_cons->B1,length_nil->B3,getElem?_range->B7,mem_append_right->B9,take_append_drop->Ca,Pairwise->Ce,getElem_idxOf->Cf,flatMap_singleton->Cg,find?_eq_none->Ch,mem_of_find?_eq_some->Ci,getElem?_take->Ck,getElem_of_mem->Cl,not_mem_nil->Cr,mem_of_mem_drop->Cv,map_replicate->Cy,map_cons->Cz,replicate_succ->CA,mem_flatten->CB,pairwise_iff_getElem->CH,findIdx?_cons->CL,getElem?_append_right->CM,getElem?_eq_none->CN,eq_nil_of_length_eq_zero->CO,getElem?_append_left->CQ,exists_mem_of_ne_nil->CR,take_append_of_le_length->CS
open _root_.Bool renaming true->Ab,false->Ac,and_eq_true->A5,or_eq_true->Bi,eq_iff_iff->Bx,false_or->B_,not_true->Cd,or_eq_false_iff->Cu,not_eq_true'->Cx,false_eq_true->CD,not_false->CE,or_false->CF
open D renaming row->Ae,osl->Ai,val->Ao,agg->AD,own->AE,ptr->AS
open _root_.Inhabited renaming default->Af
open _root_.BitVec renaming ofInt->Aj,toNat->Ay
open IntKind renaming u32->Ak,wrap->AF,i64->AU,u64->B8
open _root_.Go.Proofs.Tryz renaming prog->Am,func8->BW
open Value renaming int->An
open _root_.Int renaming toNat->Ap,toNat_natCast->AB,fdiv->Bd
open _root_.Option renaming some->Av,none->AO,getD_some->BL
open _root_.Nat renaming lt_or_ge->Aw,le_trans->AH,le_refl->AJ,testBit_and->AW,testBit_or->AY,mul_one->Bh,le_mul_of_pos_right->Bu,pow_le_pow_right->Bw,testBit_two_pow->BA,zero_testBit->BD,eq_of_testBit_eq->BE,testBit_two_pow_sub_one->BQ,mul_le_mul_right->BY,succ->B2,zero_le->B4,zero_add->B5,lt_of_le_of_lt->B6,min_eq_left->Cb,lt_of_lt_of_le->Cc,testBit->Cj,two_pow_pos->Cq,and_le_left->Ct,shiftRight_eq_div_pow->CC,exists_testBit_of_ne_zero->CJ,testBit_lt_two_pow->CK
open Bk renaming mk->Ax,cells->AA,kd->AI,ty->A3,sz->A4,arr->A9,fz->Bg
open Kd renaming plain->Az,isMap->A_,isSh->Ba
open _root_.Prod renaming fst->A1,snd->Br
open Lib renaming compact->Bc,keeps->By,compactUpTo->CG
open _root_.Classical renaming propDecidable->BG,byContradiction->BI
open Cs renaming desc->BK
open LeL renaming of_eq->BU
open TypeInfo renaming desc->Cn,mk->Co
open TypeDesc renaming int->Cp
section
open Go.RowKit
attribute [local irreducible] seqW awp zW zX zP Weak updS zZ retL Pure Acts rP setP setQ cP nP fr
set_option maxRecDepth 4096
theorem zJl(l:List (Fa Bool)):(l.flatMap zAc).length=l.length*3:=zB5 zAq l
theorem zXv(v:Nat)(fs:List (Fa Bool))(k:Nat)(h:k<fs.length):zGm v (fs.take (k+1))=zGm v (fs.take k)++(if v∈(fs.getD k Af).A then[fs.getD k Af]else[])/\zEt v (fs.take (k+1))=zEt v (fs.take k)++(if v∈(fs.getD k Af).A then[]else[fs.getD k Af]):=by
 rw[zA1 fs k h];unfold zGm zEt;rw[Bt,Bt];constructor<;>congr 1<;>by_cases hc:v∈(fs.getD k Af).A<;>simp[Bm,hc]
theorem zPs(l:List (Fa Bool))(f:Fa Bool):(l++[f]).flatMap zAc=l.flatMap zAc++zAc f:=by simp
section
variable {Dm : List Va}
set_option maxHeartbeats 8000000 in
theorem zRu(hD:Okv Dm)(fs:List (Fa Bool))(v:Nat)(hf:∀f∈fs,FOk rcmp Dm f)(hl:fs.length<=500)(hr:pz rz fs<=900000)(hz:pz bz fs<=Bz)(hv:∃f∈fs,v∈f.A)(hv32:v<32):
  Pure Am 91 [booD, .row (fs.flatMap zAc) fs.length,iD (v:Nat)] [] (.row ((elim rcmp Sb v fs).flatMap zAc) (elim rcmp Sb v fs).length):=by
 have hg:∀f∈fs,GofB Dm f:=λf h=>⟨hf f h,AH (zV2 zK1 h) hr,AH (zV2 zMd h) hz⟩;refine zG zYx mixed Tryz.func91 rfl<|zB<|zA rfl<|v0s<|veT<|zB<|zA rfl<|veT<|zB<|zB<|zA rfl<|veT<|zF<|zBh (λ(k:Nat)(a:List (Fa Bool))(b:List (Fa Bool))=>fr 65 [(0,booD),(2,iD (v:Int)),(6,nl),(7,Ai 0 0 (Aa a) (Aa a*3) Ab),(8,Ai 1 0 (Aa b) (Aa b*3) Ab),(14,Ae (Ag zAc fs)<|Aa fs),(15,iD (Aa fs:Int)),(16,iD (k:Int))]) (λ(k:Nat)(a:List (Fa Bool))(b:List (Fa Bool))=>[fsBB<|a.flatMap zAc,fsBB<|b.flatMap zAc]) (λk a b=>fs.length-k) (λ(k:Nat)(a:List (Fa Bool))(b:List (Fa Bool))=>k<=fs.length/\a=zGm v (fs.take k)/\b=zEt v (fs.take k)) 0 [] [] ?_ ?_ ?_
 ·exact⟨by omega,rfl,rfl⟩
 ·refine vk 0
 rintro k a b ⟨h1,ha,hb⟩;rcases Aw k fs.length with h2|h2
 ·have hmf:=zAf fs Af k h2;have hg2:=zJ0 zAq fs k h2;have hle:=zFe zAq fs k h2;have hne2:=zFd zAq (by decide) fs;have hAf:=(hf _ hmf).asc;have nAf:=zB1 hAf;have sA:=zJj (fs.getD k Af).A _ rfl (by omega) hAf.2 (zAh (fs.getD k Af).l) (zAn (fs.getD k Af).l) (fs.getD k Af).l.length (fs.getD k Af).l.length;have hma:=zDg hAf.2;have w1:=zR8 hma v;have w2:=bit_w hma v;rw[zBu]at w1 w2;have w3:=zEo (msk (fs.getD k Af).A) hv32;obtain⟨u1,u2⟩:=zXv v fs k h2;rw[<-ha]at u1;rw[<-hb]at u2;have la:a.length<=500:=by rw[ha];exact AH (Bn _ _) (by simp;omega)
  have lb:b.length<=500:=by rw[hb];exact AH (Bn _ _) (by simp;omega)
  have ca:=zJl a;have cb:=zJl b;generalize fs.getD k Af=f at*;focus
   refine zB<|zA rfl<|v0s<|veT<|zB<|vT ((k:Int)<(Aa fs:Int))<|zK<|zC<|zD<|zB<|zF<|zB<|zA rfl<|vr 2 (ix (k:Int) (Aa fs:Int) (Ag zAc fs≠[])/\3<=Aa (Ah (k*3)<|Ag zAc fs))<|vs 19 (AD<|Al 3<|Ah (k*3)<|Ag zAc fs) (AD<|zAc f) (hd:=by simp(disch:=omega) only[hg2])<|ve (Ac=Ac/\Ab=Ab/\3=3/\3<=3)<|zB<|zA rfl<|vr 1 (3<=3)<|vc (sA)<|vr 2 ((0:Int)<=(v:Int))<|vs 23 (Ao<|An Ak<|Bd (↑(msk<|Fa.A f):Int) ((2:Int)^min (Ap (v:Int)) 32)) (dig (msk (Fa.A f)>>>v)) (hd:=by simp(disch:=omega) only[AB,w3])<|vrT 1<|vs 24 (Ao<|An Ak<|AF Ak (↑(Ay (Aj 32 (↑(msk (Fa.A f)>>>v):Int)&&&Aj 32 (1:Int))):Int)) (dig<|Ay (Aj 32 (↑(msk (Fa.A f)>>>v):Int)&&&Aj 32 (1:Int))) (hd:=by simp(disch:=omega) only[zA5])<|vrT 1<|vs 25 (bD ((↑(Ay (Aj 32 (↑(msk (Fa.A f)>>>v):Int)&&&Aj 32 (1:Int))):Int)==(1:Int))) (bD<|decide (v∈Fa.A f)) (hd:=by simp(disch:=omega) only[w1])<|veT<|vcD (v∈Fa.A f) (λhc=>?_)<|λhc=>?_;refine zA rfl<|vr 5 (3<=3/\((3=3/\3<=3/\True)/\0<3/\3=3/\3<=16777216/\1<=9223372036854775807)/\A9 (fsBB<|Ag zAc a)=Ab/\Aa (AA<|fsBB<|Ag zAc a)=Aa a*3/\Aa a*3=Aa a*3/\A3 (fsBB<|Ag zAc a)=133/\A4 (fsBB<|Ag zAc a)=3/\3=3/\0<3/\0<72/\133=133/\(Aa a+1)*72<=140737488355328/\3=3/\A_ (AI<|fsBB<|Ag zAc a)=Ac/\(Ac=Ac\/Ba (AI<|fsBB<|Ag zAc a)=Ab))<|vnil<|zE<|zC<|zD<|zA rfl<|vr 2 (i6 ((k:Int)+(1:Int)))<|vnil<|zC ?_;rotate_left;refine zA rfl<|vr 5 (3<=3/\((3=3/\3<=3/\True)/\0<3/\3=3/\3<=16777216/\1<=9223372036854775807)/\A9 (fsBB<|Ag zAc b)=Ab/\Aa (AA<|fsBB<|Ag zAc b)=Aa b*3/\Aa b*3=Aa b*3/\A3 (fsBB<|Ag zAc b)=133/\A4 (fsBB<|Ag zAc b)=3/\3=3/\0<3/\0<72/\133=133/\(Aa b+1)*72<=140737488355328/\3=3/\A_ (AI<|fsBB<|Ag zAc b)=Ac/\(Ac=Ac\/Ba (AI<|fsBB<|Ag zAc b)=Ab))<|vnil<|zE<|zC<|zD<|zA rfl<|vr 2 (i6 ((k:Int)+(1:Int)))<|vnil<|zC ?_;rotate_left
  ·rw[if_pos hc]at u1 u2;rw[BO]at u2;refine⟨k+1,a++[f],b,⟨by omega,u1.symm,u2.symm⟩,by omega,?_⟩;rw[zPs,zLo];refine vk 2
  rw[if_neg hc]at u1 u2;rw[BO]at u1;refine⟨k+1,a,b++[f],⟨by omega,u1.symm,u2.symm⟩,by omega,?_⟩;rw[zPs,zLo];refine vk 2
 rw[AT (by omega)]at ha hb;have hperm:=zDy v fs;rw[<-ha,<-hb]at hperm;have hpr:=zSz rz hperm;have hpv:=zSz bz hperm;have hmem:=λf=>hperm.mem_iff (a:=f);have hvin:∀f∈a,v∈f.A:=λf h=>by
  rw[ha,zGm,AL]at h;simpa using h.2
 have hlen:=hperm.length_eq;rw[AM]at hlen;cases a with
 |nil=>
  exfalso;obtain⟨f,h5,h6⟩:=hv;have:f∈zGm v fs:=AL.2 ⟨h5,by simpa using h6⟩;rw[<-ha]at this;simp at this
 | cons p ws=>
  have hel:elim rcmp Sb v fs=b++[fsum rcmp Sb v (zCz rcmp Sb p ws b)]:=by
   unfold elim;rw[<-ha,<-hb]
  rw[hel];clear hel ha hb hv;have h0:((p::ws).flatMap zAc).take 3=zAc p:=rfl;have hfa:=zFo zAq (p::ws) (ws.length+1) rfl;have hfb:=zFo zAq b _ rfl;refine zB<|zA rfl<|v0s<|veT<|zB<|vF ((k:Int)<(Aa fs:Int))<|zV<|zM<|zM<|zQ rfl<|zC<|zD<|zB<|zA rfl<|vr 5 (((0:Int)<=(0:Int)/\(0:Int)<(↑(Aa ws+1):Int))/\3<=Aa (Ah 0<|AA<|fsBB<|Ag zAc (p::ws))/\Ac=Ac/\Ab=Ab/\3=3/\3<=3)<|vnil<|zC<|vnn (fr 65 [(0,booD),(2,iD (v:Int)),(6,nl),(7,Ai 0 0 (Aa (p::ws)) (Aa (p::ws)*3) Ab),(8,Ai 1 0 (Aa b) (Aa b*3) Ab),(11,AE 2 0),(14,Ae (Ag zAc fs)<|Aa fs),(15,iD (Aa fs:Int)),(16,iD (k:Int)),(17,bD<|decide ((k:Int)<(Aa fs:Int))),(35,Ai 0 0 (Aa ws+1) ((Aa ws+1)*3) Ab),(36,AE 0 0),(37,AD [Ae (nsD<|Fa.A p)<|Aa<|Fa.A p,Ae (zAh<|Fa.l p)<|Aa<|Fa.l p,Ae (zAn<|Fa.l p)<|Aa<|Fa.l p])]) [fsBB<|Ag zAc (p::ws),fsBB<|Ag zAc b,Ax [Ae (nsD<|Fa.A p)<|Aa<|Fa.A p,Ae (zAh<|Fa.l p)<|Aa<|Fa.l p,Ae (zAn<|Fa.l p)<|Aa<|Fa.l p] 133 0 Ac Ac Az] ?_;clear h1 h2 hperm;refine zB9 (((Weak.osr (s:=7) (k:=0) (off:=0) (n:=ws.length+1) (m:=(ws.length+1)*3) (wh:=Ab) (cs:=(p::ws).flatMap zAc) (by kernel_rfl) (by exact(show Av (Ae ((((p::ws).flatMap zAc).drop 0).take ((ws.length+1)*3)) (ws.length+1),[0])=_ by rw[AN,hfa]))).trans (Weak.osr (s:=8) (k:=1) (off:=0) (n:=b.length) (m:=b.length*3) (wh:=Ab) (cs:=b.flatMap zAc) (by kernel_rfl) (by exact(show Av (Ae (((b.flatMap zAc).drop 0).take (b.length*3)) b.length,[1])=_ by rw[AN,hfb])))).trans<|Weak.leS (s:=7) (d':= .row ((p::ws).flatMap zAc) (ws.length+1)) (by kernel_rfl)<|LeD.osr_row 0 0 (ws.length+1) ((ws.length+1)*3) Ab<|(p::ws).flatMap zAc) ?_;have hs1:((p::ws).flatMap zAc).drop 3=ws.flatMap zAc:=rfl;have hs2:(ws.flatMap zAc).take (ws.length*3)=ws.flatMap zAc:=zFo zAq ws _ rfl;have hwl:ws.length<=500:=by simp only[AR]at hlen;omega
  refine zB<|zB<|zA rfl<|v0s<|vr 2 ((0:Int)<=(1:Int)/\True/\True/\0<3/\1<=Aa ws+1/\Aa ws+1<=Aa ws+1/\Aa ws+1=Aa ws+1)<|vs 39 (Ae (Al ((Aa ws+1-1)*3)<|Ah 3<|Ag zAc (p::ws)) (Aa ws+1-1)) (Ae (Ag zAc ws)<|Aa ws) (hd:=by simp(disch:=omega) only[Nat.add_sub_cancel,hs1,hs2])<|veT<|zF ?_;have hp1:=hf p ((hmem p).1 (by simp));have hws:∀f∈ws,f∈fs:=λf h=>(hmem f).1 (BX _ (Bf _ h));have hbs:∀f∈b,f∈fs:=λf h=>(hmem f).1 (B9 _ h);have b1:rz p*pz rz ws<=900000:=by
   rw[zQw,zCk]at hpr;exact AH (Bu _ (zJv zK1 b)) (by omega)
  have b2:bz p*pz bz ws<=Bz:=by
   rw[zQw,zCk]at hpv;exact AH (Bu _ (zJv zMd b)) (by omega)
  refine zBh (λ(t:Nat)(A:List Nat)(l:List (Rw×Bool))=>fr 65 [(0,booD),(2,iD (v:Int)),(6,nl),(7,Ae (Ag zAc (p::ws)) (Aa ws+1)),(8,D.osr 1 0 (Aa b) (Aa b*3) Ab<|Ag zAc b),(11,AE 2 0),(39,Ae (Ag zAc ws)<|Aa ws),(40,iD (Aa ws:Int)),(41,iD (t:Int))]) (λ(t:Nat)(A:List Nat)(l:List (Rw×Bool))=>[⟨(p::ws).flatMap zAc,133,3,Ab,Ab,.plain⟩,⟨b.flatMap zAc,133,3,Ab,Ab,.plain⟩,fB1B (.row (nsD A) A.length) (.row (zAh l) l.length)<|.row (zAn l) l.length]) (λt A l=>ws.length-t) (λ(t:Nat)(A:List Nat)(l:List (Rw×Bool))=>t<=ws.length/\zCz rcmp Sb ⟨A,l⟩ (ws.drop t) b=zCz rcmp Sb p ws b/\FOk rcmp Dm ⟨A,l⟩/\rz (⟨A,l⟩:Fa Bool)*pz rz (ws.drop t)<=900000/\bz (⟨A,l⟩:Fa Bool)*pz bz (ws.drop t)<=Bz/\v∈A) 0 p.A p.l ?_ ?_ ?_
  ·exact⟨by omega,rfl,hp1,b1,b2,hvin p (by simp)⟩
  ·refine vk 3
  rintro t A l ⟨t1,t2,t3,t4,t5,t6⟩;rcases Aw t ws.length with t7|t7
  ·have hmf:=zAf ws Af t t7;have hg2:=zJ0 zAq ws t t7;have hle:=zFe zAq ws t t7;have hne2:=zFd zAq (by decide) ws;have hdr:ws.drop t=ws.getD t Af::ws.drop (t+1):=by
    rw[BP t7,Au,AC t7];rfl
   rw[hdr]at t2 t4 t5;rw[zCk,<-Nat.mul_assoc]at t4 t5;have q1:rz (⟨A,l⟩:Fa Bool)*rz (ws.getD t Af)<=900000:=AH (Bu _ (zJv zK1 _)) t4;have q2:bz (⟨A,l⟩:Fa Bool)*bz (ws.getD t Af)<=Bz:=AH (Bu _ (zJv zMd _)) t5;have gA:GofB Dm ⟨A,l⟩:=⟨t3,AH (Bu _ (zK1 _)) q1,AH (Bu _ (zMd _)) q2⟩;have hmul:=zJz hD ⟨A,l⟩ (ws.getD t Af) (ws.drop (t+1)++b) gA (hg _ (hws _ hmf)) (λo ho=>by
    rcases Bv.1 ho with h|h
    ·exact hg _ (hws _ (Cv h))
    exact hg _ (hbs _ h)) (by rw[AM,BB];simp only[AR]at hlen;omega) q1
   have r1:=zTe (c:=rcmp) Sb ⟨A,l⟩ (ws.getD t Af) (ws.drop (t+1)++b);have r2:=zTf (c:=rcmp) ⟨A,l⟩ (ws.getD t Af) (ws.drop (t+1)++b);have r3:=zPo (S:=Sb) rcw t3 (hf _ (hws _ hmf)) (ws.drop (t+1)++b);have r4:=AH (BY (pz rz (ws.drop (t+1))) r1) t4;have r5:=AH (BY (pz bz (ws.drop (t+1))) r2) t5;have r6:v∈(fmul rcmp Sb ⟨A,l⟩ (ws.getD t Af) (ws.drop (t+1)++b)).A:=zE8.2 ⟨hv32, .inl t6⟩;rw[zCz]at t2;have hcc:=concat_cB ((ws.drop (t+1)).flatMap zAc) (b.flatMap zAc) (ws.drop (t+1)).length b.length (zJl _) (zJl _) (by rw[BB];simp only[AR]at hlen;omega) (by simp only[AR]at hlen;omega) (λ_ _=>trivial);rw[<-BC,<-AM]at hcc;have hsl:((p::ws).flatMap zAc).drop ((t+2)*3)=(ws.drop (t+1)).flatMap zAc:=by
    rw[zPp zAq];rfl
   have hsn:ws.length+1-(t+2)=(ws.drop (t+1)).length:=by rw[BB];omega
   have hst:=zFo zAq (ws.drop (t+1)) _ rfl;generalize ws.getD t Af=f at*;generalize fmul rcmp Sb ⟨A,l⟩ f (ws.drop (t+1)++b)=q at*;obtain⟨A',l'⟩:=q;have cast2:(t:Int)+2=((t+2:Nat):Int):=by omega
   refine zB<|zA rfl<|v0s<|veT<|zB<|vT ((t:Int)<(Aa ws:Int))<|zK<|zC<|zD<|zB<|zF<|zB<|zA rfl<|vr 3 (ix (t:Int) (Aa ws:Int) (Ag zAc ws≠[])/\3<=Aa (Ah (t*3)<|Ag zAc ws))<|vs 45 (AD<|Al 3<|Ah (t*3)<|Ag zAc ws) (AD<|zAc f) (hd:=by simp(disch:=omega) only[hg2])<|ve (Ac=Ac/\Ab=Ab/\3=3/\3<=3)<|vd [0,3,4,5,6,7,1,2,8,9,10,11]<|vr 5 (i6 ((t:Int)+(2:Int))/\(0:Int)<=(↑(t+2):Int)/\True/\True/\0<3/\Ap (↑(t+2):Int)<=Aa ws+1/\Aa ws+1<=Aa ws+1/\Aa ws+1=Aa ws+1)<|vs 52 (Ae (Al ((Aa ws+1-Ap (↑(t+2):Int))*3)<|Ah (Ap (↑(t+2):Int)*3)<|Ag zAc (p::ws)) (Aa ws+1-Ap (↑(t+2):Int))) (Ae (Ag zAc<|Ah (t+1) ws)<|Aa<|Ah (t+1) ws) (hd:=by simp(disch:=omega) only[AB,hst,hsl,hsn])<|vr 4 (3<=3/\3<=3/\(1=1/\1<=2/\1=1/\2<=2/\True)/\0<1/\1=1/\2<=16777216/\2<=9223372036854775807)<|vc (hcc)<|vc (hmul)<|vr 1 (Bg (fB1B (Ae (nsD A)<|Aa A) (Ae (zAh l)<|Aa l)<|Ae (zAn l)<|Aa l)=Ac/\Ab=Ab/\3=3/\3<=3)<|vnil<|zE<|zC<|zD<|zA rfl<|vr 2 (i6 ((t:Int)+(1:Int)))<|vnil<|zC<|⟨t+1,A',l',⟨by omega,t2,r3,r4,r5,r6⟩,by omega,?_⟩;refine vk 3
  rw[List.drop_of_length_le t7]at t2 t4 t5;simp only[pz,List.foldr_nil,Bh,zCz]at t2 t4 t5;have hsum:=zXz hD ⟨A,l⟩ ⟨t3,t4,t5⟩ v t6;rw[<-t2,zPs,zLo];have cb:=zJl b;generalize fsum rcmp Sb v ⟨A,l⟩=q at*;obtain⟨A',l'⟩:=q;have ht:(b.flatMap zAc++zAc ⟨A',l'⟩).take ((b.length+1)*3)=b.flatMap zAc++zAc ⟨A',l'⟩:=AT (by rw[AM,cb];show _+3<=_;omega);refine zB<|zA rfl<|v0s<|veT<|zB<|vF ((t:Int)<(Aa ws:Int))<|zV<|zM<|zM<|zQ rfl<|zC<|zD<|zB<|zA rfl<|vr 4 (3<=3)<|vc (hsum)<|ve (((3=3/\3<=3/\True)/\0<3/\3=3/\3<=16777216/\1<=9223372036854775807)/\A9 (Ax (Ag zAc b) 133 3 Ab Ab Az)=Ab/\Aa (Ag zAc b)=Aa b*3/\Aa b*3=Aa b*3/\A3 (Ax (Ag zAc b) 133 3 Ab Ab Az)=133/\A4 (Ax (Ag zAc b) 133 3 Ab Ab Az)=3/\3=3/\0<3/\0<72/\133=133/\(Aa b+1)*72<=140737488355328/\3=3/\A_ (AI<|Ax (Ag zAc b) 133 3 Ab Ab Az)=Ac/\(Ac=Ac\/Ba (AI<|Ax (Ag zAc b) 133 3 Ab Ab Az)=Ab))<|zJ<|zAy (True) (Ae (Al ((Aa b+1)*3)<|Ah 0 (Ag zAc b++[Ae (nsD A')<|Aa A',Ae (zAh l')<|Aa l',Ae (zAn l')<|Aa l'])) (Aa b+1)) (Ae (Ag zAc b++zAc (Fa.mk A' l')) (Aa b+1)) (.inr rfl) (by simp(disch:=omega) only[AN,ht]) rfl
end
section
variable {Dm : List Va}
set_option maxHeartbeats 8000000 in
theorem zS5(hD:Okv Dm)(hDn:Dm.Nodup)(n keep:Nat)(fs:List (Fa Bool))(hn:n<=8)(hk:keep<4294967296)(hf:∀f∈fs,FOk rcmp Dm f)(hl:fs.length<=500)(hr:2*pz rz fs<=900000)(hz:2*pz bz fs<=Bz)
  (hcv:∀v,v<n->∃f∈fs,v∈f.A)(hck:Pure Am 88 [iD (n:Nat),u32D keep, .row (fs.flatMap zAc) fs.length] [] (iD 0)):
  Pure Am 69 [booD,iD (n:Nat),u32D keep, .row (fs.flatMap zAc) fs.length] [] (.tup [faAB (zEy popN rcmp Sb fs ((Ar n).filter λv=>!keep.testBit v)),iD 0]):=by
 have hcl:=cloneF_cB (fs.flatMap zAc) fs.length (zJl fs) (by omega);have w2:=zEp (v:=n) (by omega);have h2n:2^n<=256:=Bw (n:=2) (by omega) hn;have h1n:=Nat.one_le_two_pow (n:=n);have w3:((2^n:Nat):Int)-1=((2^n-1:Nat):Int):=by omega
 have w4:=zAs (n:=2^n-1) (by omega);have w5:=an_keep (n:=n) (by omega) hk;have hEa:Asc ((Ar n).filter λv=>!keep.testBit v):=⟨(List.pairwise_lt_range (n:=n)).filter _,λv hv=>by have:=(AL.1 hv).1;simp at this;omega⟩;have hEc:∀v∈(Ar n).filter (λv=>!keep.testBit v),∃f∈fs,v∈f.A:=λv hv=>hcv v (by have:=(AL.1 hv).1;simpa using this);generalize (Ar n).filter (λv=>!keep.testBit v)=E at*;have w6:=zAs (zDg hEa.2);refine zG (T:=Tc) (zVe _ _ _) mixed Tryz.func69 rfl<|zB<|zA rfl<|v0s<|veT<|zB<|zB<|zA rfl<|vrT 3<|vc (hck)<|veT<|zB<|zA rfl<|veT<|vf<|zK<|zC<|zD<|zB<|zA rfl<|vrT 1<|vc (hcl)<|veT<|zB<|zB<|zA rfl<|vr 2 ((0:Int)<=(n:Int))<|vs 28 (Ao<|An Ak<|AF Ak ((1:Int)*(2:Int)^min (Ap (n:Int)) 32)) (dig ((2:Nat)^n)) (hd:=by simp(disch:=omega) only[AB,w2])<|vr 1 (u3 ((↑((2:Nat)^n):Int)-(1:Int)))<|vs 29 (Ao<|An Ak ((↑((2:Nat)^n):Int)-(1:Int))) (dig ((2:Nat)^n-1)) (hd:=by simp(disch:=omega) only[w3])<|vrT 2<|vs 31 (Ao<|An Ak<|AF Ak (↑(Ay (Aj 32 (↑((2:Nat)^n-1):Int)&&&~~~Aj 32 (keep:Int))):Int)) (dig<|msk E) (hd:=by simp(disch:=omega) only[w5,w6])<|veT<|zF<|zBh (λ(i:Nat)(L:List (Fa Bool))(F:List Nat)=>fr 68 [(0,booD),(8,AE 0 0),(9,iD 0),(11,Ae (Ag zAc L)<|Aa L),(12,u32D<|msk F)]) (λ(i:Nat)(L:List (Fa Bool))(F:List Nat)=>[fB1B nl nl nl]) (λi L F=>i) (λ(i:Nat)(L:List (Fa Bool))(F:List Nat)=>i=F.length/\Asc F/\(∀v∈F,∃f∈L,v∈f.A)/\(∀f∈L,FOk rcmp Dm f)/\L.length<=500/\2*pz rz L<=900000/\2*pz bz L<=Bz/\zGf popN rcmp Sb F.length L F=zGf popN rcmp Sb E.length fs E) E.length fs E ?_ ?_ ?_
 ·exact⟨rfl,hEa,hEc,hf,hl,hr,hz,rfl⟩
 ·refine vk 1
 rintro i L F ⟨rfl,f1,f2,f3,f4,f5,f6,f7⟩;by_cases hF:F=[]
 ·subst hF;have hL:zGf popN rcmp Sb E.length fs E=L:=f7.symm;have hres:zEy popN rcmp Sb fs E=zCz rcmp Sb (zJ5 Sb) L []:=by unfold zEy;rw[hL]
  rw[hres];have m0:msk []=0:=rfl;rw[m0];obtain⟨o,ho⟩:∃o:Bool,o=true:=⟨_,rfl⟩;refine zB<|zB<|zA rfl<|v0s<|veT<|vf<|zV<|zM<|zM<|zQ rfl<|zC<|zD<|zB<|zA rfl<|vr 3 ((True/\0<3/\3=3/\0<=16777216/\0<=9223372036854775807)/\(1=1/\1<=1/\True)/\0<1/\1=1/\1<=16777216/\1<=9223372036854775807)<|vc (bone_c o ho)<|vr 4 (((1=1/\1<=1/\True)/\0<1/\1=1/\1<=16777216/\1<=9223372036854775807)/\((1=1/\2<=3/\1=1/\3<=3/\True)/\Ab=Ab)/\Ac=Ac/\Ab=Ab/\3=3/\3<=3)<|vnil<|zC<|vnn (fr 68 [(0,booD),(8,AE 0 0),(9,iD 0),(11,Ae (Ag zAc L)<|Aa L),(12,u32D 0),(14,AE 4 0),(33,bD Ac),(45,Ai 1 0 0 0 Ab),(46,Ai 2 0 1 1 Ab),(47,D.ifc 129<|AD []),(48,bD o),(49,Ai 3 0 1 1 Ab),(50,AD [nl,Ai 2 0 1 1 Ab,Ai 3 0 1 1 Ab])]) [fB1B nl nl nl,Ax [] 73 3 Ab Ab Az,Ax [Ae [] 0] 29 1 Ab Ac Az,Ax [bD o] 4 1 Ab Ac Az,Ax [nl,Ai 2 0 1 1 Ab,Ai 3 0 1 1 Ab] 133 0 Ac Ac Az] ?_;clear hck hcl hcv hEa hEc w5 w6 f1 f2 f7 hL hres;refine zB9 ((Weak.fzCell (j:=4) (i:=1) (d:= .osl 2 0 1 1 Ab) (x:= .row [.row [] 0] 1) (ks:=[2]) rfl rfl rfl rfl (by exact rfl) (by decide)).trans<|(Weak.fzCell (j:=4) (i:=2) (d:= .osl 3 0 1 1 Ab) (x:= .row [bD o] 1) (ks:=[3]) rfl rfl rfl rfl (by exact rfl) (by decide)).trans<|Weak.leC (j:=4) (i:=0) (d':= .row [] 0) rfl rfl rfl LeD.nil_row) ?_;refine zB<|zB<|zA rfl<|v0s<|veT<|zF ?_;have hu:(zJ5 Sb:Fa Bool)=⟨[],[([],o)]⟩:=by rw[ho];rfl
  have hU:FOk rcmp Dm (⟨[],[([],o)]⟩:Fa Bool):=hu▸zSp;have u1:rz (⟨[],[([],o)]⟩:Fa Bool)=2:=rfl;have u2:bz (⟨[],[([],o)]⟩:Fa Bool)<=2:=by rw[ho];decide
  rw[hu];refine zBh (λ(t:Nat)(A:List Nat)(l:List (Rw×Bool))=>fr 68 [(0,booD),(8,AE 0 0),(9,iD 0),(11,Ae (Ag zAc L)<|Aa L),(14,AE 4 0),(51,Ae (Ag zAc L)<|Aa L),(52,iD (Aa L:Int)),(53,iD (t:Int))]) (λ(t:Nat)(A:List Nat)(l:List (Rw×Bool))=>[fB1B nl nl nl,⟨[],73,3,Ab,Ab,.plain⟩,⟨[.row [] 0],29,1,Ab,Ab,.plain⟩,⟨[bD o],4,1,Ab,Ab,.plain⟩,fB1B (.row (nsD A) A.length) (.row (zAh l) l.length)<|.row (zAn l) l.length]) (λt A l=>L.length-t) (λ(t:Nat)(A:List Nat)(l:List (Rw×Bool))=>t<=L.length/\zCz rcmp Sb ⟨A,l⟩ (L.drop t) []=zCz rcmp Sb ⟨[],[([],o)]⟩ L []/\FOk rcmp Dm ⟨A,l⟩/\rz (⟨A,l⟩:Fa Bool)*pz rz (L.drop t)<=900000/\bz (⟨A,l⟩:Fa Bool)*pz bz (L.drop t)<=Bz) 0 [] [([],o)] ?_ ?_ ?_
  ·exact⟨by omega,rfl,hU,by rw[u1];exact f5,AH (BY _ u2) f6⟩
  ·refine vk 5
  rintro t A l ⟨t1,t2,t3,t4,t5⟩;rcases Aw t L.length with t7|t7
  ·have hmf:=zAf L Af t t7;have hg2:=zJ0 zAq L t t7;have hle:=zFe zAq L t t7;have hne2:=zFd zAq (by decide) L;have hdr:L.drop t=L.getD t Af::L.drop (t+1):=by
    rw[BP t7,Au,AC t7];rfl
   rw[hdr]at t2 t4 t5;rw[zCk,<-Nat.mul_assoc]at t4 t5;have q1:rz (⟨A,l⟩:Fa Bool)*rz (L.getD t Af)<=900000:=AH (Bu _ (zJv zK1 _)) t4;have q2:bz (⟨A,l⟩:Fa Bool)*bz (L.getD t Af)<=Bz:=AH (Bu _ (zJv zMd _)) t5;have gA:GofB Dm ⟨A,l⟩:=⟨t3,AH (Bu _ (zK1 _)) q1,AH (Bu _ (zMd _)) q2⟩;have hg:∀f∈L,GofB Dm f:=λf h=>⟨f3 f h,AH (zV2 zK1 h) (by omega),AH (zV2 zMd h) (by omega)⟩;have hmul:=zJz hD ⟨A,l⟩ (L.getD t Af) (L.drop (t+1)) gA (hg _ hmf) (λo ho=>hg _ (Cv ho)) (by rw[BB];omega) q1;have r1:=zTe (c:=rcmp) Sb ⟨A,l⟩ (L.getD t Af) (L.drop (t+1));have r2:=zTf (c:=rcmp) ⟨A,l⟩ (L.getD t Af) (L.drop (t+1));have r3:=zPo (S:=Sb) rcw t3 (f3 _ hmf) (L.drop (t+1));have r4:=AH (BY (pz rz (L.drop (t+1))) r1) t4;have r5:=AH (BY (pz bz (L.drop (t+1))) r2) t5;rw[zCz,BO]at t2;have hsl:(L.flatMap zAc).drop ((t+1)*3)=(L.drop (t+1)).flatMap zAc:=zPp zAq L (t+1);have hsn:L.length-(t+1)=(L.drop (t+1)).length:=by rw[BB]
   have hst:=zFo zAq (L.drop (t+1)) _ rfl;generalize L.getD t Af=f at*;generalize fmul rcmp Sb ⟨A,l⟩ f (L.drop (t+1))=q at*;obtain⟨A',l'⟩:=q;refine zB<|zA rfl<|v0s<|veT<|zB<|vT ((t:Int)<(Aa L:Int))<|zK<|zC<|zD<|zB<|zF<|zB<|zA rfl<|vr 3 (ix (t:Int) (Aa L:Int) (Ag zAc L≠[])/\3<=Aa (Ah (t*3)<|Ag zAc L))<|vs 57 (AD<|Al 3<|Ah (t*3)<|Ag zAc L) (AD<|zAc f) (hd:=by simp(disch:=omega) only[hg2])<|ve (Ac=Ac/\Ab=Ab/\3=3/\3<=3)<|vd [0,3,4,5,6,1,2,7,8]<|vr 5 (i6 ((t:Int)+(1:Int))/\(0:Int)<=(↑(t+1):Int)/\True/\True/\0<3/\Ap (↑(t+1):Int)<=Aa L/\Aa L<=Aa L/\Aa L=Aa L)<|vs 64 (Ae (Al ((Aa L-Ap (↑(t+1):Int))*3)<|Ah (Ap (↑(t+1):Int)*3)<|Ag zAc L) (Aa L-Ap (↑(t+1):Int))) (Ae (Ag zAc<|Ah (t+1) L)<|Aa<|Ah (t+1) L) (hd:=by simp(disch:=omega) only[AB,hsl,hsn,hst])<|vr 2 (3<=3/\3<=3)<|vc (hmul)<|vr 1 (Bg (fB1B (Ae (nsD A)<|Aa A) (Ae (zAh l)<|Aa l)<|Ae (zAn l)<|Aa l)=Ac/\Ab=Ab/\3=3/\3<=3)<|vnil<|zE<|zC<|zD<|zA rfl<|vr 2 (i6 ((t:Int)+(1:Int)))<|vnil<|zC<|⟨t+1,A',l',⟨by omega,t2,r3,r4,r5⟩,by omega,?_⟩;refine vk 5
  rw[List.drop_of_length_le t7]at t2;simp only[zCz]at t2;rw[<-t2];refine zB<|zA rfl<|v0s<|veT<|zB<|vF ((t:Int)<(Aa L:Int))<|zV<|zM<|zM<|zQ rfl<|zC<|zD<|zB<|zA rfl<|ve (3<=3/\Ac=Ac/\Ab=Ab/\3=3/\3<=3)<|zJ<|vret (3<=3)<|.inr rfl
 have hm:=zMa popN L hF;have hch:=zT0 L F f1 hF (λf h=>(f3 f h).asc) (by omega);have hv32:=f1.2 _ hm.1;have hel:=zRu hD L (zBr popN L F) f3 f4 (by omega) (by omega) (f2 _ hm.1) hv32;have hmn:=msk_ne hF;have x1:=zEp hv32;have x2:=an_less f1 hv32;have x3:=zAs (zDg (zPe f1 (zBr popN L F)).2);have hz1:=elim_z (c:=rcmp) (S:=Sb) (z:=rz) (zTe Sb) (fsum_rz Sb) (zBr popN L F) L;have hz2:=elim_z (c:=rcmp) (S:=Sb) (z:=bz) zTf fsum_bz (zBr popN L F) L;have hlen:=elim_len (c:=rcmp) (S:=Sb) (zBr popN L F) L;have hA:=elim_A (c:=rcmp) (S:=Sb) (fs:=L) (λf h=>(f3 f h).asc.2) (zBr popN L F);have hok:=elim_ok (S:=Sb) rcw f3 (zBr popN L F);have hll:=zWr f1.nd hm.1;have hla:=zPe f1 (zBr popN L F);have hmg:zGf popN rcmp Sb F.length L F=zGf popN rcmp Sb (less F (zBr popN L F)).length (elim rcmp Sb (zBr popN L F) L) (less F (zBr popN L F)):=by
  rw[<-hll];rfl
 have hcm:=hm.1;generalize zBr popN L F=v at*;generalize elim rcmp Sb v L=L' at*;refine zB<|zB<|zA rfl<|v0s<|veT<|zE9 (t:=(↑(msk F):Int)!=(0:Int)) (by kernel_rfl) (by simpa using by omega)<|zK<|zC<|zD<|zF<|zB<|zA rfl<|vrT 2<|vc (hch)<|veT<|zB<|zA rfl<|vrT 3<|vc (hel)<|veT<|zA rfl<|vr 3 ((0:Int)<=(v:Int))<|vs 43 (Ao<|An Ak<|AF Ak ((1:Int)*(2:Int)^min (Ap (v:Int)) 32)) (dig ((2:Nat)^v)) (hd:=by simp(disch:=omega) only[AB,x1])<|vrT 1<|vs 44 (Ao<|An Ak<|AF Ak (↑(Ay (Aj 32 (↑(msk F):Int)&&&~~~Aj 32 (↑((2:Nat)^v):Int))):Int)) (dig<|msk<|less F v) (hd:=by simp(disch:=omega) only[x3,x2])<|vrT 1<|vnil<|zE<|zC<|⟨(less F v).length,L',less F v,⟨rfl,hla,λw hw=>(hA w).2 ⟨f2 w (zDo.1 hw).1,(zDo.1 hw).2⟩,hok,by omega,by omega,by omega,by rw[<-hmg];exact f7⟩,by omega,?_⟩;refine vk 1
end
end
section
open Go.RowKit
attribute [local irreducible] seqW awp zW zX zP Weak updS zZ retL Pure Acts rP setP setQ cP nP fr
set_option maxRecDepth 4096
set_option maxRecDepth 4096
abbrev fcRB(V:List Int)(R:List Rw)(W:List D)(m:Nat):D:= .agg [.row (V.map λz=>iD z) V.length, .row (R.map rowV) R.length, .row W m]
set_option maxHeartbeats 4000000 in
theorem check_cB (n : Int) (V : List Int)(R:List Rw)(W:List D)(m:Nat)(hV:V.length<=1000000)(hR:R.length<=1000000):
    Pure Am 121 [iD n,fcRB V R W m] [] (iD (chk n V R m)):=by
  refine zG Tq_ok mixed Tryz.func121 rfl<|zB<|zA rfl<|v0s<|veT<|zB<|zB<|zA rfl<|ve (True/\0<3)<|zF<|zS (λ(i:Nat)=>fr 94 [(0,iD n),(3,AE 0 0),(13,Ae (Ad (λ(z:Int)=>iD z) V)<|Aa V),(14,iD (Aa V:Int)),(15,iD (i:Int))]) (λ(i:Nat)=>[fB1B (.row (V.map λz=>iD z) V.length) (.row (R.map rowV) R.length)<|.row W m]) (λi=>V.length-i) (λ(i:Nat)=>i<=V.length/\∀j,j<i->zG1 n V j=Ab) 0 ?_ ?_ ?_
  ·exact⟨by omega,λj h=>by omega⟩
  ·refine vk 1
  rintro i ⟨h1,h2⟩;rcases Aw i V.length with h3|h3
  · have hne:(V.map λz=>iD z)≠[]:=zAb
    have hx:=zEc V i h3;by_cases hs:zG1 n V i=Ab
    · have hs2:=hs
      simp only[zG1,A5,Bi,decide_eq_true_eq]at hs2;obtain⟨s1,s2,s3⟩:=hs2;rcases i with _|k
      · rw[AN]at hx
        refine zB<|zA rfl<|v0s<|veT<|zB<|vT ((↑(0:Nat):Int)<(Aa V:Int))<|zK<|zC<|zD<|zB<|zF<|zB<|zA rfl<|vr 3 (ix (↑(0:Nat):Int) (Aa V:Int) (Ad (λ(z:Int)=>iD z) V≠[])/\0<Aa (Ad (λ(z:Int)=>iD z) V))<|vsh 19 hx<|veT<|zB<|zA rfl<|vew [] [(2,Ac),(7,Ac)] (decide (AP V 0 (0:Int)<0)=Ac/\decide (AP V 0 (0:Int)>=n)=Ac) (vf<|zK<|zE<|zC<|zD<|zA rfl<|vr 2 (i6 ((↑(0:Nat):Int)+(1:Int)))<|vnil<|zC ?_) ⟨(by exact decide_eq_false (by omega)),(by exact decide_eq_false (by omega))⟩;refine⟨1,⟨by omega,λj hj=>?_⟩,by omega,?_⟩
        · obtain rfl:j=0:=by omega
          exact hs
        refine vk 1
      · have hx2:=zEc V k (by omega)
        have s4:V.getD k 0<V.getD (k+1) 0:=by
          rcases s3 with h|h
          ·omega
          exact h
        refine zB<|zA rfl<|v0s<|veT<|zB<|vT ((↑(k+1):Int)<(Aa V:Int))<|zK<|zC<|zD<|zB<|zF<|zB<|zA rfl<|vr 2 (ix (↑(k+1):Int) (Aa V:Int) (Ad (λ(z:Int)=>iD z) V≠[]))<|vp 18 (k+1) (Ad (λ(z:Int)=>iD z) V)<|vr 1 (0<Aa (Ah (k+1)<|Ad (λ(z:Int)=>iD z) V))<|vsh 19 hx<|veT<|zB<|zA rfl<|vw 15 [] [(2,Ac),(7,Ac),(10,Ab)] (decide (AP V (k+1) (0:Int)<0)=Ac/\decide (AP V (k+1) (0:Int)>=n)=Ac/\decide ((↑(k+1):Int)>(0:Int))=Ab/\True/\0<3/\i6 ((↑(k+1):Int)-(1:Int))) (vs 34 (iD ((↑(k+1):Int)-(1:Int))) (iD (k:Int)) (hd:=by simp(disch:=omega) only[pred1])<|vr 1 (ix (k:Int) (Aa V:Int) (Ad (λ(z:Int)=>iD z) V≠[]))<|vp 35 (k) (Ad (λ(z:Int)=>iD z) V)<|vr 1 (0<Aa (Ah k<|Ad (λ(z:Int)=>iD z) V))<|vsh 36 hx2<|veT<|vF (AP V k (0:Int)>=AP V (k+1) (0:Int)) ?_) ⟨(by exact decide_eq_false (by omega)),(by exact decide_eq_false (by omega)),(by exact decide_eq_true (by omega)),trivial,(by omega),(by omega)⟩;refine zK<|zE<|zC<|zD<|zA rfl<|vr 2 (i6 ((↑(k+1):Int)+(1:Int)))<|vnil<|zC<|⟨k+2,⟨by omega,λj hj=>?_⟩,by omega,?_⟩
        · rcases Aw j (k+1)with h|h
          ·exact h2 j h
          · obtain rfl:j=k+1:=by omega
            exact hs
        refine vk 1
    · have hc3:chk n V R m=3:=chk_v h3 (by simpa using hs)
      rw[hc3];rcases i with _|k
      · rw[AN]at hx
        focus
          refine zB<|zA rfl<|v0s<|veT<|zB<|vT ((↑(0:Nat):Int)<(Aa V:Int))<|zK<|zC<|zD<|zB<|zF<|zB<|zA rfl<|vr 3 (ix (↑(0:Nat):Int) (Aa V:Int) (Ad (λ(z:Int)=>iD z) V≠[])/\0<Aa (Ad (λ(z:Int)=>iD z) V))<|vsh 19 hx<|veT<|zB<|zA rfl<|vrT 3<|vspD 22 (AP V 0 (0:Int)<0) (λhc=>?_)<|λhc=>?_;refine veT<|vt<|zB<|zA rfl<|veT<|zJ<|zN<|zH<|zH<|zN<|zH<|vret (True)<|.inr rfl;refine vrT 5<|vspD 27 (AP V 0 (0:Int)>=n) (λhc=>?_)<|λhc=>?_;refine veT<|vt<|zB<|zA rfl<|veT<|zJ<|zN<|zH<|zH<|zN<|zH<|vret (True)<|.inr rfl;refine veT<|vf<|zK<|zE<|zC<|zD<|zA rfl<|vr 2 (i6 ((↑(0:Nat):Int)+(1:Int)))<|vnil<|zC ?_;rotate_left
        all_goals exact absurd (zSo (by omega) (by omega) (.inl rfl)) hs
      · have hx2:=zEc V k (by omega)
        focus
          refine zB<|zA rfl<|v0s<|veT<|zB<|vT ((↑(k+1):Int)<(Aa V:Int))<|zK<|zC<|zD<|zB<|zF<|zB<|zA rfl<|vr 2 (ix (↑(k+1):Int) (Aa V:Int) (Ad (λ(z:Int)=>iD z) V≠[]))<|vp 18 (k+1) (Ad (λ(z:Int)=>iD z) V)<|vr 1 (0<Aa (Ah (k+1)<|Ad (λ(z:Int)=>iD z) V))<|vsh 19 hx<|veT<|zB<|zA rfl<|vrT 3<|vspD 22 (AP V (k+1) (0:Int)<0) (λhc=>?_)<|λhc=>?_;refine veT<|vt<|zB<|zA rfl<|veT<|zJ<|zN<|zH<|zH<|zN<|zH<|vret (True)<|.inr rfl;refine vrT 5<|vspD 27 (AP V (k+1) (0:Int)>=n) (λhc=>?_)<|λhc=>?_;refine veT<|vt<|zB<|zA rfl<|veT<|zJ<|zN<|zH<|zH<|zN<|zH<|vret (True)<|.inr rfl;refine vw 7 [] [(10,Ab)] (decide ((↑(k+1):Int)>(0:Int))=Ab/\True/\0<3/\i6 ((↑(k+1):Int)-(1:Int)))<|vs 34 (iD ((↑(k+1):Int)-(1:Int))) (iD (k:Int)) (hd:=by simp(disch:=omega) only[pred1])<|vr 1 (ix (k:Int) (Aa V:Int) (Ad (λ(z:Int)=>iD z) V≠[]))<|vp 35 (k) (Ad (λ(z:Int)=>iD z) V)<|vr 1 (0<Aa (Ah k<|Ad (λ(z:Int)=>iD z) V))<|vsh 36 hx2<|veT<|vcD (AP V k (0:Int)>=AP V (k+1) (0:Int)) (λhc=>?_)<|λhc=>?_;refine zB<|zA rfl<|veT<|zJ<|zN<|zH<|zH<|zN<|zH<|vret (True)<|.inr rfl;refine zK<|zE<|zC<|zD<|zA rfl<|vr 2 (i6 ((↑(k+1):Int)+(1:Int)))<|vnil<|zC ?_;rotate_left
        all_goals exact absurd (zSo (by omega) (by omega) (.inr (by simp only[Nat.add_sub_cancel];omega))) hs
  have hv:=zJb (p:=zG1 n V) (n:=V.length) λj hj=>h2 j (by omega);by_cases hlm:R.length=m;case neg=>
    rw[chk_l hv hlm];refine zB<|zA rfl<|v0s<|veT<|zB<|vF ((i:Int)<(Aa V:Int))<|zV<|zM<|zM<|zQ rfl<|zC<|zD<|zB<|zB<|zA rfl<|ve (True/\0<2/\True/\0<1/\True)<|zE9 (t:=(Aa R:Int)!=(m:Int)) (by kernel_rfl) (by simpa using by omega)<|zB<|zA rfl<|veT<|zJ<|zH<|vret (True)<|.inr rfl
  refine zB<|zA rfl<|v0s<|veT<|zB<|vF ((i:Int)<(Aa V:Int))<|zV<|zM<|zM<|zQ rfl<|zC<|zD<|zB<|zB<|zA rfl<|ve (True/\0<2/\True/\0<1/\True)<|zFb (t:=(Aa R:Int)!=(m:Int)) (by kernel_rfl) (by simpa using by omega)<|zK<|zC<|zD<|zB<|zB<|zA rfl<|ve (True/\0<2)<|zF<|zS (λ(i:Nat)=>fr 94 [(3,AE 0 0),(50,Ae (Ad rowV R)<|Aa R),(51,iD (Aa R:Int)),(52,iD (i:Int))]) (λ(i:Nat)=>[fB1B (.row (V.map λz=>iD z) V.length) (.row (R.map rowV) R.length)<|.row W m]) (λi=>R.length-i) (λ(i:Nat)=>i<=R.length/\∀j,j<i->j<R.length->decide ((R.getD j []).length=V.length)=Ab) 0 ?_ ?_ ?_
  ·exact⟨by omega,λj h=>by omega⟩
  ·refine vk 1
  clear h1 h2 h3 i;rintro i ⟨h1,h2⟩;rcases Aw i R.length with h3|h3
  · have hne:R.map rowV≠[]:=zAb
    have hx:=zBg R i h3;have hca:=chk_a hv hlm h3;generalize hg:R.getD i []=r at*;focus
      refine zB<|zA rfl<|v0s<|veT<|zB<|vT ((i:Int)<(Aa R:Int))<|zK<|zC<|zD<|zB<|zF<|zB<|zA rfl<|vr 1 (ix (i:Int) (Aa R:Int) (Ad rowV R≠[]))<|vp 54 (i) (Ad rowV R)<|vr 1 (0<Aa (Ah i<|Ad rowV R))<|vsh 55 hx<|veT<|zB<|zA rfl<|ve (True/\0<3/\True)<|zAr (t:=(Aa r:Int)!=(Aa V:Int)) (by kernel_rfl) (λhc=>?_)<|λhc=>?_;simp only[bne_iff_ne]at hc;refine zB<|zA rfl<|veT<|zJ<|zN<|zH<|zH<|zN<|zH<|vre (True) (Ao<|An AU (6:Int)) (.inr rfl) ?_;rotate_left;simp only[bne_eq_false_iff_eq]at hc;refine zK<|zE<|zC<|zD<|zA rfl<|vr 2 (i6 ((i:Int)+(1:Int)))<|vnil<|zC ?_;rotate_left
    ·rw[hca (by omega)]
    · refine⟨i+1,⟨by omega,λj hj hjl=>?_⟩,by omega,?_⟩
      · rcases Aw j i with h|h
        ·exact h2 j h hjl
        · obtain rfl:j=i:=by omega
          rw[hg];exact decide_eq_true (by omega)
      refine vk 1
  have ha:=zP5 (p:=λx:Rw=>decide (x.length=V.length)) (d:=[]) h3 h2;have hl:∀x∈R,x.length<=1000000000:=λx hx=>by
    have:=of_decide_eq_true (A6.1 ha x hx)
    omega
  refine zB<|zA rfl<|v0s<|veT<|zB<|vF ((i:Int)<(Aa R:Int))<|zV<|zM<|zM<|zQ rfl<|zC<|zD<|zB<|zB<|zA rfl<|ve (True/\0<2)<|zF<|zS (λ(i:Nat)=>fr 94 [(3,AE 0 0),(64,Ae (Ad rowV R)<|Aa R),(65,iD (Aa R:Int)),(66,iD (i:Int))]) (λ(i:Nat)=>[fB1B (.row (V.map λz=>iD z) V.length) (.row (R.map rowV) R.length)<|.row W m]) (λi=>R.length-i) (λ(i:Nat)=>i<=R.length/\∀j,j<i->j<R.length->(R.getD j []).all vok=Ab) 0 ?_ ?_ ?_
  ·exact⟨by omega,λj h=>by omega⟩
  ·refine vk 1
  clear h1 h2 h3 i;rintro i ⟨h1,h2⟩;rcases Aw i R.length with h3|h3
  · have hne:R.map rowV≠[]:=zAb
    have hx:=zBg R i h3;have hco:=chk_o hv hlm ha h3;have hlr:=hl _ (zAf R [] i h3);generalize hg:R.getD i []=r at*;focus
      refine zB<|zA rfl<|v0s<|veT<|zB<|vT ((i:Int)<(Aa R:Int))<|zK<|zC<|zD<|zB<|zF<|zB<|zA rfl<|vr 1 (ix (i:Int) (Aa R:Int) (Ad rowV R≠[]))<|vp 68 (i) (Ad rowV R)<|vr 1 (0<Aa (Ah i<|Ad rowV R))<|vsh 69 hx<|veT<|zB<|zA rfl<|vrT 1<|vc (zNs r _ rfl (by omega))<|veT<|zAr (t:=!List.all r vok) (by kernel_rfl) (λhc=>?_)<|λhc=>?_;simp only[Cx]at hc;refine zB<|zA rfl<|veT<|zJ<|zN<|zH<|zH<|zN<|zH<|vre (True) (Ao<|An AU (4:Int)) (.inr rfl) ?_;rotate_left;simp only[Bool.not_eq_false']at hc;refine zK<|zE<|zC<|zD<|zA rfl<|vr 2 (i6 ((i:Int)+(1:Int)))<|vnil<|zC ?_;rotate_left
    ·rw[hco (by simpa using hc)]
    · refine⟨i+1,⟨by omega,λj hj hjl=>?_⟩,by omega,?_⟩
      · rcases Aw j i with h|h
        ·exact h2 j h hjl
        · obtain rfl:j=i:=by omega
          rw[hg];simpa using hc
      refine vk 1
  have ho:=zP5 (p:=λx:Rw=>x.all vok) (d:=[]) h3 h2;refine zB<|zA rfl<|v0s<|veT<|zB<|vF ((i:Int)<(Aa R:Int))<|zV<|zM<|zM<|zQ rfl<|zC<|zD<|zB<|zB<|zA rfl<|veT<|zF<|zS (λ(k:Nat)=>fr 94 [(3,AE 0 0),(11,iD ((k:Int)+(1:Int)))]) (λ(k:Nat)=>[fB1B (.row (V.map λz=>iD z) V.length) (.row (R.map rowV) R.length)<|.row W m]) (λk=>R.length-k) (λ(k:Nat)=>k<=R.length/\∀j,j<=k->j<R.length->zN7 R j=Ab) 0 ?_ ?_ ?_
  · exact ⟨by omega, fun j h _ => by obtain rfl:j=0:=by omega
                                     rfl⟩
  ·refine vk 1
  clear h1 h2 h3 i;rintro k ⟨h1,h2⟩;rcases Aw (k+1) R.length with h3|h3
  · have hne:R.map rowV≠[]:=zAb
    have hx:=zBg R (k+1) h3;have hx0:=zBg R k (by omega);have hcs:=chk_s hv hlm ha ho h3;have hst:zN7 R (k+1)=decide (rcmp (R.getD k []) (R.getD (k+1) [])<0):=by simp[zN7]
    have hcm:=zD5 (R.getD k []) (R.getD (k+1) []) _ _ rfl rfl (hl _ (zAf R [] k (by omega))) (hl _ (zAf R [] (k+1) h3));generalize R.getD (k+1) []=r at*;generalize R.getD k []=r0 at*;focus
      refine zB<|zB<|zA rfl<|v0s<|ve (True/\0<2)<|vT ((↑(k+1):Int)<(Aa R:Int))<|zK<|zC<|zD<|zB<|zF<|zB<|vd [0,2,3,6,8,1,4,5,7,9,10,11,12]<|vr 3 (True/\i6 ((↑(k+1):Int)-(1:Int)))<|vs 84 (iD ((↑(k+1):Int)-(1:Int))) (iD (k:Int)) (hd:=by simp(disch:=omega) only[pred1])<|vr 4 (True/\0<2/\ix (k:Int) (Aa R:Int) (Ad rowV R≠[]))<|vp 85 (k) (Ad rowV R)<|vr 1 (0<Aa (Ah k<|Ad rowV R))<|vsh 86 hx0<|vr 2 (0<2/\ix (↑(k+1):Int) (Aa R:Int) (Ad rowV R≠[]))<|vp 90 (k+1) (Ad rowV R)<|vr 1 (0<Aa (Ah (k+1)<|Ad rowV R))<|vsh 91 hx<|vc (hcm)<|veT<|vcD (rcmp r0 r>=(0:Int)) (λhc=>?_)<|λhc=>?_;refine zB<|zA rfl<|veT<|zJ<|zN<|zH<|zH<|zN<|zH<|vre (True) (Ao<|An AU (16:Int)) (.inr rfl) ?_;rotate_left;refine zK<|zE<|zC<|zD<|zA rfl<|vr 3 (i6 ((↑(k+1):Int)+(1:Int)))<|vnil<|zC ?_;rotate_left
    ·rw[hcs (by rw[hst];exact decide_eq_false (by omega))]
    · refine⟨k+1,⟨by omega,λj hj hjl=>?_⟩,by omega,?_⟩
      · rcases Aw j (k+1)with h|h
        ·exact h2 j (by omega) hjl
        · obtain rfl:j=k+1:=by omega
          rw[hst];exact decide_eq_true (by omega)
      refine vk 1
  rw[chk_0 hv hlm ha ho (zJb λj hj=>h2 j (by omega) hj)];refine zB<|zB<|zA rfl<|v0s<|ve (True/\0<2)<|vF ((k:Int)+(1:Int)<(Aa R:Int))<|zV<|zM<|zM<|zQ rfl<|zC<|zD<|zB<|zA rfl<|veT<|zJ<|vret (True)<|.inr rfl
end
section
open Go.RowKit
structure Rn where
 V:List Int
 R:List Rw
 W:List Nat
 deriving Inhabited
def chkR(n:Int)(f:Rn):Int:=chk n f.V f.R f.W.length
def errL(n:Int):List Rn->Int
 |[]=>0
 |f::fs=>if chkR n f≠0 then chkR n f else errL n fs
def covP(n:Nat)(fs:List Rn):Bool:=(Ar n).all λv=>fs.any λf=>decide ((v:Int)∈f.V)
def zGy(n:Int)(keep:Nat)(fs:List Rn):Int:=if n<0\/32<n\/keep>>>n.toNat≠0 then 3 else if errL n fs≠0 then errL n fs else if covP n.toNat fs then 0 else 22
theorem errL_at{n:Int}:∀{fs:List Rn}{i:Nat},(∀j,j<i->chkR n (fs.getD j Af)=0)->i<fs.length->chkR n (fs.getD i Af)≠0->errL n fs=chkR n (fs.getD i Af)
 |[],i,_,h,_=>by simp at h
 |f::fs,0,_,_,h=>by
  grind [chkR,errL]
 |f::fs,i+1,hb,hi,h=>by
  have h0:chkR n f=0:=hb 0 (by omega);rw[errL,if_neg (by omega)];exact errL_at (fs:=fs) (i:=i) (λj hj=>hb (j+1) (by omega)) (by simpa using hi) h
theorem errL_0{n:Int}:∀{fs:List Rn},(∀j,j<fs.length->chkR n (fs.getD j Af)=0)->errL n fs=0
 |[],_=>rfl
 |f::fs,h=>by
  have h0:chkR n f=0:=h 0 (by simp);rw[errL,if_neg (by omega)];exact errL_0 (fs:=fs) λj hj=>h (j+1) (by simpa using hj)
theorem zXa{n:Int}:∀{fs:List Rn},errL n fs=0->∀f∈fs,chkR n f=0
 |[],_,f,h=>by simp at h
 | g::fs,h,f,hf=>by
  rw[errL]at h;split at h
  ·grind
  rename_i k;rcases AK.1 hf with rfl|hf
  ·omega
  exact zXa h f hf
def covM(fs:List Rn):Nat:=fs.foldl (λm f=>m|||msk (f.V.map Ap)) 0
theorem zXe:∀(fs:List Rn)(m v:Nat),(fs.foldl (λm f=>m|||msk (f.V.map Ap)) m).testBit v=(m.testBit v||fs.any λf=>decide (v∈f.V.map Ap))
 |[],m,v=>by simp
 |f::fs,m,v=>by rw[List.foldl_cons,zXe fs,AY,zBu,List.any_cons,Bool.or_assoc]
theorem covM_lt:∀(fs:List Rn)(m:Nat),m<4294967296->(∀f∈fs,∀v∈f.V.map Ap,v<32)->fs.foldl (λm f=>m|||msk (f.V.map Ap)) m<4294967296
 |[],m,h,_=>h
 |f::fs,m,h,hf=>covM_lt fs _ (zLe h (zDg (hf f (AV ..)))) λg hg=>hf g (Bf _ hg)
theorem mem_intL{A:List Nat}{v:Nat}:((v:Int)∈intL A)↔v∈A:=by
 grind
theorem zMp(A:List Nat):(intL A).map Ap=A:=by
 simp[intL,Function.comp_def]
theorem covM_eq(n:Nat)(fs:List Rn)(hf:∀f∈fs,∃A:List Nat,f.V=intL A/\∀v∈A,v<n):covM fs=2^n-1↔covP n fs=true:=by
 have hb:∀v,(covM fs).testBit v=fs.any λf=>decide ((v:Int)∈f.V):=λv=>by
  unfold covM;rw[zXe,BD,B_,Bx,Bj,Bj];grind
 unfold covP;rw[A6];constructor
 ·intro h v hv;rw[<-hb,h,BQ];simpa using hv
 intro h;refine BE λv=>?_;rw[hb,BQ];by_cases hv:v<n
 ·simp_all
 grind
end
section
open Go.RowKit
attribute [local irreducible] seqW awp zW zX zP Weak updS zZ retL Pure Acts rP setP setQ cP nP fr
set_option maxRecDepth 4096
abbrev rnC(f:Rn):List D:=[.row (f.V.map λz=>iD z) f.V.length, .row (f.R.map rowV) f.R.length, .row (f.W.map natD) f.W.length]
structure Rsz(f:Rn):Prop where
 v:f.V.length<=1000
 r:f.R.length<=1000
abbrev rnCB(f:Rn):List D:=[.row (f.V.map λz=>iD z) f.V.length, .row (f.R.map rowV) f.R.length, .row (f.W.map λx=>bD (g0 x)) f.W.length]
theorem zNw(f:Rn):(rnCB f).length=3:=rfl
set_option maxHeartbeats 4000000 in
theorem zTz(n keep:Nat)(fs:List Rn)(hn:n<=8)(hk:keep<4294967296)(hl:fs.length<=1000)(hs:∀f∈fs,Rsz f):Pure Am 88 [iD (n:Nat),u32D keep, .row (fs.flatMap rnCB) fs.length] [] (iD (zGy n keep fs)):=by
 have w1:=zEo keep (v:=n) (by omega);have w2:=zEp (v:=n) (by omega);have h2n:2^n<=256:=Bw (n:=2) (by omega) hn;have h1n:=Nat.one_le_two_pow (n:=n);have w3:((2^n:Nat):Int)-1=((2^n-1:Nat):Int):=by omega
 have w4:=zAs (n:=2^n-1) (by omega);have ewr:zGy n keep fs=if keep>>>n≠0 then 3 else if errL n fs≠0 then errL n fs else if covP n fs then 0 else 22:=by
  unfold zGy;rw[AB];by_cases h:keep>>>n≠0
  ·rw[if_pos (.inr (.inr h)),if_pos h]
  rw[if_neg (by intro k;rcases k with k|k|k<;>first|omega|exact h k),if_neg h]
 generalize keep>>>n=kk at*;refine zG Tq_ok mixed Tryz.func88 rfl ?_;focus
  refine zB<|zA rfl<|v0s<|veT<|zB<|zB<|zA rfl<|vw 10 [] [(2,Ac),(6,Ac)] (decide ((n:Int)<0)=Ac/\decide ((n:Int)>(32:Int))=Ac/\(0:Int)<=(n:Int))<|vs 20 (Ao<|An Ak<|Bd (keep:Int) ((2:Int)^min (Ap (n:Int)) 32)) (dig kk) (hd:=by simp(disch:=omega) only[AB,w1])<|veT<|zAr (t:=(kk:Int)!=(0:Int)) (by kernel_rfl) (λhc=>?_)<|λhc=>?_;simp only[bne_iff_ne]at hc;refine zB<|zA rfl<|veT<|zJ<|zH<|vre (True) (Ao<|An AU (3:Int)) (.inr rfl) ?_;rotate_left;simp only[bne_eq_false_iff_eq]at hc;refine zK<|zC<|zD<|zB<|zA rfl<|veT<|zB<|zB<|zA rfl<|veT<|zF ?_;rotate_left
 ·rw[ewr,if_pos (by omega)]
 have hcu:∀i,covM (fs.take i)<4294967296\/¬∀j,j<i->chkR n (fs.getD j Af)=0:=λi=>by
  by_cases h:∀j,j<i->chkR n (fs.getD j Af)=0
  ·refine .inl (covM_lt (fs.take i) 0 (by omega) λf hf v hv=>?_);obtain⟨j,hj,rfl⟩:=List.mem_iff_getElem.1 hf;have hj2:j<i/\j<fs.length:=by rw[AZ]at hj;omega
   have:=h j hj2.1
   rw[Au,AC hj2.2,BL]at this;obtain⟨A,hA,hfit⟩:=zTy this;rw[List.getElem_take,hA,show A.map (λv:Nat=>(v:Int))=intL A from rfl,zMp]at hv
   have:=hfit.lt v hv
   omega
  exact .inr h
 refine zS (λ(i:Nat)=>fr 45 [(0,iD (n:Int)),(7,u32D<|covM<|Al i fs),(23,Ae (Ag rnCB fs)<|Aa fs),(24,iD (Aa fs:Int)),(25,iD (i:Int))]) (λ(i:Nat)=>[]) (λi=>fs.length-i) (λ(i:Nat)=>i<=fs.length/\∀j,j<i->chkR n (fs.getD j Af)=0) 0 ?_ ?_ ?_
 ·exact⟨by omega,λj h=>by omega⟩
 ·refine vk 0
 rintro i ⟨h1,h2⟩;have hcl:=(hcu i).resolve_right (λh=>h h2);rcases Aw i fs.length with h3|h3
 ·have hm:=zAf fs Af i h3;have hg2:=zJ0 zNw fs i h3;have hle:=zFe zNw fs i h3;have hne:=zFd zNw (by decide) fs;have hsz:=hs _ hm;have hat:=errL_at h2 h3;have htk:covM (fs.take (i+1))=covM (fs.take i)|||msk ((fs.getD i Af).V.map Ap):=by
   rw[zA1 fs i h3];unfold covM;rw[BZ];rfl
  generalize hff:fs.getD i Af=f at*;obtain⟨V,R,W⟩:=f;have hch:=check_cB n V R (W.map λx=>bD (g0 x)) W.length (by have:=hsz.v;simp only at this;omega) (by have:=hsz.r;simp only at this;omega);by_cases e0:chk n V R W.length=0
  ·obtain⟨A,hA,hfit⟩:=zTy e0;have hA:V=intL A:=hA;subst hA;rw[e0]at hch;have eA:(intL A).map (λz=>iD z)=nsD A:=by simp[intL]
   have eL:(intL A).length=A.length:=by simp
   have hv32:∀v∈A,v<32:=λv hv=>by have:=hfit.lt v hv;omega
   have nA:A.length<=1000:=by have:=hsz.v;simp only[eL]at this;exact this
   have sA:=zJj A _ rfl nA hv32 (R.map rowV) (W.map λx=>bD (g0 x)) R.length W.length;rw[zMp]at htk;have w5:=zMo hcl (zDg hv32);have w6:=zAs (zLe hcl (zDg hv32));simp only[rnCB,eA,eL]at hg2;simp only[fcRB,eA,eL]at hch;refine zB<|zA rfl<|v0s<|veT<|zB<|vT ((i:Int)<(Aa fs:Int))<|zK<|zC<|zD<|zB<|zF<|zB<|zA rfl<|vr 2 (ix (i:Int) (Aa fs:Int) (Ag rnCB fs≠[])/\3<=Aa (Ah (i*3)<|Ag rnCB fs))<|vs 28 (AD<|Al 3<|Ah (i*3)<|Ag rnCB fs) (AD [Ae (nsD A)<|Aa A,Ae (Ad rowV R)<|Aa R,Ae (Ad (λ(x:Nat)=>bD (g0 x)) W)<|Aa W]) (hd:=by simp(disch:=omega) only[hg2])<|ve (Ac=Ac/\Ab=Ab/\3=3/\3<=3)<|zB<|zB<|zA rfl<|vr 2 (3<=3)<|vc (hch)<|veT<|zB<|zA rfl<|veT<|vf<|zK<|zC<|zD<|zA rfl<|vr 2 (3<=3)<|vc (sA)<|vrT 1<|vs 38 (Ao<|An Ak<|AF Ak (↑(Ay (Aj 32 (↑(covM<|Al i fs):Int)|||Aj 32 (↑(msk A):Int))):Int)) (dig (covM (Al i fs)|||msk A)) (hd:=by simp(disch:=omega) only[w5,w6])<|vrT 1<|vnil<|zE<|zC<|zD<|zA rfl<|vr 2 (i6 ((i:Int)+(1:Int)))<|vnil<|zC<|⟨i+1,⟨by omega,λj hj=>?_⟩,by omega,?_⟩
   ·rcases Aw j i with h|h
    ·exact h2 j h
    obtain rfl:j=i:=by omega
    rw[hff];exact e0
   rw[htk];refine vk 0
  have hat':=hat e0;have hat2:errL n fs=chk n V R W.length:=hat';generalize chk n V R W.length=e at*;refine zB<|zA rfl<|v0s<|veT<|zB<|vT ((i:Int)<(Aa fs:Int))<|zK<|zC<|zD<|zB<|zF<|zB<|zA rfl<|vr 2 (ix (i:Int) (Aa fs:Int) (Ag rnCB fs≠[])/\3<=Aa (Ah (i*3)<|Ag rnCB fs))<|vs 28 (AD<|Al 3<|Ah (i*3)<|Ag rnCB fs) (AD<|rnCB<|Rn.mk V R W) (hd:=by simp(disch:=omega) only[hg2])<|ve (Ac=Ac/\Ab=Ab/\3=3/\3<=3)<|zB<|zB<|zA rfl<|vr 2 (3<=3)<|vc (hch)<|veT<|zB<|zA rfl<|veT<|zE9 (t:=e !=(0:Int)) (by kernel_rfl) (by simpa using by omega)<|zB<|zA rfl<|veT<|zJ<|zH<|zN<|zH<|zH<|zN<|zH<|vre (True) (Ao<|An AU e) (.inr rfl) ?_;rw[ewr,if_neg (by omega),if_pos (by omega),hat2]
 rw[AT h3]at hcl⊢;have h0:=errL_0 λj hj=>h2 j (by omega);have hce:=covM_eq n fs λf hf=>by
  obtain⟨A,hA,hfit⟩:=zTy (zXa h0 f hf);exact⟨A,hA,λv hv=>by have:=hfit.lt v hv;omega⟩
 focus
  refine zB<|zA rfl<|v0s<|veT<|zB<|vF ((i:Int)<(Aa fs:Int))<|zV<|zM<|zM<|zQ rfl<|zC<|zD<|zB<|zB<|zA rfl<|vr 3 ((0:Int)<=(n:Int))<|vs 42 (Ao<|An Ak<|AF Ak ((1:Int)*(2:Int)^min (Ap (n:Int)) 32)) (dig ((2:Nat)^n)) (hd:=by simp(disch:=omega) only[AB,w2])<|vr 1 (u3 ((↑((2:Nat)^n):Int)-(1:Int)))<|vs 43 (Ao<|An Ak ((↑((2:Nat)^n):Int)-(1:Int))) (dig ((2:Nat)^n-1)) (hd:=by simp(disch:=omega) only[w3])<|veT<|zAr (t:=(↑(covM fs):Int)!=(↑((2:Nat)^n-1):Int)) (by kernel_rfl) (λhc=>?_)<|λhc=>?_;simp only[bne_iff_ne]at hc;refine zB<|zA rfl<|veT<|zJ<|zH<|vre (True) (Ao<|An AU (22:Int)) (.inr rfl) ?_;rotate_left;simp only[bne_eq_false_iff_eq]at hc;refine zK<|zC<|zD<|zB<|zA rfl<|veT<|zJ<|vre (True) (Ao<|An AU (0:Int)) (.inr rfl) ?_;rotate_left
 ·rw[ewr,if_neg (by omega),if_neg (by omega),if_neg (λh=>by have:=hce.2 h;omega)]
 rw[ewr,if_neg (by omega),if_neg (by omega),if_pos (hce.1 (by omega))]
section
variable (n e : Int) (keep : Nat) (cs : List D) (m : Nat)
theorem total_cB(f:Fa Bool)(hm:Pure Am 69 [booD,iD n,u32D 0, .row cs m] [] (.tup [faAB f,iD 0])):Pure Am 67 [booD,iD n, .row cs m] [] (.tup [bD ((f.l.map (·.2)).headD Ac),iD 0]):=by
 obtain⟨A,l⟩:=f;rcases l with _|⟨p,l⟩
 ·skip;obtain⟨z,hz⟩:∃z:Bool,z=false:=⟨_,rfl⟩;have hr:bD (([]:List (Rw×Bool)).map (·.2)|>.headD Ac)=bD z:=by rw[hz];rfl
  simp only[hr];refine zG (T:=Tc) (zVe _ _ _) mixed Tryz.func67 rfl<|zB<|zA rfl<|v0s<|veT<|zB<|zA rfl<|vrT 3<|vc (hm)<|ve (0<2/\1<2/\Ac=Ac/\Ab=Ab/\3=3/\3<=3)<|zB<|zB<|zA rfl<|veT<|vf<|zK<|zC<|zD<|zB<|zB<|zA rfl<|ve (True/\0<1/\True)<|vt<|zB<|zA rfl<|vrT 1<|vc (bzero_c z hz)<|veT<|zJ<|zH<|vret (True)<|.inr rfl
 skip;show Pure _ _ _ _ (.tup [bD p.2,iD 0]);have hx:(zAn (p::l)).headD .unk=bD p.2:=rfl;have hne:zAn (p::l)≠[]:=by simp
 refine zG (T:=Tc) (zVe _ _ _) mixed Tryz.func67 rfl<|zB<|zA rfl<|v0s<|veT<|zB<|zA rfl<|vrT 3<|vc (hm)<|ve (0<2/\1<2/\Ac=Ac/\Ab=Ab/\3=3/\3<=3)<|zB<|zB<|zA rfl<|veT<|vf<|zK<|zC<|zD<|zB<|zB<|zA rfl<|ve (True/\0<1/\True)<|vEf ((↑(Aa l+1):Int)) ((0:Int))<|zK<|zC<|zD<|zB<|zA rfl<|ve (True/\0<1/\ix (0:Int) (↑(Aa l+1):Int) (zAn (p::l)≠[])/\0<Aa (zAn (p::l)))<|zJ<|vret (True)<|.inr rfl
end
def Nor(ab:List D):Prop:=∀j,zBd j ab=Ac
section
variable (t : Tri) (l p e : Int) (ab : List D) (s : Int) (hab : ab.length = 64) (hno : Nor ab)
end
end
def gal(L:Nat->Bool)(e:Nat):Nat->Nat->Nat->Nat->Nat×Nat×Nat
 |0,low,step,s=>(low,step,s)
 |n+1,low,step,s=>if low+step<e then(if L (low+step)then gal L e n (low+step) (step*2) (s+1)else(low,step,s+1))else(low,step,s)
def bis(L:Nat->Bool):Nat->Nat->Nat->Nat->Nat×Nat
 |0,_,high,s=>(high,s)
 |n+1,low,high,s=>if 1<high-low then(if L (low+(high-low)/2)then bis L n (low+(high-low)/2) high (s+1)else bis L n low (low+(high-low)/2) (s+1))else(high,s)
def sek(L:Nat->Bool)(q e s:Nat):Nat×Nat:=
 if L q then
  let g:=gal L e e q 1 (s+1)
  let h:=min (g.1+g.2.1) e
  bis L e g.1 h g.2.2
 else(q,s+1)
section
open Go.RowKit
attribute [local irreducible] seqW awp zW zX zP Weak updS zZ retL Pure Acts rP setP setQ cP nP fr
set_option maxRecDepth 4096
abbrev fr0:List (Int×Int):=AG 32 (0,0)
end
structure It where
 t:Tri
 l:Nat
 p:Nat
 e:Nat
 fr:List (Int×Int)
 s:Nat
 deriving Inhabited
abbrev vls(t:Tri)(k:Nat):List Va:=(t.getD k Af).1
abbrev fst'(t:Tri)(k:Nat):List Nat:=(t.getD k Af).2
def onI(it:It):Bool:=decide (0<it.l)&&decide (it.p<it.e)
def opI(it:It):It:=match it.l with
 |0=>{it with l:=1,p:=0,e:=szT it.t,fr:=it.fr.set 0 ((it.p:Nat),(it.e:Nat))}
 |k+1=>{it with l:=k+2,p:=(fst' it.t k).getD it.p 0,e:=(fst' it.t k).getD (it.p+1) 0,fr:=it.fr.set (k+1) ((it.p:Nat),(it.e:Nat))}
def upI(it:It):It:={it with l:=it.l-1,p:=(it.fr.getD (it.l-1) (0,0)).1.toNat,e:=(it.fr.getD (it.l-1) (0,0)).2.toNat}
def keyI(it:It):Va:=(vls it.t (it.l-1)).getD it.p Af
def lsI(v:Va)(it:It)(i:Nat):Bool:=decide (vcmp ((vls it.t (it.l-1)).getD i Af) v<0)
def skI(v:Va)(it:It):It:={it with p:=(sek (lsI v it) it.p it.e it.s).1,s:=(sek (lsI v it) it.p it.e it.s).2}
def nxI(it:It):It:={it with p:=it.p+1}
def opAll(ix:List Nat)(its:List It):List It:=ix.foldl (λits i=>its.set i (opI (its.getD i Af))) its
def upAll(ix:List Nat)(its:List It):List It:=ix.foldl (λits i=>its.set i (upI (its.getD i Af))) its
def mtL(ix:List Nat):Nat->List It->Va->Nat->Nat->Nat->List It×Nat×Bool
 |0,its,key,same,k,s=>(its,s,Ab)
 | f+1,its,key,same,k,s=>if same<ix.length then
   if onI (skI key (its.getD (ix.getD (k%ix.length) 0) Af))then
    if vcmp (keyI (skI key (its.getD (ix.getD (k%ix.length) 0) Af))) key=0 then mtL ix f (its.set (ix.getD (k%ix.length) 0) (skI key (its.getD (ix.getD (k%ix.length) 0) Af))) key (same+1) (k+1) (s+1)
    else mtL ix f (its.set (ix.getD (k%ix.length) 0) (skI key (its.getD (ix.getD (k%ix.length) 0) Af))) (keyI (skI key (its.getD (ix.getD (k%ix.length) 0) Af))) 1 (k+1) (s+1)
   else(its.set (ix.getD (k%ix.length) 0) (skI key (its.getD (ix.getD (k%ix.length) 0) Af)),s,Ac)
  else(its,s,Ab)
def gtI(v:Va)(it:It):Nat:=((List.range' it.p (it.e-it.p)).filter λj=>decide (vcmp v ((vls it.t (it.l-1)).getD j Af)<0)).length
def gtA(ix:List Nat)(its:List It)(v:Va):Nat:=(ix.map λi=>gtI v (its.getD i Af)).sum
def msr(ix:List Nat)(its:List It)(key:Va)(same:Nat):Nat:=gtA ix its key*(ix.length+1)+(ix.length-same)
def metJ(ix:List Nat)(its:List It)(s:Nat):List It×Nat×Bool:=
 if onI (its.getD (ix.getD 0 0) Af)then mtL ix (msr ix its (keyI (its.getD (ix.getD 0 0) Af)) 1) its (keyI (its.getD (ix.getD 0 0) Af)) 1 1 s else(its,s,Ac)
structure Js where
 its:List It
 row:List Va
 s:Nat
 ys:List (List Va)
def lpJ(rec:Js->Js)(ix:List Nat)(v:Nat):Nat->Bool->Js->Js
 |f+1,Ab,S=>
  let S1:=rec {S with row:=S.row.set v (keyI (S.its.getD (ix.getD 0 0) Af))}
  let it:=nxI (S1.its.getD (ix.getD 0 0) Af)
  let its2:=S1.its.set (ix.getD 0 0) it
  if onI it then lpJ rec ix v f (metJ ix its2 S1.s).2.2 {S1 with its:=(metJ ix its2 S1.s).1,s:=(metJ ix its2 S1.s).2.1}else{S1 with its:=its2}
 |_,_,S=>S
def extJ(ats:Nat->List Nat):Nat->Nat->Js->Js
 |0,v,S=>{S with s:=S.s+1,ys:=S.ys++[S.row]}
 |m+1,v,S=>
  let its1:=opAll (ats v) S.its
  let r:=metJ (ats v) its1 S.s
  let S2:=lpJ (extJ ats m (v+1)) (ats v) v ((its1.getD ((ats v).getD 0 0) Af).e) r.2.2 {S with its:=r.1,s:=r.2.1}
  {S2 with its:=upAll (ats v) S2.its}
structure LvI(it:It):Prop where
 l1:1<=it.l
 l2:it.l<=it.t.length
 pe:it.p<=it.e
 sib:it.p<it.e->Sib (it.t.drop (it.l-1)) it.p it.e
def has(it:It)(d:Va):Prop:=∃j,it.p<=j/\j<it.e/\(vls it.t (it.l-1)).getD j Af=d
structure Adv(a b:It):Prop where
 t:b.t=a.t
 l:b.l=a.l
 e:b.e=a.e
 fr:b.fr=a.fr
 p:a.p<=b.p
def allHas(ix:List Nat)(its:List It)(d:Va):Prop:=∀i∈ix,has (its.getD i Af) d
structure Met(ix:List Nat)(its:List It)(r:List It×Nat×Bool):Prop where
 len:r.1.length=its.length
 out:∀i,i∉ix->r.1.getD i Af=its.getD i Af
 adv:∀i∈ix,Adv (its.getD i Af) (r.1.getD i Af)
 lv:∀i∈ix,LvI (r.1.getD i Af)
 com:∀d,allHas ix its d↔r.2.2=Ab/\allHas ix r.1 d
 key:r.2.2=Ab->∃c,∀i∈ix,(r.1.getD i Af).p<(r.1.getD i Af).e/\keyI (r.1.getD i Af)=c
def RSr(it:It):List (List Va):=rws (it.t.drop (it.l-1)) it.p it.e
def RS(it:It):List (List Va):=match it.l with
 |0=>rws it.t 0 (szT it.t)
 |k+1=>rws (it.t.drop (k+1)) ((fst' it.t k).getD it.p 0) ((fst' it.t k).getD (it.p+1) 0)
structure Res(a b:It):Prop where
 t:b.t=a.t
 l:b.l=a.l
 p:b.p=a.p
 e:b.e=a.e
 fl:b.fr.length=a.fr.length
 fr:∀j,j<a.l->b.fr.getD j (0,0)=a.fr.getD j (0,0)
structure AtI(d l:Nat)(it:It):Prop where
 tl:it.t.length=d
 ll:it.l=l
 fl:it.fr.length=32
 d32:d<=32
 root:d≠0->Sib it.t 0 (szT it.t)
 lv:0<l->LvI it/\it.p<it.e
structure InI(d l:Nat)(it:It):Prop where
 tl:it.t.length=d
 ll:it.l=l
 fl:it.fr.length=32
 d32:d<=32
 root:d≠0->Sib it.t 0 (szT it.t)
 lv:LvI it
section
variable (n na : Nat) (vs : Nat → List Nat)
def ats(v:Nat):List Nat:=(Ar na).filter λa=>decide (v∈vs a)
def cnt(a v:Nat):Nat:=((vs a).filter λw=>decide (w<v)).length
def prj(a v:Nat)(y:List Va):List Va:=((vs a).filter λw=>decide (v<=w)).map λw=>y.getD w Af
structure Vok:Prop where
 asc:∀a,a<na->(vs a).Pairwise (· <·)
 lt:∀a,a<na->∀w∈vs a,w<n
 cov:∀v,v<n->∃a,a<na/\v∈vs a
structure AtV(v:Nat)(its:List It):Prop where
 len:its.length=na
 one:∀a,a<na->AtI (vs a).length (cnt vs a v) (its.getD a Af)
structure InV(v:Nat)(its:List It):Prop where
 len:its.length=na
 inn:∀a,a<na->v∈vs a->InI (vs a).length (cnt vs a v+1) (its.getD a Af)
 out:∀a,a<na->v∉vs a->AtI (vs a).length (cnt vs a v) (its.getD a Af)
def Tv(v:Nat)(its:List It)(y:List Va):Prop:=∀a,a<na->if v∈vs a then prj vs a v y∈RSr (its.getD a Af)else prj vs a v y∈RS (its.getD a Af)
variable {n na vs}
end
section
variable {n na : Nat} {vs : Nat → List Nat}
structure ExtP(n na:Nat)(vs:Nat->List Nat)(v:Nat)(S S':Js):Prop where
 len:S'.its.length=na
 res:∀a,a<na->Res (S.its.getD a Af) (S'.its.getD a Af)
 row:S'.row.length=n
 take:S'.row.take v=S.row.take v
 ys:∃J,S'.ys=S.ys++J/\Rsc J/\∀y,y∈J↔(y.length=n/\y.take v=S.row.take v/\∀a,a<na->prj vs a v y∈RS (S.its.getD a Af))
structure LpP(n na:Nat)(vs:Nat->List Nat)(v:Nat)(S S':Js):Prop where
 len:S'.its.length=na
 res:∀a,a<na->v∉vs a->Res (S.its.getD a Af) (S'.its.getD a Af)
 adv:∀a,a<na->v∈vs a->(S'.its.getD a Af).t=(S.its.getD a Af).t/\(S'.its.getD a Af).l=(S.its.getD a Af).l/\(S'.its.getD a Af).fr.length=(S.its.getD a Af).fr.length/\∀j,j<(S.its.getD a Af).l->(S'.its.getD a Af).fr.getD j (0,0)=(S.its.getD a Af).fr.getD j (0,0)
 row:S'.row.length=n
 take:S'.row.take v=S.row.take v
 ys:∃J,S'.ys=S.ys++J/\Rsc J/\∀y,y∈J↔(y.length=n/\y.take v=S.row.take v/\Tv na vs v S.its y)
end
section
open Go.RowKit
structure Lay where
 N:Nat
 na:Nat
 n:Nat
 jb:Nat
 rb:Nat
 tb:Nat
 ab:Nat->Nat
 ib:Nat->Nat
 vs:Nat->List Nat
 cb:Nat
 ch:List Nat
 yb:List (List Va)->Nat->Option Bk
 bs:Nat->Bk
def namB(N:Nat)(b:Bk):Prop:=b.nob=Ab\/∀j,N<=j->zBd j b.cells=Ac
section
variable {L : Lay} {S : Js}
end
theorem zY4{T:Par}{N:Nat}{sl:List D}{st bs:List Bk}(hl:st.length=N)(hn:∀b∈st,namB N b)(hs:∀j∈ownL sl,j<N)(hk:∀k,N<=k->T.keep k=Ac):Weak T sl (st++bs) sl st:=by
 have ht:(st++bs).take N=st:=by rw[<-hl,List.take_left'];rfl
 have:=Weak.cut (T:=T) (sl:=sl) (st:=st++bs) N ?_ hk
 ·rw[ht]at this;exact this
 unfold zJw;simp only[A6,AQ,A5,Cx,Bi];intro i hi;refine⟨zD6 sl λj hj=>by have:=hs j hj;omega,λe he=>?_⟩;rw[ht]at he;rcases hn e he with h|h
 ·exact .inl h
 exact .inr (h _ (by omega))
def lts(N:Nat):List Nat->Prop
 |[]=>True
 |j::l=>j<N/\lts N l
theorem lts_mem{N:Nat}:∀{l:List Nat},lts N l->∀j∈l,j<N
 |[],_,j,hj=>by simp at hj
 |i::l,h,j,hj=>by
  rcases AK.1 hj with rfl|hj
  ·exact h.1
  exact lts_mem h.2 j hj
theorem zQc{T:Par}{N:Nat}{sl sl':List D}{st bs:List Bk}(C:Prop)(hl:st.length=N)(hn:∀b∈st,namB N b)(hk:∀k,N<=k->T.keep k=Ac)(hw:Weak T sl (st++bs) sl' (st++bs))(hC:lts N (ownL sl')=C)(hs:C):Weak T sl (st++bs) sl' st:=
 hw.trans (zY4 hl hn (lts_mem (hC▸hs)) hk)
structure BdI(it:It):Prop where
 vl:∀k,(vls it.t k).length<=1000000
 fl:∀k,(fst' it.t k).length<=1000001
 fc:∀k,∀c∈fst' it.t k,c<=1000000
 t32:it.t.length<=32
 f32:it.fr.length=32
section
variable {st : List Bk} {k : Nat} {it : It}
end
end
abbrev big:Nat:=100000000000000000
structure MI(ix:List Nat)(na M:Nat)(its:List It)(key:Va)(same k s f:Nat):Prop where
 len:its.length=na
 lt:∀i∈ix,i<na
 lv:∀i∈ix,LvI (its.getD i Af)/\(its.getD i Af).p<(its.getD i Af).e/\(its.getD i Af).e-(its.getD i Af).p<=M
 st:∀i∈ix,(its.getD i Af).s+f*(M+2)<=big
 s1:1<=same
 s2:same<=ix.length
 kf:k+f<=big
 sf:s+f<=big
 ms:msr ix its key same<=f
section
variable {ix : List Nat} {na M : Nat} {its : List It} {key : Va} {same k s f : Nat}
end
section
variable {n na : Nat} {vs : Nat → List Nat}
theorem ats_len(v:Nat):(ats na vs v).length<=na:=by
 grind [ats,AH,Bn]
end
section
open Go.RowKit
structure Mk where
 p:Nat
 n:Nat
 cb:Nat
 A:List (List Nat×List Rw)
 base:Nat->Bk
abbrev atN(a:List Nat×List Rw):List D:=[.row (a.1.map λv=>iD (v:Nat)) a.1.length,iD (a.1.length:Nat), .row (a.2.map rowV) a.2.length]
abbrev Mk.vs(m:Mk)(a:Nat):List Nat:=(m.A.getD a Af).1
abbrev Mk.tr(m:Mk)(a:Nat):Tri:=trieT (m.vs a).length (m.A.getD a Af).2
abbrev it0(t:Tri):It:=⟨t,0,0,0,fr0,0⟩
section
variable {m : Mk} {ix : Nat → List Nat} {al : List Nat} {c : Nat}
structure MOk(m:Mk):Prop where
 bs:∀k,k<m.p->namB m.p (m.base k)
 cb:m.cb<m.p
end
abbrev itS(m:Mk):List It:=(Ar m.A.length).map λi=>it0 (m.tr i)
abbrev S0(m:Mk):Js:=⟨itS m,AG m.n ⟨0,0,[]⟩,0,[]⟩
structure AOk(m:Mk):Prop where
 n:m.n<=32
 na:m.A.length<=1000
 p:m.p<=50000
 v:Vok m.n m.A.length m.vs
 r:∀a∈m.A,a.2.length<=65536/\(∀r∈a.2,r.length=a.1.length)/\Rsc a.2
structure YbOk(m:Mk)(ch:List Nat)(yb:List (List Va)->Nat->Option Bk):Prop where
 c:∀k∈ch,k<m.p
 cb:m.cb∉ch
 b:∀ys k b,yb ys k=Av b->k<m.p/\namB m.p b
 z:∀k b,yb [] k=Av b->b=m.base k
section
variable {m : Mk} {ch : List Nat} {yb : List (List Va) → Nat → Option Bk}
end
end
section
open Go.RowKit
attribute [local irreducible] seqW awp zW zX zP Weak updS zZ retL Pure Acts rP setP setQ cP nP fr
set_option maxRecDepth 4096
def sumS(its:List It):Nat->Nat
 |0=>0
 |i+1=>sumS its i+(its.getD i Af).s
abbrev S1(m:Mk):Js:=extJ (ats m.A.length m.vs) m.n 0 (S0 m)
abbrev S2(m:Mk)(k:Nat):Js:={S1 m with s:=(S1 m).s+sumS (S1 m).its k}
abbrev isD(l:List (Rw×Nat)):List D:=nsD (l.map (·.2))
abbrev rfC(A:List Nat)(l:List (Rw×Nat)):List D:=[.row (nsD A) A.length, .row (rwsD l) l.length, .row (isD l) l.length]
abbrev rfAc(f:Fa Nat):List D:=rfC f.A f.l
section
variable {Dm : List Va}
end
abbrev natI(W:List Nat):List Int:=W.map λw:Nat=>(w:Int)
abbrev rnR(f:Rn):Raw:=⟨f.V,f.R,natI f.W⟩
abbrev rwD(f:Rn):List D:=rawC (rnR f)
structure Rsm(f:Rn):Prop where
 v:f.V.length<=4
 r:f.R.length<=10
 w:f.W.length<=12
 b:∀w∈f.W,w<=1000
end
section
open Go.RowKit
def ddp:List Va->List Va
 |[]=>[]
 |a::l=>if a∈ddp l then ddp l else a::ddp l
theorem zL2:∀{l:List Va}{a:Va},a∈ddp l↔a∈l
 |[],a=>by simp[ddp]
 | b::l,a=>by
  rw[ddp];split
  ·rename_i h;rw[zL2,AK];constructor
   ·exact .inr
   rintro(rfl|h2)
   ·exact zL2.1 h
   exact h2
  rw[AK,AK,zL2]
theorem zFq:∀l:List Va,(ddp l).Nodup
 |[]=>by simp[ddp]
 |b::l=>by
  rw[ddp];split
  ·exact zFq l
  rename_i h;exact B0.2 ⟨h,zFq l⟩
def toFa(f:Rn):Fa Nat:=⟨f.V.map Ap,f.R.zip f.W⟩
structure Tofa(Dm:List Va)(f:Rn):Prop where
 c:rnC f=faAc (toFa f)
 w:rwD f=rfAc (toFa f)
 ok:FOk rcmp Dm (toFa f)
 r:rz (toFa f)<=11
 v:vz (toFa f)<=10001
 A:f.V=intL (toFa f).A
theorem pz_le{α:Type}{z:α->Nat}{b:Nat}:∀{l:List α},(∀a∈l,z a<=b)->pz z l<=b^l.length
 |[],_=>by simp[pz]
 |a::l,h=>by
  rw[zCk,AR,Nat.pow_succ,Nat.mul_comm];exact Nat.mul_le_mul (pz_le λc hc=>h c (Bf _ hc)) (h a (AV ..))
def rn1(f:Rn):Rn:=⟨f.V,f.R,AG f.R.length 1⟩
section
variable {n : Nat} {fs : List Rn} (hn : n ≤ 8) (hl : fs.length ≤ 4) (hs : ∀ f ∈ fs, Rsm f) (h1 : errL n fs = 0) (h2 : covP n fs = true)
include hn hl hs h1 h2
end
end
section
open Go.RowKit
attribute [local irreducible] seqW awp zW zX zP Weak updS zZ retL Pure Acts rP setP setQ cP nP fr
set_option maxRecDepth 4096
abbrev afC(f:Rn):List D:=[.row (f.V.map λz=>iD z) f.V.length,iD (f.V.length:Nat), .row (f.R.map rowV) f.R.length]
abbrev afB(f:Rn):Bk:=⟨afC f,45,0,Ac,Ac, .plain⟩
theorem rep_succ{α:Type}(f:α->D)(a:α)(i:Nat):(AG (i+1) a).map f=(AG i a).map f++[f a]:=by
 rw[List.replicate_succ',Bl];rfl
set_option maxHeartbeats 2000000 in
theorem fromB_c(f:Rn)(hV:f.V.length<=1000)(hR:f.R.length<=1000)(hl:∀r∈f.R,r.length<=2000000):Pure Am 87 [booD, .agg (afC f)] [] (.agg (rnCB (rn1 f))):=by
 obtain⟨V,R,W⟩:=f;simp only at hV hR hl;have hcl:=zYo (V.map λz=>iD z) V.length (by simp) (by omega);have hrr:=rRows_c (V.length:Nat) R (by omega) hl;show Pure _ _ _ [] (.agg [.row (V.map λz=>iD z) V.length, .row (R.map rowV) R.length, .row ((AG R.length 1).map λx=>bD (g0 x)) (AG R.length 1).length]);obtain⟨o,ho⟩:∃o:Bool,o=true:=⟨Ab,rfl⟩;have e1:(AG R.length 1).map (λx=>bD (g0 x))=(AG R.length o).map bD:=by
  rw[Cy,Cy,ho];rfl
 rw[List.length_replicate,e1];have hone:=bone_c o ho;refine zG (T:=Tc) (zVe _ _ _) mixed Tryz.func87 rfl<|vAu<|zB<|vd [0,3,1,2,4,5,6,7,8]<|vr 3 (True/\True/\0<3)<|vc (hcl)<|vr 1 (2<=2)<|vc (hrr)<|vr 3 (((1=1/\1<=3/\1=1/\2<=3/\True)/\Ab=Ab)/\Ac=Ac/\Ab=Ab/\3=3/\3<=3)<|vnil<|zC<|vnn (fr 27 [(0,booD),(3,AE 0 0),(4,AE 1 0),(5,AE 2 0),(6,AE 0 0),(7,Ae (Ad (λ(z:Int)=>iD z) V)<|Aa V),(8,Ae (Ad (λ(z:Int)=>iD z) V)<|Aa V),(9,AE 0 1),(10,AD [iD (Aa V:Int),Ae (Ad rowV R)<|Aa R]),(11,Ae (Ad rowV R)<|Aa R),(12,AD [Ae (Ad (λ(z:Int)=>iD z) V)<|Aa V,Ae (Ad rowV R)<|Aa R,nl])]) [Ax [Ae (Ad (λ(z:Int)=>iD z) V)<|Aa V,iD (Aa V:Int),Ae (Ad rowV R)<|Aa R] 45 0 Ac Ac Az,Ax [nl,nl,nl] 133 0 Ac Ac Az,Ax [Ae (Ad (λ(z:Int)=>iD z) V)<|Aa V,Ae (Ad rowV R)<|Aa R,nl] 133 0 Ac Ac Az]<|zB9 (Weak.nilC (j:=2) (i:=2) (zDf []) rfl rfl rfl rfl) ?_;refine zB<|vAs<|ve (True/\0<2)<|zF<|zS (λ(i:Nat)=>fr 27 [(0,booD),(4,AE 1 0),(5,AE 2 0),(15,iD<|Aa R),(16,iD i)]) (λ(i:Nat)=>[afB ⟨V,R,W⟩,fB1B nl nl nl,fB1B (.row (V.map λz=>iD z) V.length) (.row (R.map rowV) R.length)<|.osl 3 0 i i Ab,zDf<|(AG i o).map bD]) (λi=>R.length-i) (λ(i:Nat)=>i<=R.length) 0 ?_ ?_ ?_
 ·omega
 ·refine vk 4
 rintro i h1;have hll:((AG i o).map bD).length=i:=by simp
 rcases Aw i R.length with h2|h2
 ·have e0:=rep_succ bD o i;refine vAu<|zB<|vT ((i:Int)<↑(Aa R))<|vKB<|vd [0,2,1,3,4,5,6,7]<|vr 3 (True/\0<1)<|vc hone<|vr 4 (((1=1/\1<=1/\True)/\0<1/\1=1/\1<=16777216/\1<=9223372036854775807)/\(A9 (zDf<|Ad bD<|AG i o)=Ab/\Aa (AA<|zDf<|Ad bD<|AG i o)=i*1/\i=i*1/\A3 (zDf<|Ad bD<|AG i o)=4/\A4 (zDf<|Ad bD<|AG i o)=1/\1=1/\0<1/\0<1/\4=4/\(i+1)*1<=140737488355328/\1=1/\A_ (AI<|zDf<|Ad bD<|AG i o)=Ac/\(Ac=Ac\/Ba (AI<|zDf<|Ad bD<|AG i o)=Ab))/\True/\Ac=Ac/\Ab=Ab/\1=1/\3<=3)<|vb 2 (Ax [Ae (Ad (λ(z:Int)=>iD z) V)<|Aa V,Ae (Ad rowV R)<|Aa R,Ai 3 0 (i+1) ((i+1)*1) Ab] 133 0 Ac Ac Az) (Ax [Ae (Ad (λ(z:Int)=>iD z) V)<|Aa V,Ae (Ad rowV R)<|Aa R,Ai 3 0 (i+1) (i+1) Ab] 133 0 Ac Ac Az) (hd:=by simp(disch:=omega) only[Bh])<|vnil<|zE<|vN<|zA rfl<|vr 2 (i6 (↑i+1))<|vnil<|zC<|⟨i+1,by omega,by omega,?_⟩;rw[e0];refine vk 4
 obtain rfl:i=R.length:=by omega
 have ht:((AG R.length o).map bD).take R.length=(AG R.length o).map bD:=AT (by simp);refine vAu<|zB<|vF ((Aa R:Int)<↑(Aa R))<|vZ2<|vA<|ve (3<=3/\Ac=Ac/\Ab=Ab/\3=3/\3<=3)<|zJ<|zAy (3<=3) (AD [Ae (Ad (λ(z:Int)=>iD z) V)<|Aa V,Ae (Ad rowV R)<|Aa R,Ae (Al (Aa R)<|Ah 0<|AA<|zDf<|Ad bD<|AG (Aa R) o)<|Aa R]) (AD [Ae (Ad (λ(z:Int)=>iD z) V)<|Aa V,Ae (Ad rowV R)<|Aa R,Ae (Ad bD<|AG (Aa R) o)<|Aa R]) (.inr rfl) (by simp(disch:=omega) only[AN,ht]) rfl (hc:=by omega)
theorem fl_set{α:Type}{g:α->List D}{c:Nat}(hg:∀a,(g a).length=c)(l:List α)(i:Nat)(a:α)(h:i<l.length):setAt (l.flatMap g) (i*c) (g a)=(l.set i a).flatMap g:=by
 have e1:l=l.take i++l[i]::l.drop (i+1):=by rw[<-BP h,Ca]
 have e2:l.set i a=l.take i++a::l.drop (i+1):=by rw[List.set_eq_take_append_cons_drop,if_pos h]
 have e3:(l.flatMap g)=(l.take i).flatMap g++g l[i]++(l.drop (i+1)).flatMap g:=by
  conv=>lhs;rw[e1]
  rw[BC,B1,BM]
 have e4:((l.take i).flatMap g).length=i*c:=by rw[zB5 hg,AZ,Cb (by omega)]
 have h5:=zCi (g a) (g l[i]) ((l.take i).flatMap g) ((l.drop (i+1)).flatMap g) (by rw[hg,hg]);rw[e4,<-e3]at h5;rw[h5,e2,BC,B1,BM]
def okC(x:Option Nat):Prop:=Sm (x.getD 0)
def okP(p:Nat×Option Nat):Prop:=Sm p.1/\okC p.2
end
section
open Go.RowKit
set_option maxRecDepth 4096
abbrev FnK:Type:=List Nat×List (Rw×(Option Nat))
section
variable (A B : List Nat) (lb : List (Rw × (Option Nat))) (ok : Rw → Bool)
variable {A B lb ok}
end
end
section
open Go.RowKit
attribute [local irreducible] seqW awp zW zX zP Weak updS zZ retL Pure Acts rP setP setQ cP nP fr
set_option maxRecDepth 4096
structure FVK(f:FnK):Prop where
 asc:Asc f.1
 len:∀p∈f.2,p.1.length=f.1.length
 vs:∀p∈f.2,∀x∈p.1,Vs x
 sz:f.2.length<=1000000
 sm:∀p∈f.2,okC p.2
 nd:Ndk f.2
end
section
open Go.RowKit
set_option maxRecDepth 4096
structure GofK(Dm:List Va)(f:Fa (Option Nat)):Prop where
 ok:FOk rcmp Dm f
 r:rz f<=900000
 v:kz f<=Bz
section
variable {Dm : List Va} (hD : Okv Dm)
end
abbrev FnP:Type:=List Nat×List (Rw×(Nat×Option Nat))
section
variable (A B : List Nat) (lb : List (Rw × (Nat × Option Nat))) (ok : Rw → Bool)
variable {A B lb ok}
end
end
section
open Go.RowKit
attribute [local irreducible] seqW awp zW zX zP Weak updS zZ retL Pure Acts rP setP setQ cP nP fr
set_option maxRecDepth 4096
structure FVP(f:FnP):Prop where
 asc:Asc f.1
 len:∀p∈f.2,p.1.length=f.1.length
 vs:∀p∈f.2,∀x∈p.1,Vs x
 sz:f.2.length<=1000000
 sm:∀p∈f.2,okP p.2
 nd:Ndk f.2
end
section
open Go.RowKit
set_option maxRecDepth 4096
structure GofP(Dm:List Va)(f:Fa (Nat×Option Nat)):Prop where
 ok:FOk rcmp Dm f
 r:rz f<=900000
 v:qz f<=Bz
section
variable {Dm : List Va} (hD : Okv Dm)
end
section
variable {α β γ : Type} (g : α → β)
theorem mp_ok{c:Rw->Rw->Int}{Dm:List Va}{f:Fa α}(h:FOk c Dm f):FOk c Dm (f.mp g):=
 ⟨h.asc,λp hp=>by obtain⟨q,hq,rfl⟩:=As.1 hp;exact h.len q hq,BR.2 h.srt,λp hp=>by obtain⟨q,hq,rfl⟩:=As.1 hp;exact h.dom q hq⟩
end
@[irreducible] def Mz:Nat:=1000
section
variable {n : Nat} {fs : List Rn} (hn : n ≤ 8) (hl : fs.length ≤ 4) (hs : ∀ f ∈ fs, Rsm f) (hv : ∀ f ∈ fs, ∀ x ∈ f.R, ∀ a ∈ x, Vi a) (h0 : zGy n 0 fs = 0)
include hn hl hs hv h0
end
structure AtOk(n:Nat)(A:List (List Nat×List Rw)):Prop where
 n8:n<=8
 l:A.length<=5
 asc:∀a∈A,a.1.Pairwise (· <·)
 lt:∀a∈A,∀v∈a.1,v<n
 cov:∀v,v<n->∃a∈A,v∈a.1
 srt:∀a∈A,Rsc a.2
 len:∀a∈A,∀r∈a.2,r.length=a.1.length
 few:∀a∈A,a.2.length<=11
 val:∀a∈A,∀r∈a.2,∀v∈r,vok v=Ab/\Vs v
def rnA(a:List Nat×List Rw):Rn:=⟨intL a.1,a.2,[]⟩
abbrev rnAB(a:List Nat×List Rw):List D:=rnCB (rn1 (rnA a))
def valsA(A:List (List Nat×List Rw)):List Va:=ddp (A.flatMap λa=>a.2.flatten)
theorem rnAB_eq(a:List Nat×List Rw):rnAB a=zAc (faT a):=by
 obtain⟨V,R⟩:=a;have e1:((intL V).map λz=>iD z)=nsD V:=by simp[intL]
 have e2:(intL V).length=V.length:=by simp[intL]
 have e3:(R.map λr=>(r,Ab)).map (·.1)=R:=by rw[Bs];exact List.map_id _
 have e4:((R.map λr=>(r,Ab)).map (·.2)).map bD=(AG R.length 1).map λx=>bD (g0 x):=by
  rw[Cy,Bs,Bs];have h:∀R:List Rw,R.map ((bD∘λx:Rw×Bool=>x.2)∘λr=>(r,Ab))=AG R.length (bD (g0 1)):=λR=>by
   induction R with
   |nil=>rfl
   |cons r R ih=>rw[Cz,ih,AR,CA];rfl
  exact h R
 show[Ae ((intL V).map λz=>iD z) (intL V).length, .row (R.map rowV) R.length, .row ((AG R.length 1).map λx=>bD (g0 x)) (AG R.length 1).length]=[.row (nsD V) V.length, .row (((R.map λr=>(r,Ab)).map (·.1)).map rowV) (R.map λr=>(r,Ab)).length, .row (((R.map λr=>(r,Ab)).map (·.2)).map bD) (R.map λr=>(r,Ab)).length];rw[e1,e2,e3,e4,Aq,List.length_replicate]
theorem afC_rnA(a:List Nat×List Rw):afC (rnA a)=atN a:=by
 obtain⟨V,R⟩:=a;have e1:((intL V).map λz=>iD z)=nsD V:=by simp[intL]
 have e2:(intL V).length=V.length:=by simp[intL]
 show[Ae ((intL V).map λz=>iD z) (intL V).length,iD ((intL V).length:Nat),_]=[Ae (nsD V) V.length,iD (V.length:Nat),_];rw[e1,e2];rfl
section
variable {n : Nat} {A : List (List Nat × List Rw)} (h : AtOk n A)
include h
theorem AtOk.fok:∀a∈A,FOk rcmp (valsA A) (faT a):=λa ha=>by
 have hn:=h.n8;refine⟨⟨h.asc a ha,λv hv=>by have:=h.lt a ha v hv;omega⟩,λp hp=>?_,?_,λp hp v hv=>?_⟩
 ·obtain⟨r,hr,rfl⟩:=As.1 hp;exact h.len a ha r hr
 ·exact BR.2 (h.srt a ha)
 obtain⟨r,hr,rfl⟩:=As.1 hp;exact zL2.2 (Bo.2 ⟨a,ha,CB.2 ⟨r,hr,hv⟩⟩)
theorem AtOk.okv:Okv (valsA A):=λv hv=>by
 obtain⟨a,ha,h1⟩:=Bo.1 (zL2.1 hv);obtain⟨r,hr,h2⟩:=CB.1 h1;exact h.val a ha r hr v h2
theorem AtOk.chk:∀a∈A,chkR n (rn1 (rnA a))=0:=λa ha=>by
 have hk:=mp_ok (λ_:Bool=>(0:Nat)) (h.fok a ha);have hc:=chk_ok (n:=n) hk h.okv λv hv=>by have:=h.lt a ha v hv;omega
 have e:((faT a).mp λ_:Bool=>(0:Nat)).l.map (·.1)=a.2:=by
  show(((a.2.map λr=>(r,Ab)).map λp=>(p.1,0)).map (·.1))=_;rw[Bs,Bs];exact List.map_id _
 have e2:(((faT a).mp λ_:Bool=>(0:Nat)).l.map (·.2)).length=(AG a.2.length 1).length:=by
  show(((a.2.map λr=>(r,Ab)).map λp=>(p.1,0)).map (·.2)).length=_;simp
 rw[e,e2]at hc;exact hc
theorem AtOk.wrong:zGy n 0 (A.map λa=>rn1 (rnA a))=0:=by
 have hn:=h.n8;have h1:errL n (A.map λa=>rn1 (rnA a))=0:=errL_0 λj hj=>by
  rw[Aq]at hj;rw[Au,Bp,AC hj];exact h.chk _ (A7 hj)
 have h2:covP n (A.map λa=>rn1 (rnA a))=true:=by
  unfold covP;rw[A6];intro v hv;obtain⟨a,ha,hva⟩:=h.cov v (AQ.1 hv);exact Bj.2 ⟨_,As.2 ⟨a,ha,rfl⟩,decide_eq_true (mem_intL.2 hva)⟩
 unfold zGy;rw[if_neg (by rw[AB,Nat.zero_shiftRight];omega),if_neg (by rw[h1];exact λk=>k rfl),AB,if_pos h2]
theorem AtOk.wrong1(h0:0<n):zGy n 1 (A.map λa=>rn1 (rnA a))=0:=by
 have hw:=h.wrong;have hn:=h.n8;have e:1>>>n=0:=by
  rw[CC];exact Nat.div_eq_of_lt (Cc (by decide:1<2^1) (Bw (by omega) h0))
 unfold zGy at hw⊢;rw[AB]at hw⊢;rw[if_neg (by rw[Nat.zero_shiftRight];omega)]at hw;rw[if_neg (by rw[e];omega)];exact hw
theorem zLl(k:Nat)(hk:k<4294967296)(hw:zGy n k (A.map λa=>rn1 (rnA a))=0):Pure Am 69 [booD,iD (n:Nat),u32D k, .row (A.flatMap rnAB) A.length] [] (.tup [faAB (zEy popN rcmp Sb (A.map faT) ((Ar n).filter λv=>!k.testBit v)),iD 0]):=by
 have hn:=h.n8;have hl:=h.l;have e1:(A.map λa=>rn1 (rnA a)).flatMap rnCB=(A.map faT).flatMap zAc:=by
  rw[BS,BS];exact congrArg (λf=>A.flatMap f) (funext rnAB_eq)
 have e2:A.flatMap rnAB=(A.map faT).flatMap zAc:=by
  rw[<-e1,BS]
 have hck:=zTz n k (A.map λa=>rn1 (rnA a)) hn hk (by rw[Aq];omega) λf hf=>by
  obtain⟨a,ha,rfl⟩:=As.1 hf;have h3:=zB1 (A:=a.1) ⟨h.asc a ha,λv hv=>by have:=h.lt a ha v hv;omega⟩;have h4:=h.few a ha;refine⟨?_,?_⟩
  ·show(intL a.1).length<=1000;rw[show(intL a.1).length=a.1.length by simp[intL]];omega
  show a.2.length<=1000;omega
 rw[hw,e1,Aq]at hck;have hok:∀g∈A.map faT,FOk rcmp (valsA A) g:=λg hg=>by
  obtain⟨a,ha,rfl⟩:=As.1 hg;exact h.fok a ha
 have s1:=pz_le (z:=rz) (b:=12) (l:=A.map faT) λg hg=>by
  obtain⟨a,ha,rfl⟩:=As.1 hg
  have:=h.few a ha
  unfold rz faT;rw[Aq];omega
 have s2:=pz_le (z:=bz) (b:=1) (l:=A.map faT) λg hg=>AJ _;rw[Aq]at s1 s2;rw[Nat.one_pow]at s2;have s3:12^A.length<=12^5:=Bw (by omega) hl;have e3:12^5=248832:=by decide
 have s6:2^1<=Bz:=Bw (by omega) (by rw[Ez_eq];omega);have s4:2*pz bz (A.map faT)<=Bz:=AH (Nat.mul_le_mul_left 2 s2) s6;have hm:=zS5 h.okv (zFq _) n k (A.map faT) hn hk hok (by rw[Aq];omega) (by omega) s4 (λv hv=>by
  obtain⟨a,ha,hva⟩:=h.cov v hv;exact⟨_,As.2 ⟨a,ha,rfl⟩,hva⟩) (by rw[Aq];exact hck)
 rw[Aq,<-e2]at hm;exact hm
theorem totalA_c:∃b:Bool,(b=Ab↔∃τ,SatA A τ)/\Pure Am 67 [booD,iD (n:Nat), .row (A.flatMap rnAB) A.length] [] (.tup [bD b,iD 0]):=by
 have hm:=zLl h 0 (by decide) h.wrong;exact⟨_,tot_T (pop:=popN) (zFq _) h.fok h.lt h.cov,total_cB _ _ _ _ hm⟩
theorem leastA_c(h0:0<n):∃m:Fa Bool,FOk rcmp (valsA A) m/\m.A=[0]/\(∀x,[x]∈m.l.map (·.1)↔∃τ,τ 0=x/\SatA A τ)/\Pure Am 69 [booD,iD (n:Nat),u32D 1, .row (A.flatMap rnAB) A.length] [] (.tup [faAB m,iD 0]):=by
 have hm:=zLl h 1 (by decide) (h.wrong1 h0);obtain⟨m,e,h1,h2,h3⟩:=lst_T (pop:=popN) (zFq (A.flatMap λa=>a.2.flatten)) h.fok h.lt h.cov h0;rw[<-e]at hm;exact⟨m,h1,h2,h3,hm⟩
end
end
section
open Go.Proofs
structure Cm{α:Type}(c:α->α->Int):Prop where
 eq:∀a b,c a b=0↔a=b
 neg:∀a b,c b a=0-c a b
 tr:∀a b d,c a b<0->c b d<0->c a d<0
def icmp(a b:Int):Int:=if a<b then-1 else if b<a then 1 else 0
theorem zS9:Cm icmp:=by
 refine⟨λa b=>?_,λa b=>?_,λa b d=>?_⟩<;>unfold icmp<;>(repeat' split)<;>omega
def lcmp:List Int->List Int->Int
 |[],[]=>0
 |[],_::_=>-1
 |_::_,[]=>1
 |x::a,y::b=>if x<y then-1 else if y<x then 1 else lcmp a b
theorem zPf:∀a b,lcmp a b=0↔a=b
 |[],[]=>by simp[lcmp]
 |[],_::_=>by simp[lcmp]
 |_::_,[]=>by simp[lcmp]
 |x::a,y::b=>by
  have:=zPf a b
  simp only[lcmp,List.cons.injEq];grind
theorem zWs:∀a b,lcmp b a=0-lcmp a b
 |[],[]=>by simp[lcmp]
 |[],_::_=>by simp[lcmp]
 |_::_,[]=>by simp[lcmp]
 |x::a,y::b=>by
  have:=zWs a b
  simp only[lcmp];(repeat' split)<;>omega
theorem lcmp_tr:∀a b d,lcmp a b<0->lcmp b d<0->lcmp a d<0
 |[],[],d,h,k=>by simp[lcmp]at h
 |_::_,[],d,h,k=>by simp[lcmp]at h
 |_,_::_,[],h,k=>by simp[lcmp]at k
 |[],y::b,z::d,h,k=>by simp[lcmp]
 |x::a,y::b,z::d,h,k=>by
  have ih:=lcmp_tr a b d;simp only[lcmp]at h k⊢;omega
section
variable {α : Type} {c : α → α → Int}
def AscW(c:α->α->Int)(l:List α):Prop:=l.Pairwise λa b=>c a b<0
def putG(c:α->α->Int)(x:α):List α->Bool->List α
 |[],done=>if done then[]else[x]
 |y::l,done=>(if !done&&decide (0<=c y x)then[x]else[])++(if c y x≠0 then[y]else[])++putG c x l (done||decide (0<=c y x))
def setG(c:α->α->Int)(l:List α):List α:=l.foldl (λo x=>putG c x o Ac) []
theorem zG9(hc:Cm c)(x z:α):∀(l:List α)(done:Bool),z∈putG c x l done↔(done=Ac/\z=x)\/(z∈l/\z≠x)
 |[],done=>by cases done<;>simp[putG]
 |y::l,done=>by
  simp only[putG,Bv,zG9 hc x z l,AK];have e:=hc.eq y x;grind
theorem zQz(hc:Cm c)(x:α):∀(l:List α),AscW c l->AscW c (putG c x l Ab)
 |[],h=>by simp[putG,AscW]
 |y::l,h=>by
  unfold AscW at h;rw[Bb]at h;have ih:=zQz hc x l h.2;simp only[putG,Cd,Bool.false_and,CD,if_false,A8,Bool.true_or];grind [AscW,List.singleton_append,Bb,zG9]
theorem zV5(hc:Cm c)(x:α):∀(l:List α),AscW c l->AscW c (putG c x l Ac)
 |[],h=>by simp[putG,AscW]
 | y::l,h=>by
  unfold AscW at h;rw[Bb]at h;by_cases h0:0<=c y x
  ·have hd:=zQz hc x l h.2;simp only[putG,h0,decide_true,CE,Bool.and_self,if_true,Bool.or_true];have hxl:∀z∈l,c x z<0:=by
    intro z hz
    have:=h.1 z hz
    by_cases he:c y x=0
    ·rw[(hc.eq y x).1 he]at this;exact this
    exact hc.tr x y z (by have:=hc.neg y x;omega) this
   have hx2:∀z∈putG c x l Ab,z∈l:=by
    grind [zG9]
   unfold AscW;split
   ·rename_i hne;simp only[A0,A8,Bb,AK];refine⟨λz hz=>?_,λz hz=>h.1 z (hx2 z hz),hd⟩;rcases hz with rfl|hz
    ·have:=hc.neg z x;omega
    exact hxl z (hx2 z hz)
   simp only[A0,A8,Bb];exact⟨λz hz=>hxl z (hx2 z hz),hd⟩
  have ih:=zV5 hc x l h.2;have hne:c y x≠0:=by omega
  simp only[putG,h0,decide_false,Bool.and_false,CD,if_false,A8,hne,ne_eq,not_false_eq_true,if_true,CF];grind [AscW,List.singleton_append,Bb,zG9]
theorem zH9(hc:Cm c)(z:α):∀(l o:List α),AscW c o->AscW c (l.foldl (λo x=>putG c x o Ac) o)/\(z∈l.foldl (λo x=>putG c x o Ac) o↔z∈l\/z∈o)
 |[],o,h=>by simp[h]
 |x::l,o,h=>by
  have:=zH9 hc z l (putG c x o Ac) (zV5 hc x o h)
  grind [zG9]
theorem zNq(hc:Cm c)(l:List α):AscW c (setG c l):=by
 cases l with
 |nil=>exact Ce.nil
 |cons x l=>exact(zH9 hc x (x::l) [] Ce.nil).1
theorem zNp(hc:Cm c)(l:List α)(z:α):z∈setG c l↔z∈l:=by
 have:=(zH9 hc z l [] Ce.nil).2
 simpa[setG]using this
theorem zP2(hc:Cm c):∀{l m:List α},AscW c l->AscW c m->(∀z,z∈l↔z∈m)->l=m
 |[],[],_,_,_=>rfl
 |[],y::m,_,_,h=>by have:=(h y).2 (AV ..);cases this
 |x::l,[],_,_,h=>by have:=(h x).1 (AV ..);cases this
 | x::l,y::m,hl,hm,h=>by
  unfold AscW at hl hm;rw[Bb]at hl hm;have irr:∀a,¬c a a<0:=λa=>by have:=(hc.eq a a).2 rfl;omega
  have e:x=y:=by
   have h1:=(h x).1 (AV ..);have h2:=(h y).2 (AV ..);rcases AK.1 h1 with h1|h1
   ·exact h1
   rcases AK.1 h2 with h2|h2
   ·exact h2.symm
   exact absurd (hc.tr _ _ _ (hl.1 y h2) (hm.1 x h1)) (irr x)
  subst e;congr 1;refine zP2 hc hl.2 hm.2 λz=>?_;grind
theorem zX3(hc:Cm c){l m:List α}(h:∀z,z∈l↔z∈m):setG c l=setG c m:=by grind [zP2,zNq,zNp]
def dedG[DecidableEq α](p:α):List α->List α
 |[]=>[]
 |x::l=>if x=p then dedG p l else x::dedG x l
def ddG[DecidableEq α]:List α->List α
 |[]=>[]
 |x::l=>x::dedG x l
theorem zRx[DecidableEq α](hc:Cm c):∀(l:List α)(p:α),(p::l).Pairwise (λa b=>¬c b a<0)->AscW c (p::dedG p l)/\∀z,z∈p::dedG p l↔z∈p::l
 |[],p,h=>by simp[dedG,AscW]
 | x::l,p,h=>by
  rw[Bb]at h;have hpx:=h.1 x (AV ..);have ih:=zRx hc l x h.2;unfold dedG;split
  ·grind
  rename_i hne;have hlt:c p x<0:=by
   have h1:=hc.neg p x;have h2:c p x≠0:=λh=>hne ((hc.eq p x).1 h).symm;omega
  refine⟨?_,λz=>by rw[AK,ih.2,AK (a:=z) (b:=p)]⟩;unfold AscW;rw[Bb];refine⟨λz hz=>?_,ih.1⟩;rcases AK.1 hz with rfl|hz
  ·exact hlt
  have:=ih.1
  unfold AscW at this;rw[Bb]at this;exact hc.tr _ _ _ hlt (this.1 z hz)
theorem zYj[DecidableEq α](hc:Cm c){l:List α}(h:l.Pairwise (λa b=>¬c b a<0)):ddG l=setG c l:=by
 cases l with
 |nil=>rfl
 |cons x l=>
  have:=zRx hc l x h
  exact zP2 hc this.1 (zNq hc _) λz=>by rw[zNp hc];exact this.2 z
end
theorem zR2(x:Int)(l:List Int):Bc (x::l)=x::dedG x l:=by
 have key:∀(l:List Int)(x:Int),Bc (x::l)=x::dedG x l:=by
  intro l;induction l with
  |nil=>intro x;simp[Bc,CG,dedG,BF,By]
  | cons y l ih=>
   intro x;have h1:Bc (x::y::l)=x::(if y=x then(Bc (y::l)).tail else Bc (y::l)):=by
    simp only[Bc,CG,AR];rw[List.range_succ_eq_map,Bm];have hk0:By (x::y::l).toArray 0=true:=by simp[By]
    rw[if_pos hk0,Cz,List.filter_map,Bs];congr 1;have hfun:((λx_1=>(x::y::l).toArray[x_1]!)∘B2)=λi=>(y::l).toArray[i]!:=by funext i;simp
    rw[hfun];rw[List.range_succ_eq_map];simp only[Bm,List.filter_map,Cz,Bs];have hk1:(By (x::y::l).toArray∘B2) 0=decide (y≠x):=by
     simp[By]
    have hk2:By (y::l).toArray 0=true:=by simp[By]
    have hk3:((By (x::y::l).toArray∘B2)∘B2)=(By (y::l).toArray∘B2):=by
     funext i;simp[By]
    grind
   rw[h1,ih y];simp only[dedG,List.tail_cons];grind
 exact key l x
theorem zYm(l:List Int):Bc l=ddG l:=by
 cases l with
 |nil=>rfl
 |cons x l=>exact zR2 x l
end
section
open Go.RowKit
abbrev intD(z:Int):D:= .val (.int .i64 z)
abbrev intsD(l:List Int):D:= .row (l.map intD) l.length
end
section
open Go.RowKit
set_option maxRecDepth 4096
theorem zHp(l:List Int)(k:Nat)(h:k<l.length):((l.map intD).drop k).headD .unk=intD (l.getD k 0):=zA2 intD l 0 k h
theorem lcmp_drop{a b:List Int}{i:Nat}(ha:i<a.length)(hb:i<b.length):lcmp (a.drop i) (b.drop i)=if a.getD i 0<b.getD i 0 then-1 else if b.getD i 0<a.getD i 0 then 1 else lcmp (a.drop (i+1)) (b.drop (i+1)):=by
 grind [BP,lcmp]
theorem zWt{a b:List Int}{i:Nat}(h:i=a.length\/i=b.length)(h1:i<=a.length)(h2:i<=b.length):lcmp (a.drop i) (b.drop i)=if a.length<b.length then-1 else if b.length<a.length then 1 else 0:=by
 have e1:=BB (i:=i) (l:=a);have e2:=BB (i:=i) (l:=b);generalize a.drop i=X at*;generalize b.drop i=Y at*;match X,Y,e1,e2 with
 |[],[],e1,e2=>simp only[lcmp,B3]at*;rw[if_neg (by omega),if_neg (by omega)]
 |[],y::Y,e1,e2=>simp only[lcmp,B3,AR]at*;rw[if_pos (by omega)]
 |x::X,[],e1,e2=>simp only[lcmp,B3,AR]at*;rw[if_neg (by omega),if_pos (by omega)]
 |x::X,y::Y,e1,e2=>simp only[AR]at*;omega
end
section
open Go.RowKit
theorem AtOk.rest{n:Nat}{A:List (List Nat×List Rw)}(h:AtOk n A){p:Rw}(hp:p.length<=n):AtOk (n-p.length) (A.map (zBb p)) where
 n8:=by have:=h.n8;omega
 l:=by rw[Aq];exact h.l
 asc b hb:=by
  obtain⟨a,ha,rfl⟩:=As.1 hb
  show(rstF p a.1 0 a.2).1.Pairwise (· <·)
  rw[zG6,BR]
  refine((h.asc a ha).filter _).imp_of_mem λ{u v} hu hv huv=>?_
  have:=of_decide_eq_true (AL.1 hu).2
  omega
 lt b hb v hv:=by
  obtain⟨a,ha,rfl⟩:=As.1 hb
  have hv:v∈(rstF p a.1 0 a.2).1:=hv
  rw[zG6]at hv
  obtain⟨u,hu,rfl⟩:=As.1 hv
  obtain⟨h1,h2⟩:=AL.1 hu
  have h3:=h.lt a ha u h1
  have:=of_decide_eq_true h2
  omega
 cov v hv:=by
  obtain⟨a,ha,hva⟩:=h.cov (v+p.length) (by omega)
  refine⟨_,As.2 ⟨a,ha,rfl⟩,?_⟩
  show v∈(rstF p a.1 0 a.2).1
  rw[zG6]
  exact As.2 ⟨v+p.length,AL.2 ⟨hva,decide_eq_true (by omega)⟩,by omega⟩
 srt b hb:=by
  obtain⟨a,ha,rfl⟩:=As.1 hb
  exact zVv _
 len b hb r hr:=by
  obtain⟨a,ha,rfl⟩:=As.1 hb
  obtain⟨s,hs,rfl⟩:=As.1 (zHe.1 hr)
  show(zR s (rstF p a.1 0 a.2).2.1).length=(rstF p a.1 0 a.2).1.length
  unfold zR
  rw[Aq,zNv]
 few b hb:=by
  obtain⟨a,ha,rfl⟩:=As.1 hb
  have h1:=zKf ((rstF p a.1 0 a.2).2.2.map λr=>zR r (rstF p a.1 0 a.2).2.1)
  rw[Aq]at h1
  have h2:=(zNu p a.1 0 a.2).length_le
  have h3:=h.few a ha
  show(relR _).length<=11
  omega
 val b hb r hr v hv:=by
  obtain⟨a,ha,rfl⟩:=As.1 hb
  obtain⟨s,hs,rfl⟩:=As.1 (zHe.1 hr)
  have hs2:=zK2 p _ _ _ _ hs
  obtain⟨c,hc,rfl⟩:=As.1 hv
  have h1:=(zKd p a.1 0 a.2 c hc).2
  have h2:=h.len a ha s hs2
  refine h.val a ha s hs2 _ ?_
  rw[Au,AC (by omega)]
  exact A7 _
structure AtW(A:List (List Nat×List Rw)):Prop where
 l:A.length<=5
 asc:∀a∈A,a.1.Pairwise (· <·)
 lt:∀a∈A,∀v∈a.1,v<8
 srt:∀a∈A,Rsc a.2
 len:∀a∈A,∀r∈a.2,r.length=a.1.length
 few:∀a∈A,a.2.length<=11
 val:∀a∈A,∀r∈a.2,∀v∈r,vok v=Ab/\Vs v
theorem AtOk.w{n:Nat}{A:List (List Nat×List Rw)}(h:AtOk n A):AtW A:=⟨h.l,h.asc,λa ha v hv=>by have:=h.lt a ha v hv;have:=h.n8;omega,h.srt,h.len,h.few,h.val⟩
theorem AtW.sub{A B:List (List Nat×List Rw)}(h:AtW A)(hl:B.length<=5)(hs:∀b∈B,b∈A):AtW B:=⟨hl,λa ha=>h.asc a (hs a ha),λa ha=>h.lt a (hs a ha),λa ha=>h.srt a (hs a ha),λa ha=>h.len a (hs a ha),λa ha=>h.few a (hs a ha),λa ha=>h.val a (hs a ha)⟩
def zCe(A:List (List Nat×List Rw)):List Int:=setG icmp (A.flatMap λa=>intL a.1)
def zGk(A:List (List Nat×List Rw))(v:Nat):Nat:=(zCe A).idxOf (v:Int)
section
variable {A : List (List Nat × List Rw)}
theorem zEl{z:Int}:z∈zCe A↔∃a∈A,∃v∈a.1,z=((v:Nat):Int):=by
 unfold zCe;rw[zNp zS9,Bo];constructor
 ·rintro⟨a,ha,hz⟩;obtain⟨v,hv,rfl⟩:=As.1 hz;exact⟨a,ha,v,hv,rfl⟩
 rintro⟨a,ha,v,hv,rfl⟩;exact⟨a,ha,As.2 ⟨v,hv,rfl⟩⟩
theorem used_asc:(zCe A).Pairwise (· <·):=by
 have:=zNq zS9 (A.flatMap λa=>intL a.1)
 refine this.imp λ{x y} h=>?_;unfold icmp at h;split at h
 ·assumption
 split at h<;>omega
theorem zP1:∀(l:List Int)(b:Nat),l.Pairwise (· <·)->(∀x∈l,(b:Int)<=x/\x<8)->l.length<=8-b
 |[],b,_,_=>B4 _
 | x::l,b,h,k=>by
  rw[Bb]at h;have hx:=k x (AV ..);have ih:=zP1 l (x.toNat+1) h.2 λy hy=>by
   have h1:=h.1 y hy;have h2:=k y (Bf _ hy);omega
  rw[AR];omega
theorem dense_get{i:Nat}(hi:i<(zCe A).length):(zCe A).idxOf (zCe A)[i]=i:=by
 have hn:(zCe A).Nodup:=used_asc.imp λh e=>by omega
 exact hn.idxOf_getElem i hi
variable (h : AtW A)
include h
theorem zVi:(zCe A).length<=8:=zP1 (zCe A) 0 used_asc λx hx=>by
 obtain⟨a,ha,v,hv,rfl⟩:=zEl.1 hx
 have:=h.lt a ha v hv
 omega
theorem dense_ok:AtOk (zCe A).length (A.map (renA (zGk A))) where
 n8:=zVi h
 l:=by rw[Aq];exact h.l
 asc b hb:=by
  obtain⟨a,ha,rfl⟩:=As.1 hb
  show(a.1.map (zGk A)).Pairwise (· <·)
  rw[BR]
  refine(h.asc a ha).imp_of_mem λ{u v} hu hv huv=>?_
  have h1:=BT.2 (zEl.2 ⟨a,ha,u,hu,rfl⟩)
  have h2:=BT.2 (zEl.2 ⟨a,ha,v,hv,rfl⟩)
  have g1:=Cf h1
  have g2:=Cf h2
  show(zCe A).idxOf ((u:Nat):Int)<(zCe A).idxOf ((v:Nat):Int)
  apply BI
  intro hn
  rcases Aw ((zCe A).idxOf ((v:Nat):Int)) ((zCe A).idxOf ((u:Nat):Int))with hlt|hge
  ·have:=CH.1 (used_asc (A:=A)) _ _ h2 h1 hlt
   rw[g1,g2]at this
   omega
  have e:(zCe A).idxOf ((v:Nat):Int)=(zCe A).idxOf ((u:Nat):Int):=by omega
  simp only[e]at g2
  rw[g1]at g2
  omega
 lt b hb v hv:=by
  obtain⟨a,ha,rfl⟩:=As.1 hb
  obtain⟨u,hu,rfl⟩:=As.1 (show v∈a.1.map (zGk A)from hv)
  exact BT.2 (zEl.2 ⟨a,ha,u,hu,rfl⟩)
 cov i hi:=by
  obtain⟨a,ha,v,hv,e⟩:=zEl.1 (A7 hi)
  refine⟨_,As.2 ⟨a,ha,rfl⟩,?_⟩
  show i∈a.1.map (zGk A)
  refine As.2 ⟨v,hv,?_⟩
  show(zCe A).idxOf ((v:Nat):Int)=i
  rw[<-e];exact dense_get hi
 srt b hb:=by
  obtain⟨a,ha,rfl⟩:=As.1 hb
  exact h.srt a ha
 len b hb r hr:=by
  obtain⟨a,ha,rfl⟩:=As.1 hb
  show r.length=(a.1.map (zGk A)).length
  rw[Aq];exact h.len a ha r hr
 few b hb:=by
  obtain⟨a,ha,rfl⟩:=As.1 hb
  exact h.few a ha
 val b hb:=by
  obtain⟨a,ha,rfl⟩:=As.1 hb
  exact h.val a ha
omit h in
theorem dense_sat:(∃τ,SatA (A.map (renA (zGk A))) τ)↔∃τ,SatA A τ:=sat_ren (g:=λi=>((zCe A).getD i 0).toNat) λa ha v hv=>by
 have h1:=BT.2 (zEl.2 ⟨a,ha,v,hv,rfl⟩);have g1:=Cf h1;show((zCe A).getD ((zCe A).idxOf ((v:Nat):Int)) 0).toNat=v;rw[Au,AC h1,BL,g1,AB]
end
end
section
open Go.RowKit
attribute [local irreducible] seqW awp zW zX zP Weak updS zZ retL Pure Acts rP setP setQ cP nP fr
set_option maxRecDepth 4096
theorem zAd(a:List Nat×List Rw):(atN a).length=3:=rfl
abbrev atK(l:List D):Bk:=⟨l,45,3,Ab,Ac, .plain⟩
abbrev at1(V x:D)(ar:Int):Bk:=⟨[V,iD ar,x],45,0,Ac,Ac, .plain⟩
abbrev iaK(l:List D):Bk:=⟨l,3,1,Ab,Ac, .plain⟩
theorem selC_bad{col:Nat}{v:Va}{R:List Rw}{ar:Nat}(hc:col<ar)(hl:∀r∈R,r.length=ar/\r.all vok=Ab)(hv:vok v=Ac):selC col v R=[]:=by
 unfold selC;rw[List.filter_eq_nil_iff];intro r hr h;obtain⟨h1,h2⟩:=hl r hr;have h3:=of_decide_eq_true h;have h4:vok (r.getD col Af)=true:=by
  rw[Au,AC (by omega)];exact A6.1 h2 _ (A7 _)
 rw[h3,hv]at h4;cases h4
def rstV(p:Rw)(V:List Nat):List Nat:=(V.filter λv=>decide (p.length<=v)).map λv=>v-p.length
def rstC(p:Rw):List Nat->Nat->List Nat
 |[],_=>[]
 |v::V,i=>if p.length<=v then i::rstC p V (i+1)else rstC p V (i+1)
def rstR(p:Rw):List Nat->Nat->List Rw->List Rw
 |[],_,R=>R
 |v::V,i,R=>if p.length<=v then rstR p V (i+1) R else rstR p V (i+1) (selC i (p.getD v Af) R)
theorem zK3(p:Rw):∀(V:List Nat)(i:Nat)(R:List Rw),rstF p V i R=(rstV p V,rstC p V i,rstR p V i R)
 |[],_,_=>rfl
 |v::V,i,R=>by
  unfold rstF rstV rstC rstR;by_cases h:p.length<=v
  ·rw[if_pos h,if_pos h,if_pos h,zK3 p V,Bm,if_pos (decide_eq_true h)];rfl
  rw[if_neg h,if_neg h,if_neg h,zK3 p V,Bm,if_neg (by simpa using h)];rfl
theorem zZz(p:Rw)(V:List Nat)(v:Nat):rstV p (V++[v])=if p.length<=v then rstV p V++[v-p.length]else rstV p V:=by
 unfold rstV;rw[Bt];by_cases h:p.length<=v
 ·rw[if_pos h,Bm,if_pos (decide_eq_true h),Bl];rfl
 rw[if_neg h,Bm,if_neg (by simpa using h)];simp
theorem zQr(p:Rw)(v:Nat):∀(V:List Nat)(i:Nat),rstC p (V++[v]) i=if p.length<=v then rstC p V i++[i+V.length]else rstC p V i
 |[],i=>by
  show(if p.length<=v then i::rstC p [] (i+1)else rstC p [] (i+1))=if p.length<=v then[]++[i+0]else[]
  rfl
 |w::V,i=>by
  have ih:=zQr p v V (i+1);rw[A0];unfold rstC;rw[ih,AR,show i+1+V.length=i+(V.length+1) by omega];by_cases h1:p.length<=w<;>by_cases h2:p.length<=v<;>simp[h1,h2]
theorem zK4(p:Rw)(v:Nat):∀(V:List Nat)(i:Nat)(R:List Rw),rstR p (V++[v]) i R=if p.length<=v then rstR p V i R else selC (i+V.length) (p.getD v Af) (rstR p V i R)
 |[],i,R=>rfl
 |w::V,i,R=>by
  rw[A0];unfold rstR;rw[zK4 p v V (i+1),zK4 p v V (i+1),AR,show i+1+V.length=i+(V.length+1) by omega];by_cases h1:p.length<=w
  ·rw[if_pos h1,if_pos h1]
  rw[if_neg h1,if_neg h1]
theorem rstR_sub(p:Rw)(V:List Nat)(i:Nat)(R:List Rw):∀r∈rstR p V i R,r∈R:=λr hr=>by
 have h:=zK2 p V i R r;rw[zK3]at h;exact h hr
theorem rstR_len(p:Rw)(V:List Nat)(i:Nat)(R:List Rw):(rstR p V i R).length<=R.length:=by
 have h:=(zNu p V i R).length_le;rw[zK3]at h;exact h
theorem rstV_len(p:Rw)(V:List Nat):(rstV p V).length<=V.length:=by
 unfold rstV;rw[Aq];exact Bn _ _
theorem rstC_len(p:Rw):∀(V:List Nat)(i:Nat),(rstC p V i).length=(rstV p V).length:=λV i=>by
 have h:=zNv p V i [];rw[zK3]at h;exact h
structure AtR(A:List (List Nat×List Rw)):Prop where
 l:A.length<=1000
 v:∀a∈A,a.1.length<=32
 w:∀a∈A,∀v∈a.1,v<=1000
 r:∀a∈A,a.2.length<=65536
 k:∀a∈A,∀r∈a.2,r.length=a.1.length/\r.all vok=Ab
theorem restA_eq(p:Rw)(a:List Nat×List Rw):zBb p a=(rstV p a.1,relR ((rstR p a.1 0 a.2).map λr=>zR r (rstC p a.1 0))):=by
 unfold zBb;rw[zK3]
abbrev zAt:List D:=[.val (.slice AO 0 0),iD 0, .val (.slice AO 0 0)]
def filK(L:List (List Nat×List Rw))(n:Nat):List D:=L.flatMap atN++repL (n-L.length) zAt
theorem zD4(n:Nat)(z:List D):repL (n+1) z=z++repL n z:=by
 simp only[repL,CA,List.flatten_cons]
theorem filK_set(L:List (List Nat×List Rw))(n:Nat)(a:List Nat×List Rw)(h:L.length<n):setAt (filK L n) (L.length*3) (atN a)=filK (L++[a]) n:=by
 obtain⟨m,hm⟩:∃m,n-L.length=m+1:=⟨n-L.length-1,by omega⟩;have e:(L.flatMap atN).length=L.length*3:=zB5 zAd L;have e2:n-(L++[a]).length=m:=by rw[AM,BJ];omega
 unfold filK;rw[hm,zD4,e2,BC,Cg];have h5:=zCi (atN a) zAt (L.flatMap atN) (repL m zAt) (by rw[zAd];rfl);rw[e]at h5;rw[<-BM,h5]
theorem filK_0(n:Nat):repL n zAt=filK [] n:=by simp[filK]
theorem filK_all(L:List (List Nat×List Rw)):filK L L.length=L.flatMap atN:=by simp[filK,repL]
theorem filK_len{L:List (List Nat×List Rw)}{n:Nat}(h:L.length<=n):(filK L n).length=n*3:=by
 have e:(L.flatMap atN).length=L.length*3:=zB5 zAd L;have e2:∀k,(repL k zAt).length=k*3:=λk=>by
  induction k with
  |zero=>rfl
  |succ k ih=>rw[zD4,AM,ih];show 3+k*3=_;omega
 unfold filK;rw[AM,e,e2];omega
theorem arity_c(ar:Int)(L:List Rw):Pure Am 62 [relD ar L] [] (iD ar):=by
 refine zG zAm mixed Tryz.func62 rfl<|zB<|zA rfl<|v0s<|veT<|zB<|zA rfl<|ve (True/\0<2)<|zJ<|vret (True)<|.inr rfl
set_option maxHeartbeats 8000000 in
theorem zD3(A:List (List Nat×List Rw))(h:AtR A)(p:Rw)(hp:p.length<=1000):Pure Am 36 [.row (A.flatMap atN) A.length,rowV p] [] (.row ((A.map (zBb p)).flatMap atN) A.length):=by
 have hAl:=h.l;have r0:=filK_0 A.length;refine zG zAm mixed Tryz.func36 rfl<|zB<|zA rfl<|v0s<|veT<|zB<|zA rfl<|ve ((0:Int)<=(Aa A:Int)/\(Aa A:Int)<=(Aa A:Int)/\(↑(56:Nat):Int)*(Aa A:Int)<=(281474976710656:Int)/\(Aa A:Int)<=(281474976710656:Int)/\0<3/\3=3)<|zB<|zB<|zA rfl<|veT<|zF<|zS (λ(i:Nat)=>fr 86 [(1,rowV p),(4,nl),(5,Ai 0 0 (Aa A) (Aa A*3) Ab),(18,Ae (Ag atN A)<|Aa A),(19,iD (Aa A:Int)),(20,iD (i:Int))]) (λ(i:Nat)=>[atK<|filK ((A.take i).map<|zBb p) A.length]) (λi=>A.length-i) (λ(i:Nat)=>i<=A.length) 0 ?_ ?_ ?_
 ·omega
 ·refine vk 1
 rintro i h1;rcases Aw i A.length with h2|h2
 ·have hm:=zAf A Af i h2;have hg:=zHt zAd A i h2;have hle:=zFe zAd A i h2;have hne:=zFd zAd (by decide) A;have htk:=zA1 A i h2;have hv:=h.v _ hm;have hw:=h.w _ hm;have hr:=h.r _ hm;have hk:=h.k _ hm;have hlt:((A.take i).map (zBb p)).length=i:=by rw[Aq,AZ];omega
  have hset:=filK_set ((A.take i).map (zBb p)) A.length (zBb p (A.getD i Af)) (by omega);have hfl:=filK_len (L:=(A.take i).map (zBb p)) (n:=A.length) (by omega);have hmp:(A.take (i+1)).map (zBb p)=(A.take i).map (zBb p)++[zBb p (A.getD i Af)]:=by rw[htk,Bl];rfl
  rw[hlt,<-hmp]at hset;generalize A.getD i Af=a at*;obtain⟨V,R⟩:=a;rw[restA_eq]at hset;simp only at hv hw hr hk hset;generalize (A.take i).map (zBb p)=L at*;refine zB<|zA rfl<|v0s<|veT<|zB<|vT ((i:Int)<(Aa A:Int))<|zK<|zC<|zD<|zB<|zF<|zB<|zA rfl<|vr 2 (ix (i:Int) (Aa A:Int) (Ag atN A≠[]))<|vs 23 (AS<|Ah (Ap (i:Int)*3)<|Ag atN A) (AS (Ae (Ad (λ(v:Nat)=>iD (v:Int)) V) (Aa V)::iD (Aa V:Int)::Ae (Ad rowV R) (Aa R)::Ag atN (Ah (i+1) A))) (hd:=by simp(disch:=omega) only[AB,A0,A8,hg])<|ve (3<=Aa (Ae (Ad (λ(v:Nat)=>iD (v:Int)) V) (Aa V)::iD (Aa V:Int)::Ae (Ad rowV R) (Aa R)::Ag atN (Ah (i+1) A))/\Ac=Ac/\Ab=Ab/\3=3/\3<=3)<|zB<|zA rfl<|ve (True/\2<=2/\Ac=Ac/\Ab=Ab/\2=2/\2<=2)<|zB<|zA rfl<|ve ((True/\0<1/\1=1/\0<=16777216/\0<=9223372036854775807)/\True/\0<1/\1=1/\0<=16777216/\0<=9223372036854775807)<|zB<|zB<|zA rfl<|ve (True/\0<3)<|zF<|zS (λ(j:Nat)=>fr 86 [(1,rowV p),(4,nl),(5,Ai 0 0 (Aa A) (Aa A*3) Ab),(6,iD (i:Int)),(8,AE 2 0),(9,Ai 3 0 (Aa<|rstV p<|Al j V) (Aa<|rstV p<|Al j V) Ab),(10,Ai 4 0 (Aa<|rstC p (Al j V) 0) (Aa<|rstC p (Al j V) 0) Ab),(18,Ae (Ag atN A)<|Aa A),(19,iD (Aa A:Int)),(20,iD (i:Int)),(30,Ae (Ad (λ(v:Nat)=>iD (v:Int)) V)<|Aa V),(31,iD (Aa V:Int)),(32,iD (j:Int))]) (λ(j:Nat)=>[atK<|filK L A.length,at1 (.row (nsD V) V.length) (.row (R.map rowV) R.length) (V.length:Nat),relK (V.length:Nat)<|.row ((rstR p (V.take j) 0 R).map rowV) (rstR p (V.take j) 0 R).length,iaK<|nsD<|rstV p<|V.take j,iaK<|nsD<|rstC p (V.take j) 0]) (λj=>V.length-j) (λ(j:Nat)=>j<=V.length) 0 ?_ ?_ ?_
  ·omega
  ·refine vk 5
  rintro j j1;have c1:=rstV_len p (V.take j);have c2:=rstC_len p (V.take j) 0;have c3:=rstR_len p (V.take j) 0 R;have c4:=rstR_sub p (V.take j) 0 R;have c5:(V.take j).length=j:=by rw[AZ];omega
  have c6:(nsD (rstV p (V.take j))).length=(rstV p (V.take j)).length:=Aq ..
  have c7:(nsD (rstC p (V.take j) 0)).length=(rstC p (V.take j) 0).length:=Aq ..
  rcases Aw j V.length with j2|j2
  ·have hx:=zAv V j j2;have hn1:nsD V≠[]:=zAb;have hvm:=zAf V 0 j j2;have hw2:=hw _ hvm;have htv:V.take (j+1)=V.take j++[V.getD j 0]:=by
    rw[BN j2,Au,AC j2];rfl
   have s1:=zZz p (V.take j) (V.getD j 0);have s2:=zQr p (V.getD j 0) (V.take j) 0;have s3:=zK4 p (V.getD j 0) (V.take j) 0 R;rw[<-htv]at s1 s2 s3;rw[c5,B5]at s2 s3;generalize V.getD j 0=v at*;by_cases hpv:p.length<=v
   ·rw[if_pos hpv]at s1 s2 s3;have hcs:(v:Int)-(p.length:Nat)=((v-p.length:Nat):Int):=by omega
    refine zB<|zA rfl<|v0s<|veT<|zB<|vT ((j:Int)<(Aa V:Int))<|zK<|zC<|zD<|zB<|zF<|zB<|zA rfl<|vr 2 (ix (j:Int) (Aa V:Int) (Ad (λ(v:Nat)=>iD (v:Int)) V≠[]))<|vp 35 (j) (Ad (λ(v:Nat)=>iD (v:Int)) V)<|vr 1 (0<Aa (Ah j<|Ad (λ(v:Nat)=>iD (v:Int)) V))<|vsh 36 hx<|veT<|zB<|zB<|zA rfl<|veT<|vT ((v:Int)>=(Aa p:Int))<|zB<|zA rfl<|vr 5 (i6 ((v:Int)-(Aa p:Int)))<|vs 45 (iD ((v:Int)-(Aa p:Int))) (iD (↑(v-Aa p):Int)) (hd:=by simp(disch:=omega) only[hcs])<|vr 3 (((1=1/\1<=1/\True)/\0<1/\1=1/\1<=16777216/\1<=9223372036854775807)/\A9 (iaK<|nsD<|rstV p<|Al j V)=Ab/\Aa (AA<|iaK<|nsD<|rstV p<|Al j V)=Aa (rstV p<|Al j V)*1/\Aa (rstV p<|Al j V)=Aa (rstV p<|Al j V)*1/\A3 (iaK<|nsD<|rstV p<|Al j V)=3/\A4 (iaK<|nsD<|rstV p<|Al j V)=1/\1=1/\0<1/\0<8/\3=3/\(Aa (rstV p<|Al j V)+1)*8<=140737488355328/\1=1/\A_ (AI<|iaK<|nsD<|rstV p<|Al j V)=Ac/\(Ac=Ac\/Ba (AI<|iaK<|nsD<|rstV p<|Al j V)=Ab))<|vs 9 (Ai 3 0 (Aa (rstV p<|Al j V)+1) ((Aa (rstV p<|Al j V)+1)*1) Ab) (Ai 3 0 (Aa (rstV p<|Al j V)+1) (Aa (rstV p<|Al j V)+1) Ab) (hd:=by simp(disch:=omega) only[Bh])<|veT<|zB<|zA rfl<|vr 5 (((1=1/\1<=1/\True)/\0<1/\1=1/\1<=16777216/\1<=9223372036854775807)/\A9 (Ax (nsD<|rstC p (Al j V) 0) 3 1 Ab Ac Az)=Ab/\Aa (nsD<|rstC p (Al j V) 0)=Aa (rstC p (Al j V) 0)*1/\Aa (rstC p (Al j V) 0)=Aa (rstC p (Al j V) 0)*1/\A3 (Ax (nsD<|rstC p (Al j V) 0) 3 1 Ab Ac Az)=3/\A4 (Ax (nsD<|rstC p (Al j V) 0) 3 1 Ab Ac Az)=1/\1=1/\0<1/\0<8/\3=3/\(Aa (rstC p (Al j V) 0)+1)*8<=140737488355328/\1=1/\A_ (AI<|Ax (nsD<|rstC p (Al j V) 0) 3 1 Ab Ac Az)=Ac/\(Ac=Ac\/Ba (AI<|Ax (nsD<|rstC p (Al j V) 0) 3 1 Ab Ac Az)=Ab))<|vs 10 (Ai 4 0 (Aa (rstC p (Al j V) 0)+1) ((Aa (rstC p (Al j V) 0)+1)*1) Ab) (Ai 4 0 (Aa (rstC p (Al j V) 0)+1) (Aa (rstC p (Al j V) 0)+1) Ab) (hd:=by simp(disch:=omega) only[Bh])<|veT<|zV<|zM<|zQ rfl<|zC<|zD<|zA rfl<|vr 2 (i6 ((j:Int)+(1:Int)))<|vnil<|zC<|⟨j+1,by omega,by omega,?_⟩;have t1:nsD (rstV p (V.take (j+1)))=nsD (rstV p (V.take j))++[iD (v-p.length:Nat)]:=by rw[s1,nsD,Bl];rfl
    have t2:nsD (rstC p (V.take (j+1)) 0)=nsD (rstC p (V.take j) 0)++[iD (j:Nat)]:=by rw[s2,nsD,Bl];rfl
    have t3:(rstV p (V.take (j+1))).length=(rstV p (V.take j)).length+1:=by rw[s1,AM];rfl
    have t4:(rstC p (V.take (j+1)) 0).length=(rstC p (V.take j) 0).length+1:=by rw[s2,AM];rfl
    rw[t1,t2,t3,t4,s3];refine vk 5
   rw[if_neg hpv]at s1 s2 s3;have hpx:=zHx p v (by omega);have hpn:=zEk p (by omega);have hpl:=zAp p;have hse:=select_c V.length (rstR p (V.take j) 0 R) j (p.getD v Af) (by omega) j2 λr hr=>hk r (c4 r hr);have hbad:=selC_bad (col:=j) (v:=p.getD v Af) (R:=rstR p (V.take j) 0 R) j2 λr hr=>hk r (c4 r hr);have hnw:=new_c (V.length:Nat) (by omega) (by omega);have har:=arity_c (V.length:Nat) (rstR p (V.take j) 0 R);generalize p.getD v Af=x at*;obtain⟨xk,xi,xs⟩:=x;cases hvx:vok ⟨xk,xi,xs⟩
   ·rw[hvx,if_neg (λh=>by cases h)]at hse;refine zB<|zA rfl<|v0s<|veT<|zB<|vT ((j:Int)<(Aa V:Int))<|zK<|zC<|zD<|zB<|zF<|zB<|zA rfl<|vr 2 (ix (j:Int) (Aa V:Int) (Ad (λ(v:Nat)=>iD (v:Int)) V≠[]))<|vp 35 (j) (Ad (λ(v:Nat)=>iD (v:Int)) V)<|vr 1 (0<Aa (Ah j<|Ad (λ(v:Nat)=>iD (v:Int)) V))<|vsh 36 hx<|veT<|zB<|zB<|zA rfl<|veT<|vF ((v:Int)>=(Aa p:Int))<|zK<|zC<|zD<|zB<|vd [1,2,3,4,0,5,6,7,8,9,10,11,12]<|vr 4 (ix (v:Int) (Aa p:Int) (zL p≠[]))<|vs 57 (AS<|Ah (Ap (v:Int)*3)<|zL p) (AS (iD xk::iD xi::strD xs::zL (Ah (v+1) p))) (hd:=by simp(disch:=omega) only[AB,A0,A8,hpx])<|vr 2 (2<=2/\3<=Aa (iD xk::iD xi::strD xs::zL (Ah (v+1) p)))<|vc (hse)<|ve (0<2/\1<2/\Ac=Ac/\Ab=Ab/\2=2/\2<=2)<|zB<|zB<|zA rfl<|veT<|vt<|zA rfl<|vr 1 (2<=2)<|vc (har)<|vc (hnw)<|ve (0<2/\1<2/\Ac=Ac/\Ab=Ab/\2=2/\2<=2)<|zA rfl<|vr 2 (2<=2/\Bg (relK (Aa V:Int)<|Ae (Ad rowV<|rstR p (Al j V) 0 R)<|Aa<|rstR p (Al j V) 0 R)=Ac/\Ab=Ab/\2=2/\2<=2)<|vnil<|zE<|zC<|zD<|zA rfl<|vr 2 (i6 ((j:Int)+(1:Int)))<|vnil<|zC<|⟨j+1,by omega,by omega,?_⟩;rw[s1,s2,s3,hbad hvx];refine vk 5
   rw[hvx,if_pos rfl]at hse;refine zB<|zA rfl<|v0s<|veT<|zB<|vT ((j:Int)<(Aa V:Int))<|zK<|zC<|zD<|zB<|zF<|zB<|zA rfl<|vr 2 (ix (j:Int) (Aa V:Int) (Ad (λ(v:Nat)=>iD (v:Int)) V≠[]))<|vp 35 (j) (Ad (λ(v:Nat)=>iD (v:Int)) V)<|vr 1 (0<Aa (Ah j<|Ad (λ(v:Nat)=>iD (v:Int)) V))<|vsh 36 hx<|veT<|zB<|zB<|zA rfl<|veT<|vF ((v:Int)>=(Aa p:Int))<|zK<|zC<|zD<|zB<|vd [1,2,3,4,0,5,6,7,8,9,10,11,12]<|vr 4 (ix (v:Int) (Aa p:Int) (zL p≠[]))<|vs 57 (AS<|Ah (Ap (v:Int)*3)<|zL p) (AS (iD xk::iD xi::strD xs::zL (Ah (v+1) p))) (hd:=by simp(disch:=omega) only[AB,A0,A8,hpx])<|vr 2 (2<=2/\3<=Aa (iD xk::iD xi::strD xs::zL (Ah (v+1) p)))<|vc (hse)<|ve (0<2/\1<2/\Ac=Ac/\Ab=Ab/\2=2/\2<=2)<|zB<|zB<|zA rfl<|veT<|vf<|zK<|zC<|zD<|zA rfl<|vr 2 (2<=2/\Bg (relK (Aa V:Int)<|Ae (Ad rowV<|rstR p (Al j V) 0 R)<|Aa<|rstR p (Al j V) 0 R)=Ac/\Ab=Ab/\2=2/\2<=2)<|vnil<|zE<|zC<|zD<|zA rfl<|vr 2 (i6 ((j:Int)+(1:Int)))<|vnil<|zC<|⟨j+1,by omega,by omega,?_⟩;rw[s1,s2,s3];refine vk 5
  obtain rfl:j=V.length:=by omega
  rw[Bq]at c1 c2 c3 c4 c6 c7⊢;have d1:=zHd (rstV p V) _ rfl;have d2:=zHd (rstC p V 0) _ rfl;have hpj:=zZ6 V.length (rstR p V 0 R) (rstC p V 0) (by omega) (by omega) (λr hr=>(hk r (c4 r hr)).1) (by omega) (λc hc=>by
   have:=zKd p V 0 R c (by rw[zK3];exact hc)
   omega)
  have hpj:Pure Am 63 [relD (V.length:Nat) (rstR p V 0 R), .row (nsD (rstC p V 0)) (rstC p V 0).length] [] (.tup [relD ((rstV p V).length:Nat) (relR ((rstR p V 0 R).map λr=>zR r (rstC p V 0))),iD 0]):=by
   rw[<-c2];exact hpj
  refine zB<|zA rfl<|v0s<|veT<|zB<|vF ((Aa V:Int)<(Aa V:Int))<|zV<|zM<|zM<|zQ rfl<|zC<|zD<|zB<|zA rfl<|vr 2 (2<=2)<|vcl [AD [iD (Aa V:Int),Ae (Ad rowV<|rstR p V 0 R)<|Aa<|rstR p V 0 R],Ae (Al (Aa<|rstC p V 0)<|Ah 0<|AA<|iaK<|nsD<|rstC p V 0)<|Aa<|rstC p V 0] [AD [iD (Aa V:Int),Ae (Ad rowV<|rstR p V 0 R)<|Aa<|rstR p V 0 R],Ae (nsD<|rstC p V 0)<|Aa<|rstC p V 0] (BU (by simp(disch:=omega) only[AN,d2])) (by exact hpj)<|ve (0<2/\1<2/\Bg (relK (Aa V:Int)<|Ae (Ad rowV<|rstR p V 0 R)<|Aa<|rstR p V 0 R)=Ac/\Ab=Ab/\2=2/\2<=2)<|zA rfl<|vr 6 (2<=2/\((1=1/\1<=3/\2=2/\3<=3/\True)/\Ab=Ab)/\(0:Int)<=(i:Int)/\(i:Int)<(Aa A:Int))<|vo0 83 0 (i*3)<|vr 1 (Bg (atK<|filK L<|Aa A)=Ac/\Ab=Ab/\3=3/\i*3+3<=Aa (AA<|atK<|filK L<|Aa A)/\¬0∈[3])<|vb 0 (Ax (setAt (AA<|atK<|filK L<|Aa A) (i*3) [Ae (Al (Aa<|rstV p V)<|Ah 0<|AA<|iaK<|nsD<|rstV p V)<|Aa<|rstV p V,iD (Aa (rstV p V):Int),Ae (Ad rowV<|relR<|Ad (λ(r:List Va)=>zR r (rstC p V 0))<|rstR p V 0 R)<|Aa<|relR<|Ad (λ(r:List Va)=>zR r (rstC p V 0))<|rstR p V 0 R]) (A3<|atK<|filK L<|Aa A) (A4<|atK<|filK L<|Aa A) Ab Ac<|AI<|atK<|filK L<|Aa A) (Ax (AX (AX (AX (filK L<|Aa A) (i*3)<|Ae (nsD<|rstV p V)<|Aa<|rstV p V) (i*3+1)<|iD (Aa (rstV p V):Int)) (i*3+1+1)<|Ae (Ad rowV<|relR<|Ad (λ(r:List Va)=>zR r (rstC p V 0))<|rstR p V 0 R)<|Aa<|relR<|Ad (λ(r:List Va)=>zR r (rstC p V 0))<|rstR p V 0 R) (45:TypeId) 3 Ab Ac Az) (hd:=by simp(disch:=omega) only[setAt,AN,d1])<|vnil<|zE<|zC<|zD<|zA rfl<|vr 2 (i6 ((i:Int)+(1:Int)))<|vnil<|zC<|⟨i+1,by omega,by omega,?_⟩;refine wkn (fr 86 [(1,rowV p),(4,nl),(5,Ai 0 0 (Aa A) (Aa A*3) Ab),(6,iD (i:Int)),(8,AE 2 0),(9,Ai 3 0 (Aa (rstV p V)) (Aa (rstV p V)) Ab),(18,Ae (Ag atN A) (Aa A)),(19,iD (Aa A:Int)),(20,iD (↑(i+1):Int)),(78,Ai 0 0 (Aa A) (Aa A*3) Ab),(79,iD (i:Int)),(80,Ai 3 0 (Aa (rstV p V)) (Aa (rstV p V)) Ab),(81,AD [iD (Aa (rstV p V):Int),Ae (Ad rowV (relR (Ad (λ(r:List Va)=>zR r (rstC p V 0)) (rstR p V 0 R)))) (Aa (relR (Ad (λ(r:List Va)=>zR r (rstC p V 0)) (rstR p V 0 R))))]),(82,AD [Ai 3 0 (Aa (rstV p V)) (Aa (rstV p V)) Ab,iD (Aa (rstV p V):Int),Ae (Ad rowV (relR (Ad (λ(r:List Va)=>zR r (rstC p V 0)) (rstR p V 0 R)))) (Aa (relR (Ad (λ(r:List Va)=>zR r (rstC p V 0)) (rstR p V 0 R))))]),(83,AE 0 (i*3)),(84,iD (↑(i+1):Int))]) [Ax (AX (AX (AX (filK L (Aa A)) (i*3) (Ae (nsD (rstV p V)) (Aa (rstV p V)))) (i*3+1) (iD (Aa (rstV p V):Int))) (i*3+1+1) (Ae (Ad rowV (relR (Ad (λ(r:List Va)=>zR r (rstC p V 0)) (rstR p V 0 R)))) (Aa (relR (Ad (λ(r:List Va)=>zR r (rstC p V 0)) (rstR p V 0 R)))))) (45:TypeId) 3 Ab Ac Az,at1 (Ae (nsD V) (Aa V)) (Ae (Ad rowV R) (Aa R)) (Aa V:Int),Ax [iD (Aa (rstV p V):Int),Ae (Ad rowV (relR (Ad (λ(r:List Va)=>zR r (rstC p V 0)) (rstR p V 0 R)))) (Aa (relR (Ad (λ(r:List Va)=>zR r (rstC p V 0)) (rstR p V 0 R))))] (43:TypeId) 0 Ac Ac Az,Ax (nsD (rstV p V)) (3:TypeId) 1 Ab Ab Az,Ax (nsD (rstC p V 0)) (3:TypeId) 1 Ab Ab Az] ?_;rw[show(((filK L A.length).set (i*3) (Ae (nsD (rstV p V)) (rstV p V).length)).set (i*3+1) (iD ((rstV p V).length:Nat))).set (i*3+1+1) (Ae ((relR ((rstR p V 0 R).map λr=>zR r (rstC p V 0))).map rowV) (relR ((rstR p V 0 R).map λr=>zR r (rstC p V 0))).length)=filK ((A.take (i+1)).map (zBb p)) A.length from hset];refine vk 1
 obtain rfl:i=A.length:=by omega
 rw[Bq];have ha:=filK_all (A.map (zBb p));rw[Aq]at ha;have hl3:((A.map (zBb p)).flatMap atN).length=A.length*3:=by rw[zB5 zAd,Aq]
 have ht:=zFo zAd (A.map (zBb p)) A.length (by rw[Aq]);rw[ha];refine zB<|zA rfl<|v0s<|veT<|zB<|vF ((Aa A:Int)<(Aa A:Int))<|zV<|zM<|zM<|zQ rfl<|zC<|zD<|zB<|zA rfl<|veT<|zJ<|zAy (True) (Ae (Al (Aa A*3)<|Ah 0<|AA<|atK<|Ag atN<|Ad (zBb p) A)<|Aa A) (Ae (Ag atN<|Ad (zBb p) A)<|Aa A) (.inr rfl) (by simp(disch:=omega) only[AN,ht]) rfl
end
def dif(a b:Nat):Nat:=a^^^(a&&&b)
theorem zBo(a b i:Nat):(dif a b).testBit i=(a.testBit i&&!b.testBit i):=by
 unfold dif;rw[Nat.testBit_xor,AW];cases a.testBit i<;>cases b.testBit i<;>rfl
def zEd(al:Nat->Bool)(part:Nat):List Nat->Nat->Nat
 |[],w=>w
 |i::l,w=>if dif (part&&&2^i) w≠0/\al (w|||dif (part&&&2^i) w)=Ab then zEd al part l (w|||dif (part&&&2^i) w)else zEd al part l w
def zA3(kept:List Nat)(o s:Nat):List Nat->List Nat
 |[]=>[]
 |i::l=>if s|||(o&&&2^i)=s then zA3 kept o s l else if kept.any (λk=>dif k (s|||(o&&&2^i))==0)then zA3 kept o s l else(s|||(o&&&2^i))::zA3 kept o s l
def zYd(sets:List Nat)(o:Nat):List Nat:=sets.filter λs=>s&&&o !=0
def zDq(sets:List Nat)(o:Nat):List Nat:=zYd sets o++(sets.filter λs=>s&&&o==0).flatMap λs=>zA3 (zYd sets o) o s (Ar 32)
def zJ8(al:Nat->Bool)(part:Nat):Nat->List Nat->Option (List Nat)
 |0,_=>AO
 |k+1,sets=>match sets.find? al with
  |none=>Av sets
  |some s=>zJ8 al part k (zDq sets (dif part (zEd al part (Ar 32) s)))
theorem zNi{a b:Nat}:a&&&b≠0↔∃i,a.testBit i=Ab/\b.testBit i=true:=by
 constructor
 ·intro h;obtain⟨i,hi⟩:=CJ h;rw[AW,A5]at hi;exact⟨i,hi⟩
 rintro⟨i,h1,h2⟩ h
 have:=congrArg (λn=>n.testBit i) h
 simp[h1,h2]at this
def Sub(a b:Nat):Prop:=∀i,a.testBit i=Ab->b.testBit i=Ab
theorem zVq(a b:Nat):Sub a (a|||b):=λi h=>by rw[AY,h];rfl
theorem zPm{al:Nat->Bool}{part:Nat}:∀(l:List Nat)(w:Nat),Sub w (zEd al part l w)
 |[],w=>λ_ h=>h
 |i::l,w=>by
  unfold zEd;split
  ·exact λj h=>zPm l _ j (zVq w _ j h)
  exact zPm l w
theorem zTc{al:Nat->Bool}{part:Nat}:∀(l:List Nat)(w:Nat),al w=Ab->al (zEd al part l w)=Ab
 |[],w,h=>h
 | i::l,w,h=>by
  unfold zEd;split
  ·rename_i h2;exact zTc l _ h2.2
  exact zTc l w h
theorem zHs{al:Nat->Bool}{part:Nat}:∀(l:List Nat)(w:Nat),Sub w part->Sub (zEd al part l w) part
 |[],w,h=>h
 | i::l,w,h=>by
  unfold zEd;split
  ·refine zHs l _ λj hj=>?_;rw[AY,Bi,zBo,AW]at hj;rcases hj with hj|hj
   ·exact h j hj
   simp only[A5]at hj;exact hj.1.1
  exact zHs l w h
theorem zCn{kept:List Nat}{o s g:Nat}:∀{l:List Nat},g∈zA3 kept o s l->∃i∈l,g=s|||(o&&&2^i)/\g≠s
 |[],h=>by cases h
 | i ::l,h=>by
  unfold zA3 at h;split at h
  ·obtain⟨j,hj,e⟩:=zCn h;exact⟨j,Bf _ hj,e⟩
  rename_i hne;split at h
  ·obtain⟨j,hj,e⟩:=zCn h;exact⟨j,Bf _ hj,e⟩
  rcases AK.1 h with rfl|h
  ·exact⟨i,AV ..,rfl,hne⟩
  obtain⟨j,hj,e⟩:=zCn h;exact⟨j,Bf _ hj,e⟩
theorem zRd{sets:List Nat}{o g:Nat}(h:g∈zDq sets o):∃s∈sets,Sub s g/\g&&&o≠0/\∀i,g.testBit i=Ab->s.testBit i=Ab\/o.testBit i=true:=by
 unfold zDq at h;rcases Bv.1 h with h|h
 ·obtain⟨h1,h2⟩:=AL.1 h;exact⟨g,h1,λ_ k=>k,by simpa using h2,λi hi=> .inl hi⟩
 obtain⟨s,hs,hg⟩:=Bo.1 h;obtain⟨i,_,rfl,hne⟩:=zCn hg;refine⟨s,(AL.1 hs).1,zVq s _,?_,λj hj=>?_⟩
 ·have h0:o&&&2^i≠0:=λe=>hne (by rw[e,Nat.or_zero]);obtain⟨j,hj1,hj2⟩:=zNi.1 h0;exact zNi.2 ⟨j,by rw[AY,AW,hj1,hj2];simp,hj1⟩
 rw[AY,AW,Bi,A5]at hj;exact hj.imp_right λh=>h.1
structure Cnf(al:Nat->Bool)(part:Nat)(Cs sets:List Nat):Prop where
 sub:∀s∈sets,Sub s part
 met:∀s∈sets,∀C∈Cs,s&&&C≠0
 nd:Cs.Nodup
 lt:∀C∈Cs,C<=part
theorem sub_le{a b:Nat}(h:Sub a b):a<=b:=by
 have:a&&&b=a:=BE λi=>by
  rw[AW];cases ha:a.testBit i
  ·rfl
  rw[h i ha];rfl
 rw[<-this];exact Nat.and_le_right
theorem zKl{al:Nat->Bool}{part:Nat}{Cs sets:List Nat}(h:Cnf al part Cs sets){s:Nat}(hs:s∈sets):Cnf al part (dif part (zEd al part (Ar 32) s)::Cs) (zDq sets (dif part (zEd al part (Ar 32) s))) where
 sub g hg i hi:=by
  obtain⟨t,ht,_,_,h3⟩:=zRd hg
  rcases h3 i hi with k|k
  ·exact h.sub t ht i k
  rw[zBo,A5]at k
  exact k.1
 met g hg C hC:=by
  obtain⟨t,ht,h1,h2,_⟩:=zRd hg
  rcases AK.1 hC with rfl|hC
  ·exact h2
  obtain⟨i,k1,k2⟩:=zNi.1 (h.met t ht C hC)
  exact zNi.2 ⟨i,h1 i k1,k2⟩
 nd:=by
  refine B0.2 ⟨λhm=>?_,h.nd⟩
  obtain⟨i,k1,k2⟩:=zNi.1 (h.met s hs _ hm)
  rw[zBo,A5]at k2
  have:=zPm (al:=al) (part:=part) (Ar 32) s i k1
  rw[this]at k2
  cases k2.2
 lt C hC:=by
  rcases AK.1 hC with rfl|hC
  ·exact sub_le λi hi=>by rw[zBo,A5]at hi;exact hi.1
  exact h.lt C hC
theorem zN9:∀(n:Nat)(l:List Nat),l.Nodup->(∀x∈l,x<=n)->l.length<=n+1
 | 0,l,hn,hl=>by
  match l,hn,hl with
  |[],_,_=>exact B4 _
  |[a],_,_=>exact AJ _
  |a::b::l,hn,hl=>
   have h1:=hl a (by simp);have h2:=hl b (by simp);have h3:=(B0.1 hn).1;exact absurd (by rw[show a=b by omega];exact AV ..) h3
 | n+1,l,hn,hl=>by
  have h1:=zN9 n (l.erase (n+1)) (hn.erase _) λx hx=>by
   have h2:=(hn.mem_erase_iff).1 hx
   have:=hl x h2.2
   have:=h2.1
   omega
  by_cases h:n+1∈l
  ·rw[List.length_erase_of_mem h]at h1;omega
  rw[List.erase_of_not_mem h]at h1;omega
theorem zL4{al:Nat->Bool}{part:Nat}:∀(k:Nat)(Cs sets:List Nat),Cnf al part Cs sets->part+1-Cs.length<k->∃r,zJ8 al part k sets=Av r/\∀s∈r,al s=Ac/\Sub s part
 |0,_,_,_,h=>by omega
 | k+1,Cs,sets,h,hk=>by
  unfold zJ8;cases hf:sets.find? al with
  |none=>
   refine⟨sets,rfl,λs hs=>⟨?_,h.sub s hs⟩⟩
   have:=Ch.1 hf s hs
   simpa using this
  |some s=>
   have hs:=Ci hf;have h2:=zKl h hs;have h3:=zN9 part _ h2.nd h2.lt;rw[AR]at h3;exact zL4 k _ _ h2 (by rw[AR];omega)
theorem zEe(al:Nat->Bool)(part:Nat):Cnf al part [] [0] where
 sub s hs i hi:=by
  rw[A2.1 hs,BD]at hi;cases hi
 met s hs C hC:=by cases hC
 nd:=List.nodup_nil
 lt C hC:=by cases hC
theorem Sub.refl(a:Nat):Sub a a:=λ_ h=>h
theorem Sub.trans{a b c:Nat}(h:Sub a b)(k:Sub b c):Sub a c:=λi hi=>k i (h i hi)
theorem Sub.eq{a b:Nat}(h:Sub a b)(k:Sub b a):a=b:=BE λi=>by
 cases ha:a.testBit i
 ·cases hb:b.testBit i
  ·rfl
  rw[k i hb]at ha;cases ha
 rw[h i ha]
theorem zT8{a b:Nat}:a&&&b=0↔∀i,a.testBit i=Ab->b.testBit i=false:=by
 constructor
 ·intro h i hi
  have:=congrArg (λn=>n.testBit i) h
  simpa[hi]using this
 intro h;exact BE λi=>by
  rw[AW,BD];cases ha:a.testBit i
  ·rfl
  rw[h i ha];rfl
theorem dif_z{a b:Nat}:dif a b=0↔Sub a b:=by
 constructor
 ·intro h i hi
  have:=congrArg (λn=>n.testBit i) h
  simp only[zBo,hi,Bool.true_and,BD]at this;simpa using this
 intro h;exact BE λi=>by
  rw[zBo,BD];cases ha:a.testBit i
  ·rfl
  rw[h i ha];rfl
theorem zRl{kept:List Nat}{o s i:Nat}(hne:s|||(o&&&2^i)≠s):∀{l:List Nat},i∈l->(s|||(o&&&2^i))∈zA3 kept o s l\/∃k∈kept,Sub k (s|||(o&&&2^i))
 |[],h=>by cases h
 | j::l,h=>by
  unfold zA3;by_cases hj:j=i
  ·subst hj;rw[if_neg hne];split
   ·rename_i hk;obtain⟨k,hk1,hk2⟩:=Bj.1 hk;exact .inr ⟨k,hk1,dif_z.1 (by simpa using hk2)⟩
   exact .inl (AV ..)
  have hl:i∈l:=(AK.1 h).resolve_left λe=>hj e.symm;have ih:=zRl (kept:=kept) hne hl;split
  ·exact ih
  split
  ·exact ih
  exact ih.imp_left λh=>Bf _ h
theorem zHr{kept:List Nat}{o s g:Nat}:∀{l:List Nat},g∈zA3 kept o s l->∀k∈kept,¬Sub k g
 |[],h=>by cases h
 | i ::l,h=>by
  unfold zA3 at h;split at h
  ·exact zHr h
  split at h
  ·exact zHr h
  rename_i hk;rcases AK.1 h with rfl|h
  ·intro k hk1 hs;exact hk (Bj.2 ⟨k,hk1,by rw[dif_z.2 hs];rfl⟩)
  exact zHr h
structure Mht(part:Nat)(Cs sets:List Nat):Prop where
 hit:∀h,Sub h part->(∀C∈Cs,h&&&C≠0)->∃s∈sets,Sub s h
 anti:∀s∈sets,∀t∈sets,Sub s t->s=t
theorem mht_start(part:Nat):Mht part [] [0] where
 hit h _ _:=⟨0,AV ..,λi hi=>by rw[BD]at hi;cases hi⟩
 anti s hs t ht _:=by rw[A2.1 hs,A2.1 ht]
theorem mht_step{part o:Nat}{Cs sets:List Nat}(h:Mht part Cs sets)(hp:part<2^32):Mht part (o::Cs) (zDq sets o) where
 hit g hg hm:=by
  obtain⟨s,hs,hsg⟩:=h.hit g hg λC hC=>hm C (Bf _ hC)
  by_cases hso:s&&&o=0
  ·obtain⟨i,h1,h2⟩:=zNi.1 (hm o (AV ..))
   have hi:i<32:=by
    apply BI
    intro hn
    have h3:=hg i h1
    have:part<2^i:=Cc hp (Bw (by omega) (by omega))
    rw[CK this]at h3;cases h3
   have hsi:s.testBit i=false:=by
    cases hb:s.testBit i
    ·rfl
    have:=zT8.1 hso i hb
    rw[h2]at this;cases this
   have hgi:(s|||(o&&&2^i)).testBit i=true:=by
    rw[AY,AW,h2,Nat.testBit_two_pow_self];simp
   have hne:s|||(o&&&2^i)≠s:=λe=>by rw[e,hsi]at hgi;cases hgi
   have hsub:Sub (s|||(o&&&2^i)) g:=λj hj=>by
    rw[AY,AW,BA,Bi,A5,decide_eq_true_eq]at hj
    rcases hj with hj|⟨_,hj⟩
    ·exact hsg j hj
    rw[<-hj];exact h1
   rcases zRl (kept:=zYd sets o) hne (AQ.2 hi)with k|⟨k,k1,k2⟩
   ·refine⟨_,B9 _ (Bo.2 ⟨s,AL.2 ⟨hs,by simpa using hso⟩,k⟩),hsub⟩
   exact⟨k,BX _ k1,k2.trans hsub⟩
  exact⟨s,BX _ (AL.2 ⟨hs,by simpa using hso⟩),hsg⟩
 anti a ha b hb hab:=by
  have hcase:∀{g},g∈zDq sets o->(g∈sets/\g&&&o≠0)\/∃s∈sets,s&&&o=0/\(∃i,g=s|||(o&&&2^i)/\g≠s)/\∀k∈zYd sets o,¬Sub k g:=λ{g} hg=>by
   rcases Bv.1 hg with hg|hg
   ·obtain⟨h1,h2⟩:=AL.1 hg
    exact .inl ⟨h1,by simpa using h2⟩
   obtain⟨s,hs,hg⟩:=Bo.1 hg
   obtain⟨h1,h2⟩:=AL.1 hs
   obtain⟨i,_,e,hne⟩:=zCn hg
   exact .inr ⟨s,h1,by simpa using h2,⟨i,e,hne⟩,zHr hg⟩
  have hkept:∀{g},g∈sets->g&&&o≠0->g∈zYd sets o:=λh1 h2=>AL.2 ⟨h1,by simpa using h2⟩
  have hpart:∀{s i:Nat},s&&&o=0->s|||(o&&&2^i)≠s->∀j,(s|||(o&&&2^i)).testBit j=Ab->o.testBit j=Ab->j=i:=λ{s i} hs hne j hj hoj=>by
   rw[AY,AW,BA,Bi,A5,decide_eq_true_eq]at hj
   rcases hj with hj|⟨_,hj⟩
   ·have:=zT8.1 hs j hj
    rw[hoj]at this;cases this
   exact hj.symm
  have hbit:∀{s i:Nat},s|||(o&&&2^i)≠s->o.testBit i=true:=λ{s i} hne=>by
   apply BI
   intro hn
   refine hne (BE λj=>?_)
   rw[AY,AW,BA]
   by_cases hj:i=j
   ·subst hj
    rw[Bool.not_eq_true]at hn
    rw[hn];simp
   rw[decide_eq_false hj];simp
  rcases hcase ha with⟨a1,a2⟩|⟨s,s1,s2,⟨i,ea,na⟩,ka⟩
  ·rcases hcase hb with⟨b1,b2⟩|⟨t,t1,t2,⟨j,eb,nb⟩,kb⟩
   ·exact h.anti a a1 b b1 hab
   exact absurd hab (kb a (hkept a1 a2))
  rcases hcase hb with⟨b1,b2⟩|⟨t,t1,t2,⟨j,eb,nb⟩,kb⟩
  ·have hsa:Sub s a:=by rw[ea];exact zVq s _
   have:=h.anti s s1 b b1 (hsa.trans hab)
   rw[this]at s2
   exact absurd s2 b2
  rw[ea]at na hab
  rw[eb]at nb hab
  have hoi:=hbit na
  have hii:(s|||(o&&&2^i)).testBit i=true:=by
   rw[AY,AW,hoi,Nat.testBit_two_pow_self];simp
  have hij:=hpart t2 nb i (hab i hii) hoi
  subst hij
  have hst:Sub s t:=λq hq=>by
   have h1:=hab q (zVq s _ q hq)
   rw[AY,AW,Bi,A5]at h1
   rcases h1 with h1|⟨h1,_⟩
   ·exact h1
   have:=zT8.1 s2 q hq
   rw[h1]at this;cases this
  have:=h.anti s s1 t t1 hst
  subst this
  rw[ea,eb]
def MinC(al:Nat->Bool)(part m:Nat):Prop:=Sub m part/\al m=Ac/\∀t,Sub t m->al t=Ac->t=m
theorem zXf{al:Nat->Bool}{part:Nat}(hmo:∀a b,Sub a b->al b=Ab->al a=Ab)(hp:part<2^32):∀(k:Nat)(Cs sets r:List Nat),Cnf al part Cs sets->Mht part Cs sets->(∀C∈Cs,al (dif part C)=Ab)->zJ8 al part k sets=Av r->∀m,m∈r↔MinC al part m
 |0,_,_,_,_,_,_,h=>by cases h
 | k +1,Cs,sets,r,hc,hm,ha,h=>by
  unfold zJ8 at h;cases hf:sets.find? al with
  | none=>
   rw[hf]at h;cases h;have hno:∀s∈sets,al s=false:=λs hs=>by simpa using Ch.1 hf s hs
   have hhit:∀m,Sub m part->al m=Ac->∃s∈sets,Sub s m:=λm h1 h2=>hm.hit m h1 λC hC hz=>by
    have h3:Sub m (dif part C):=λi hi=>by
     rw[zBo,h1 i hi,zT8.1 hz i hi];rfl
    rw[hmo m _ h3 (ha C hC)]at h2;cases h2
   intro m;constructor
   ·intro hms;refine⟨hc.sub m hms,hno m hms,λt ht hta=>?_⟩;obtain⟨s,hs,hst⟩:=hhit t (ht.trans (hc.sub m hms)) hta
    have:=hm.anti s hs m hms (hst.trans ht)
    subst this;exact ht.eq hst
   rintro⟨h1,h2,h3⟩;obtain⟨s,hs,hsm⟩:=hhit m h1 h2;rw[<-h3 s hsm (hno s hs)];exact hs
  | some s=>
   rw[hf]at h;have hs:=Ci hf;have has:al s=true:=List.find?_some hf;have hgp:=zHs (al:=al) (part:=part) (Ar 32) s (hc.sub s hs);have hdd:dif part (dif part (zEd al part (Ar 32) s))=zEd al part (Ar 32) s:=BE λi=>by
    rw[zBo,zBo];cases h1:(zEd al part (Ar 32) s).testBit i
    ·cases part.testBit i<;>rfl
    rw[hgp i h1];rfl
   refine zXf hmo hp k _ _ r (zKl hc hs) (mht_step hm hp) (λC hC=>?_) h;rcases AK.1 hC with rfl|hC
   ·rw[hdd];exact zTc _ _ has
   exact ha C hC
section
open Go.RowKit
def SatS(A:List (List Nat×List Rw))(s:Nat)(τ:Nat->Va):Prop:=∀i,i<A.length->s.testBit i=Ab->(A.getD i Af).1.map τ∈(A.getD i Af).2
noncomputable def alB (A:List (List Nat×List Rw)) (s:Nat):Bool:=@decide (∃τ,SatS A s τ) (BG _)
theorem zSh{A:List (List Nat×List Rw)}{s:Nat}:alB A s=Ab↔∃τ,SatS A s τ:=by
 unfold alB;exact@decide_eq_true_iff _ (BG _)
theorem zKr(A:List (List Nat×List Rw)):∀a b,Sub a b->alB A b=Ab->alB A a=true:=λa b h hb=>by
 obtain⟨τ,hτ⟩:=zSh.1 hb;exact zSh.2 ⟨τ,λi hi hs=>hτ i hi (h i hs)⟩
def zDu(A:List (List Nat×List Rw))(s:Nat):List (List Nat×List Rw):=((Ar A.length).filter λi=>s.testBit i).map λi=>A.getD i Af
theorem sat_chos{A:List (List Nat×List Rw)}{s:Nat}{τ:Nat->Va}:SatA (zDu A s) τ↔SatS A s τ:=by
 unfold SatA zDu SatS;constructor
 ·intro h i hi hs;exact h _ (As.2 ⟨i,AL.2 ⟨AQ.2 hi,hs⟩,rfl⟩)
 intro h a ha;obtain⟨i,hi,rfl⟩:=As.1 ha;obtain⟨h1,h2⟩:=AL.1 hi;exact h i (AQ.1 h1) h2
theorem alB_0(A:List (List Nat×List Rw)):alB A 0=true:=zSh.2 ⟨λ_=>Af,λi _ h=>by rw[BD]at h;cases h⟩
def ClosP(A:List (List Nat×List Rw))(P:Nat):Prop:=∀i j,i<A.length->j<A.length->P.testBit i=Ab->P.testBit j=Ac->∀v∈(A.getD i Af).1,v∉(A.getD j Af).1
theorem al_split{A:List (List Nat×List Rw)}{P:Nat}(hc:ClosP A P){m:Nat}(h1:alB A (m&&&P)=Ab)(h2:alB A (dif m P)=Ab):alB A m=true:=by
 obtain⟨τ,hτ⟩:=zSh.1 h1;obtain⟨υ,hυ⟩:=zSh.1 h2;refine zSh.2 ⟨λv=>@ite _ (∃i,i<A.length/\P.testBit i=Ab/\v∈(A.getD i Af).1) (BG _) (τ v)<|υ v,λi hi hm=>?_⟩;cases hp:P.testBit i
 ·have e:(A.getD i Af).1.map (λv=>@ite _ (∃i,i<A.length/\P.testBit i=Ab/\v∈(A.getD i Af).1) (BG _) (τ v) (υ v))=(A.getD i Af).1.map υ:=BH λv hv=>by
   refine@if_neg _ (BG _) ?_ _ _ _;rintro⟨j,hj,hpj,hvj⟩;exact hc j i hj hi hpj hp v hvj hv
  rw[e];exact hυ i hi (by rw[zBo,hm,hp];rfl)
 have e:(A.getD i Af).1.map (λv=>@ite _ (∃i,i<A.length/\P.testBit i=Ab/\v∈(A.getD i Af).1) (BG _) (τ v) (υ v))=(A.getD i Af).1.map τ:=BH λv hv=>@if_pos _ (BG _) ⟨i,hi,hp,hv⟩ _ _ _;rw[e];exact hτ i hi (by rw[AW,hm,hp];rfl)
theorem and_sub(a b:Nat):Sub (a&&&b) a:=λi h=>by rw[AW,A5]at h;exact h.1
theorem and_sub2(a b:Nat):Sub (a&&&b) b:=λi h=>by rw[AW,A5]at h;exact h.2
theorem zPu(a b:Nat):Sub (dif a b) a:=λi h=>by rw[zBo,A5]at h;exact h.1
theorem minc_part{A:List (List Nat×List Rw)}{parts:List Nat}{full:Nat}(hf:∀i,full.testBit i=Ab↔i<A.length)(hc:∀P∈parts,ClosP A P/\Sub P full)(hcov:∀i,i<A.length->∃P∈parts,P.testBit i=Ab)(m:Nat):MinC (alB A) full m↔∃P∈parts,MinC (alB A) P m:=by
 constructor
 ·rintro⟨h1,h2,h3⟩;have hne:m≠0:=λe=>by rw[e,alB_0]at h2;cases h2
  obtain⟨i,hi⟩:=CJ hne;obtain⟨P,hP,hPi⟩:=hcov i ((hf i).1 (h1 i hi));refine⟨P,hP,?_,h2,h3⟩;cases ha:alB A (m&&&P)
  ·have:=h3 _ (and_sub m P) ha
   rw[<-this];exact and_sub2 m P
  cases hb:alB A (dif m P)
  ·have:=h3 _ (zPu m P) hb
   have h4:(dif m P).testBit i=true:=by rw[this];exact hi
   rw[zBo,hPi]at h4;simp at h4
  rw[al_split (hc P hP).1 ha hb]at h2;cases h2
 rintro⟨P,hP,h1,h2,h3⟩;exact⟨h1.trans (hc P hP).2,h2,h3⟩
end
section
open Go.RowKit
attribute [local irreducible] seqW awp zW zX zP Weak updS zZ retL Pure Acts rP setP setQ cP nP fr
set_option maxRecDepth 4096
section
variable {α : Type} (g : α → List D) (z : List D)
def filG(L:List α)(n:Nat):List D:=L.flatMap g++repL (n-L.length) z
variable {g z} {c : Nat} (hg : ∀ a, (g a).length = c) (hz : z.length = c)
theorem zRq(n:Nat):repL n z=filG g z [] n:=by simp[filG]
theorem zGd(L:List α):filG g z L L.length=L.flatMap g:=by simp[filG,repL]
include hg hz
theorem zGb(L:List α)(n:Nat)(a:α)(h:L.length<n):setAt (filG g z L n) (L.length*c) (g a)=filG g z (L++[a]) n:=by
 obtain⟨m,hm⟩:∃m,n-L.length=m+1:=⟨n-L.length-1,by omega⟩;have e:(L.flatMap g).length=L.length*c:=zB5 hg L;have e2:n-(L++[a]).length=m:=by rw[AM,BJ];omega
 unfold filG;rw[hm,zD4,e2,BC,Cg];have h5:=zCi (g a) z (L.flatMap g) (repL m z) (by rw[hg,hz]);rw[e]at h5;rw[<-BM,h5]
theorem zGc{L:List α}{n:Nat}(h:L.length<=n):(filG g z L n).length=n*c:=by
 have e:(L.flatMap g).length=L.length*c:=zB5 hg L;have e2:∀k,(repL k z).length=k*c:=λk=>by
  induction k with
  |zero=>simp[repL]
  |succ k ih=>rw[zD4,AM,ih,hz,Nat.succ_mul];omega
 unfold filG;rw[AM,e,e2,<-Nat.add_mul,Nat.add_sub_cancel' h]
end
abbrev zFa:List D:=[.val (.slice AO 0 0), .val (.slice AO 0 0), .val (.slice AO 0 0)]
theorem zNx(a:List Nat×List Rw):(rnAB a).length=3:=rfl
theorem fromA_c(a:List Nat×List Rw)(hv:a.1.length<=1000)(hr:a.2.length<=1000)(hl:∀r∈a.2,r.length<=2000000):Pure Am 87 [booD, .agg (atN a)] [] (.agg (rnAB a)):=by
 have h:=fromB_c (rnA a) (by rw[show(rnA a).V.length=a.1.length by simp[rnA,intL]];exact hv) hr hl;rw[afC_rnA]at h;exact h
set_option maxHeartbeats 4000000 in
theorem zRr(A:List (List Nat×List Rw))(hA:A.length<=1000)(h:∀a∈A,a.1.length<=1000/\a.2.length<=1000/\∀r∈a.2,r.length<=2000000):Pure Am 68 [.row (A.flatMap atN) A.length] [] (.row (A.flatMap rnAB) A.length):=by
 have r0:repL A.length zFa=filG rnAB zFa [] A.length:=zRq A.length;refine zG (T:=Tc) (zVe _ _ _) mixed Tryz.func68 rfl<|zB<|zA rfl<|v0s<|veT<|zB<|zA rfl<|ve ((0:Int)<=(Aa A:Int)/\(Aa A:Int)<=(Aa A:Int)/\(↑(72:Nat):Int)*(Aa A:Int)<=(281474976710656:Int)/\(Aa A:Int)<=(281474976710656:Int)/\0<3/\3=3)<|zB<|zB<|zA rfl<|veT<|zF<|zS (λ(i:Nat)=>fr 25 [(2,nl),(3,Ai 0 0 (Aa A) (Aa A*3) Ab),(9,Ae (Ag atN A)<|Aa A),(10,iD (Aa A:Int)),(11,iD (i:Int))]) (λ(i:Nat)=>[fsBB<|filG rnAB zFa (A.take i) A.length]) (λi=>A.length-i) (λ(i:Nat)=>i<=A.length) 0 ?_ ?_ ?_
 ·omega
 ·refine vk 1
 rintro i h1;rcases Aw i A.length with h2|h2
 ·have hm:=zAf A Af i h2;have hg:=zHt zAd A i h2;have hle:=zFe zAd A i h2;have hne:=zFd zAd (by decide) A;have htk:=zA1 A i h2;have hlt:(A.take i).length=i:=by rw[AZ];omega
  have hset:=zGb (z:=zFa) zNx rfl (A.take i) A.length (A.getD i Af) (by omega);have hfl:=zGc (L:=A.take i) (z:=zFa) (n:=A.length) zNx rfl (by omega);obtain⟨k1,k2,k3⟩:=h _ hm;have hfr:=fromA_c _ k1 k2 k3;rw[hlt,<-htk]at hset;generalize A.getD i Af=a at*;generalize A.take i=L at*;refine zB<|zA rfl<|v0s<|veT<|zB<|vT ((i:Int)<(Aa A:Int))<|zK<|zC<|zD<|zB<|zF<|zB<|zA rfl<|vr 2 (ix (i:Int) (Aa A:Int) (Ag atN A≠[]))<|vs 14 (AS<|Ah (Ap (i:Int)*3)<|Ag atN A) (AS (Ae (Ad (λ(v:Nat)=>iD (v:Int))<|A1 a) (Aa<|A1 a)::iD (Aa (A1 a):Int)::Ae (Ad rowV<|Br a) (Aa<|Br a)::Ag atN (Ah (i+1) A))) (hd:=by simp(disch:=omega) only[AB,A0,A8,hg])<|ve (3<=Aa (Ae (Ad (λ(v:Nat)=>iD (v:Int))<|A1 a) (Aa<|A1 a)::iD (Aa (A1 a):Int)::Ae (Ad rowV<|Br a) (Aa<|Br a)::Ag atN (Ah (i+1) A))/\Ac=Ac/\Ab=Ab/\3=3/\3<=3)<|zA rfl<|vr 5 ((True/\Ab=Ab)/\3<=3)<|vc (hfr)<|vr 1 ((0:Int)<=(i:Int)/\(i:Int)<(Aa A:Int))<|vo0 22 0 (i*3)<|vr 1 (Bg (fsBB<|filG rnAB zFa L<|Aa A)=Ac/\Ab=Ab/\3=3/\i*3+3<=Aa (AA<|fsBB<|filG rnAB zFa L<|Aa A)/\¬0∈[])<|vnil<|zE<|zC<|zD<|zA rfl<|vr 2 (i6 ((i:Int)+(1:Int)))<|vnil<|zC<|⟨i+1,by omega,by omega,?_⟩;refine wkn (fr 25 [(2,nl),(3,Ai 0 0 (Aa A) (Aa A*3) Ab),(4,iD (i:Int)),(5,AE 1 0),(9,Ae (Ag atN A) (Aa A)),(10,iD (Aa A:Int)),(11,iD (↑(i+1):Int)),(16,Ai 0 0 (Aa A) (Aa A*3) Ab),(17,iD (i:Int)),(18,AD []),(19,D.ifc 129 (AD [])),(20,AD [Ae (Ad (λ(v:Nat)=>iD (v:Int)) (A1 a)) (Aa (A1 a)),iD (Aa (A1 a):Int),Ae (Ad rowV (Br a)) (Aa (Br a))]),(21,AD [Ae (Ad (λ(z:Int)=>iD z) (Rn.V (rn1 (rnA a)))) (Aa (Rn.V (rn1 (rnA a)))),Ae (Ad rowV (Rn.R (rn1 (rnA a)))) (Aa (Rn.R (rn1 (rnA a)))),Ae (Ad (λ(x:Nat)=>bD (g0 x)) (Rn.W (rn1 (rnA a)))) (Aa (Rn.W (rn1 (rnA a))))]),(22,AE 0 (i*3)),(23,iD (↑(i+1):Int))]) [Ax (AX (AX (AX (filG rnAB zFa L (Aa A)) (i*3) (Ae (Ad (λ(z:Int)=>iD z) (Rn.V (rn1 (rnA a)))) (Aa (Rn.V (rn1 (rnA a)))))) (i*3+1) (Ae (Ad rowV (Rn.R (rn1 (rnA a)))) (Aa (Rn.R (rn1 (rnA a)))))) (i*3+1+1) (Ae (Ad (λ(x:Nat)=>bD (g0 x)) (Rn.W (rn1 (rnA a)))) (Aa (Rn.W (rn1 (rnA a)))))) (133:TypeId) 3 Ab Ac Az,Ax [Ae (Ad (λ(v:Nat)=>iD (v:Int)) (A1 a)) (Aa (A1 a)),iD (Aa (A1 a):Int),Ae (Ad rowV (Br a)) (Aa (Br a))] 45 0 Ac Ac Az] ?_;rw[show(((filG rnAB zFa L A.length).set (i*3) _).set (i*3+1) _).set (i*3+1+1) _=filG rnAB zFa (A.take (i+1)) A.length from hset];refine vk 1
 obtain rfl:i=A.length:=by omega
 rw[Bq];have ha:filG rnAB zFa A A.length=A.flatMap rnAB:=zGd A;have ht:=zFo zNx A A.length rfl;rw[ha];refine zB<|zA rfl<|v0s<|veT<|zB<|vF ((Aa A:Int)<(Aa A:Int))<|zV<|zM<|zM<|zQ rfl<|zC<|zD<|zB<|zA rfl<|veT<|zJ<|zAy (True) (Ae (Al (Aa A*3)<|Ah 0<|AA<|fsBB<|Ag rnAB A)<|Aa A) (Ae (Ag rnAB A)<|Aa A) (.inr rfl) (by simp(disch:=omega) only[AN,ht]) rfl
set_option maxHeartbeats 4000000 in
theorem chosen_c(A:List (List Nat×List Rw))(hA:A.length<=32)(s:Nat)(hs:s<4294967296):Pure Am 45 [.row (A.flatMap atN) A.length,u32D s] [] (.row ((zDu A s).flatMap atN) (zDu A s).length):=by
 refine zG zAm mixed Tryz.func45 rfl<|zB<|zA rfl<|v0s<|veT<|zB<|zA rfl<|ve (True/\0<3/\3=3/\0<=16777216/\0<=9223372036854775807)<|zB<|zB<|zA rfl<|veT<|zF<|zAw (λ(i:Nat)(L:List (List Nat×List Rw))=>fr 27 [(1,u32D s),(4,nl),(5,Ai 0 0 (Aa L) (Aa L*3) Ab),(9,Ae (Ag atN A)<|Aa A),(10,iD (Aa A:Int)),(11,iD (i:Int))]) (λ(i:Nat)(L:List (List Nat×List Rw))=>[atK<|L.flatMap atN]) (λi L=>A.length-i) (λ(i:Nat)(L:List (List Nat×List Rw))=>i<=A.length/\L=((Ar i).filter λi=>s.testBit i).map λi=>A.getD i Af) 0 [] ?_ ?_ ?_
 ·exact⟨by omega,rfl⟩
 ·refine vk 1
 rintro i L ⟨h1,h2⟩;have hL:L.length<=32:=by
  rw[h2,Aq]
  have:=Bn (λi=>s.testBit i) (Ar i)
  rw[BV]at this;omega
 have hcl:(L.flatMap atN).length=L.length*3:=zB5 zAd L;rcases Aw i A.length with h3|h3
 ·have hg:=zHt zAd A i h3;have hle:=zFe zAd A i h3;have hne:=zFd zAd (by decide) A;have hsu:((Ar (i+1)).filter λi=>s.testBit i).map (λi=>A.getD i Af)=if s.testBit i then L++[A.getD i Af]else L:=by
   rw[BF,Bt,Bl,<-h2,Bm];cases s.testBit i<;>simp
  have w1:=zEo s (v:=i) (by omega);have w2:=zR8 hs i;have w3:=bit_w hs i;generalize A.getD i Af=a at*;focus
   refine zB<|zA rfl<|v0s<|veT<|zB<|vT ((i:Int)<(Aa A:Int))<|zK<|zC<|zD<|zB<|zF<|zB<|zA rfl<|vr 2 (ix (i:Int) (Aa A:Int) (Ag atN A≠[]))<|vs 14 (AS<|Ah (Ap (i:Int)*3)<|Ag atN A) (AS (Ae (Ad (λ(v:Nat)=>iD (v:Int))<|A1 a) (Aa<|A1 a)::iD (Aa (A1 a):Int)::Ae (Ad rowV<|Br a) (Aa<|Br a)::Ag atN (Ah (i+1) A))) (hd:=by simp(disch:=omega) only[AB,A0,A8,hg])<|ve (3<=Aa (Ae (Ad (λ(v:Nat)=>iD (v:Int))<|A1 a) (Aa<|A1 a)::iD (Aa (A1 a):Int)::Ae (Ad rowV<|Br a) (Aa<|Br a)::Ag atN (Ah (i+1) A))/\Ac=Ac/\Ab=Ab/\3=3/\3<=3)<|zB<|zA rfl<|vr 3 ((0:Int)<=(i:Int))<|vs 18 (Ao<|An Ak<|Bd (s:Int) ((2:Int)^min (Ap (i:Int)) 32)) (dig (s>>>i)) (hd:=by simp(disch:=omega) only[AB,w1])<|vrT 1<|vs 19 (Ao<|An Ak<|AF Ak (↑(Ay (Aj 32 (↑(s>>>i):Int)&&&Aj 32 (1:Int))):Int)) (dig<|Ay (Aj 32 (↑(s>>>i):Int)&&&Aj 32 (1:Int))) (hd:=by simp(disch:=omega) only[zA5])<|vrT 1<|vs 20 (bD ((↑(Ay (Aj 32 (↑(s>>>i):Int)&&&Aj 32 (1:Int))):Int)==(1:Int))) (bD<|Cj s i) (hd:=by simp(disch:=omega) only[w2])<|veT<|zAr (t:=Cj s i) (by kernel_rfl) (λhc=>?_)<|λhc=>?_;refine zA rfl<|vr 5 (3<=3/\((3=3/\3<=3/\True)/\0<3/\3=3/\3<=16777216/\1<=9223372036854775807)/\A9 (atK<|Ag atN L)=Ab/\Aa (AA<|atK<|Ag atN L)=Aa L*3/\Aa L*3=Aa L*3/\A3 (atK<|Ag atN L)=45/\A4 (atK<|Ag atN L)=3/\3=3/\0<3/\0<56/\45=45/\(Aa L+1)*56<=140737488355328/\3=3/\A_ (AI<|atK<|Ag atN L)=Ac/\(Ac=Ac\/Ba (AI<|atK<|Ag atN L)=Ab))<|vnil<|zE<|zC<|zD<|zA rfl<|vr 2 (i6 ((i:Int)+(1:Int)))<|vnil<|zC ?_;rotate_left;refine zK<|zE<|zC<|zD<|zA rfl<|vr 2 (i6 ((i:Int)+(1:Int)))<|vnil<|zC ?_;rotate_left
  ·have hc2:s.testBit i=true:=by assumption
   rw[hc2,if_pos rfl]at hsu;refine⟨i+1,L++[a],⟨by omega,hsu.symm⟩,by omega,?_⟩;rw[BC,Cg,AM,BJ];refine vk 1
  have hc2:s.testBit i=false:=by assumption
  rw[hc2,if_neg (by decide)]at hsu;refine⟨i+1,L,⟨by omega,hsu.symm⟩,by omega,?_⟩;refine vk 1
 obtain rfl:i=A.length:=by omega
 have h2:L=zDu A s:=h2;subst h2;have ht:=zFo zAd (zDu A s) _ rfl;refine zB<|zA rfl<|v0s<|veT<|zB<|vF ((Aa A:Int)<(Aa A:Int))<|zV<|zM<|zM<|zQ rfl<|zC<|zD<|zB<|zA rfl<|veT<|zJ<|zAy (True) (Ae (Al (Aa (zDu A s)*3)<|Ah 0<|AA<|atK<|Ag atN<|zDu A s)<|Aa<|zDu A s) (Ae (Ag atN<|zDu A s)<|Aa<|zDu A s) (.inr rfl) (by simp(disch:=omega) only[AN,ht]) rfl
end
section
open Go.RowKit Go.Sort Go.Lib Go.Shelf
section
variable {P : Program} {st : List Bk}
theorem acts_rowP{f:FuncId}{k n:Nat}{e:Bk}{wh:Bool}{ds':List D}(he:st[k]?=Av e)(ha:e.arr=Ab)(hkd:e.kd= .plain)(hf:e.fz=Ac)(hlen:e.cells.length=n)(hl':ds'.length=n)(hpos:0<n)
  (h:∀(I:Im) b c w us,ImB I w->(∀j,¬I b j)->RelL I w noB e.cells us->(∃cur t,w.heap[b]?=Av (.cells cur t (0,0)))->(∀j,j<n->w.cell? ⟨b,0+j,AO⟩=Av (us.getD j undef))->(∀j,j<n->w.frozen? ⟨b,0+j,AO⟩=Ac)->n<=c->Calls P f #[.slice (Av ⟨b,0,AO⟩) n c] w λx w'=>x= .returned (.tuple #[])/\∃vs q os,w'=grow ((w.drewN q).setCells b 0 vs) os/\RelL I w noB ds' vs):
  Acts P f [.osl k 0 n n wh] st [] (.val (.tuple #[])) (st.set k {e with cells:=ds'}):=by
 intro β I w xs hr hsr hinj hfz hdom hi hg;simp only[RelT]at hr;obtain⟨v,ys,rfl,hr,rfl⟩:=hr;simp only[Rel]at hr;rcases hr with⟨e0,_,rfl⟩|⟨e0,_,_,a,c,rfl,_⟩|⟨b,c,cap,hb,rfl,k1,k2,k3⟩
 ·omega
 ·omega
 have hs0:Sim β I w ([]:List D) st ({tmps:=#[],defers:=[]}:Act).tmps.toList:=⟨by simp only[RelT],hsr,hinj,hfz,hdom,hi,hg⟩;have hni:e.kd.isMap=false:=by rw[hkd];rfl
 have hnob:e.nob=true:=by unfold Bk.nob;rw[hkd,ha];rfl
 obtain⟨e',he',ho⟩:=hs0.sr k b c hb;rw[he]at he';cases he';obtain⟨cur,c1,c2,c3,c4⟩:=ho.c hni;rw[hnob]at c3;simp only[if_true]at c3;have hno:∀j,¬I b j:=λj hij=>by
  have:=(hs0.fz k b c j e hb he hij).1
  rw[hf]at this;cases this
 have hlc:(cur.take e.cells.length).length=n:=by rw[<-c3.length];exact hlen
 have hcell:∀j,j<n->w.cell? ⟨b,0+j,AO⟩=Av ((cur.take e.cells.length).getD j undef)/\w.frozen? ⟨b,0+j,AO⟩=false:=λj hj=>by
  have hlt:j<cur.length:=by rw[AZ]at hlc;omega
  refine⟨?_,frozen_of_row w b (0+j) cur.toArray e.ty c1⟩;rw[Au,Ck,if_pos (by omega),AC hlt];simp[World.cell?,c1,hlt]
 refine(h I b cap w (cur.take e.cells.length) hs0.imb hno c3 ⟨_,_,c1⟩ (λj hj=>(hcell j hj).1) (λj hj=>(hcell j hj).2) k1).mono ?_;rintro x w' ⟨rfl,vs,q,os,rfl,hvs⟩;have hvs':RelL (fixI I β st []) (w.drewN q) (if e.nob then noB else β) ds' vs:=by
  rw[hnob];simp only[if_true];exact RelL.mono ((Fix.drew I w q).trans (zAg [])) _ _ (BeLe.refl _) _ _ hvs
 obtain⟨s1,s2,s3⟩:=(hs0.drew q).put (off:=0) (cs:=ds') (vs:=vs) (ks:=[]) hb he hf hni (by simp) hvs' (by omega) AO undef;have hset2:setAt e.cells 0 ds'=ds':=zG4 e.cells ds' [] (by omega);rw[hset2]at s1;have s4:=s1.grow os;exact⟨_,β,_,rfl,s4.imb,(Stp.drew β _ w q).trans (s2.trans (Stp.grow s1.imb β os)),λ_ _ _ h=>h,s4.sr,s4.inj,s4.fz,s4.dom,by simp only[Rel]⟩
theorem acts_row0{f:FuncId}{k:Nat}{wh:Bool}(h0:∀a c w,Calls P f #[.slice a 0 c] w λx w'=>x= .returned (.tuple #[])/\w'=w):Acts P f [.osl k 0 0 0 wh] st [] (.val (.tuple #[])) st:=by
 intro β I w xs hr hsr hinj hfz hdom hi hg;simp only[RelT]at hr;obtain⟨v,ys,rfl,hr,rfl⟩:=hr;have:∃a c,v= .slice a 0 c:=by
  simp only[Rel]at hr;grind
 obtain⟨a,c,rfl⟩:=this;refine(h0 a c w).mono ?_;rintro x w' ⟨rfl,rfl⟩;exact⟨_,β,I,rfl,hi,Stp.refl _ _ _,λ_ _ _ h=>h,hsr,hinj,hfz,hdom,by simp only[Rel]⟩
end
def zFc{α:Type}(c:α->α->Int)(l:List α):List α:=l.mergeSort λa b=>decide (c a b<=0)
section
variable {α : Type} {c : α → α → Int}
theorem zH7(l:List α):(zFc c l).Perm l:=List.mergeSort_perm _ _
theorem Cm.le_tr(hc:Cm c){a b d:α}(h:c a b<=0)(k:c b d<=0):c a d<=0:=by
 by_cases e1:c a b=0
 ·rw[(hc.eq a b).1 e1];exact k
 by_cases e2:c b d=0
 ·rw[<-(hc.eq b d).1 e2];exact h
 have:=hc.tr a b d (by omega) (by omega);omega
theorem zQk(hc:Cm c)(l:List α):(zFc c l).Pairwise λa b=>¬c b a<0:=by
 have:=List.pairwise_mergeSort (le:=λa b=>decide (c a b<=0)) (λa b d h k=>by
  simp only[decide_eq_true_eq]at*;exact hc.le_tr h k) (λa b=>by
  have:=hc.neg a b
  simp only[Bi,decide_eq_true_eq];omega) l
 refine this.imp λ{a b} h=>?_
 have:=hc.neg a b
 grind
theorem ddG_sort[DecidableEq α](hc:Cm c)(l:List α):ddG (zFc c l)=setG c l:=by
 rw[zYj hc (zQk hc l)];grind [zX3,zH7]
end
theorem zQl(l:List Int):zFc icmp l=l.mergeSort λx y=>decide (x<=y):=by
 grind [zFc,icmp]
theorem zLr(zs:List Int):zs.map intD=(zs.map (An .i64)).map .val:=by simp
theorem zZu{st:List Bk}{k n:Nat}{e:Bk}{wh:Bool}{zs:List Int}(he:st[k]?=Av e)(ha:e.arr=Ab)(hkd:e.kd= .plain)(hf:e.fz=Ac)(hc:e.cells=zs.map intD)(hn:zs.length=n)(hb:n<=1000000000):
  Acts Am 65 [.osl k 0 n n wh] st [] (.val (.tuple #[])) (st.set k {e with cells:=(zFc icmp zs).map intD}):=by
 have hsl:(zFc icmp zs).length=n:=by rw[(zH7 zs).length_eq,hn]
 rcases Nat.eq_zero_or_pos n with h0|hpos
 ·subst h0;obtain rfl:zs=[]:=CO hn;have e1:({e with cells:=(zFc icmp []).map intD}:Bk)=e:=by
   rw[show(zFc icmp ([]:List Int))=[] by rw[zQl];simp,<-hc]
  rw[e1];have e2:st.set k e=st:=by
   apply List.ext_getElem?;grind
  grind [acts_row0,Tryz.slices_Sort_int_none]
 refine acts_rowP he ha hkd hf (by rw[hc,Aq,hn]) (by rw[Aq,hsl]) hpos ?_;intro I b c w us hi hno hr hcur hcell hfr hcap;rw[hc,zLr]at hr;obtain rfl:=zG8 hr;have hH:Holds (An .i64) w b 0 zs.toArray:=λj hj=>by
  grind
 have hblk:b<w.heap.size:=by
  grind
 have:=Tryz.slices_Sort_int b 0 c zs w hH hblk (by omega)
 rw[hn]at this;refine this.mono ?_;rintro x w' ⟨rfl,q,os,rfl⟩;refine⟨rfl,(zFc icmp zs).map (An .i64),q,os,?_,?_⟩
 ·rw[<-zQl,putRow_eq_setCells (An .i64) w b 0 zs.toArray (zFc icmp zs) q hH (by simp[hsl,hn])]
 rw[zLr];exact zB4 λv hv=>by obtain⟨z,_,rfl⟩:=As.1 hv;rfl
end
section
open Go.RowKit
attribute [local irreducible] seqW awp zW zX zP Weak updS zZ retL Pure Acts rP setP setQ cP nP fr
set_option maxRecDepth 4096
theorem getD_getY{α:Type}{l:List α}{i:Nat}(d:α)(h:i<l.length):l.getD i d=l[i]:=by grind
theorem zNn{α:Type}{a b:List α}{i:Nat}(d:α)(ha:i<a.length)(hb:i<b.length)(h:a.take i=b.take i)(k:a.getD i d=b.getD i d):a.take (i+1)=b.take (i+1):=by
 grind [BN,getD_getY]
theorem cint_cY(a b:Int):Pure Am 79 [intD a,intD b] [] (intD (Lib.compareInt a b)):=
 zCl (us:=[.int .i64 a, .int .i64 b]) (λw=>(Tryz.cmp_Compare_int a b w).mono λe w' h=>⟨h.1,h.2.symm⟩)
set_option maxHeartbeats 1000000 in
theorem scmp_cY(a b:List Int)(n m:Nat)(hn:a.length=n)(hm:b.length=m)(ha:n<=1000000000)(hb:m<=1000000000):Pure Am 59 [.row (a.map intD) n, .row (b.map intD) m] [] (intD (lcmp a b)):=by
 subst hn hm;refine zG zAm mixed Tryz.func59 rfl<|vAu<|zB<|vAe<|zF<|zS (λ(i:Nat)=>fr 36 [(0,intsD a),(1,intsD b),(9,intsD a),(10,iD (Aa a:Int)),(11,iD (i:Int))]) (λi=>[]) (λi=>a.length-i) (λi=>i<=a.length/\i<=b.length/\lcmp (a.drop i) (b.drop i)=lcmp a b) 0 ?_ ?_ ?_
 ·grind
 ·refine vk 0
 rintro i ⟨k1,k2,k3⟩;rcases Aw i a.length with h1|h1
 ·have x1:=zHp a i h1;have n1:a.map intD≠[]:=zAb;rcases Aw i b.length with h2|h2
  ·have x2:=zHp b i h2;have n2:b.map intD≠[]:=zAb;have hl:=lcmp_drop h1 h2;rw[k3]at hl;generalize a.getD i 0=x at*;generalize b.getD i 0=y at*;have hci:=cint_cY x y;unfold Lib.compareInt at hci;by_cases h3:x<y
   ·rw[if_pos h3]at hl;have e:(if x<y then-1 else if x>y then(1:Int)else 0)=-1:=if_pos h3;rw[e]at hci;refine vAu<|zB<|vT ((i:Int)<↑(Aa a))<|vKB<|vA<|vr 2 (ix ↑i ↑(Aa a) (Ad intD a≠[]))<|vp 14 i (Ad intD a)<|vr 1 (0<Aa (Ah i<|Ad intD a))<|vsh 15 x1<|veT<|zB<|vAe<|vF ((i:Int)>=(Aa b:Int))<|vK<|vA<|vr 3 (ix ↑i ↑(Aa b) (Ad intD b≠[]))<|vp 22 i (Ad intD b)<|vr 1 (0<Aa (Ah i<|Ad intD b))<|vsh 23 x2<|veT<|vA<|vrT 2<|vc hci<|veT<|vAe<|vt<|vAe<|zJ<|zN<|zH<|zH<|zN<|zH<|vre (True) (q0_) (.inr rfl) ?_;rw[hl]
   by_cases h4:y<x
   ·rw[if_neg h3,if_pos h4]at hl;have e:(if x<y then-1 else if x>y then(1:Int)else 0)=1:=by rw[if_neg h3,if_pos h4]
    rw[e]at hci;refine vAu<|zB<|vT ((i:Int)<↑(Aa a))<|vKB<|vA<|vr 2 (ix ↑i ↑(Aa a) (Ad intD a≠[]))<|vp 14 i (Ad intD a)<|vr 1 (0<Aa (Ah i<|Ad intD a))<|vsh 15 x1<|veT<|zB<|vAe<|vF ((i:Int)>=(Aa b:Int))<|vK<|vA<|vr 3 (ix ↑i ↑(Aa b) (Ad intD b≠[]))<|vp 22 i (Ad intD b)<|vr 1 (0<Aa (Ah i<|Ad intD b))<|vsh 23 x2<|veT<|vA<|vrT 2<|vc hci<|veT<|vAe<|vt<|vAe<|zJ<|zN<|zH<|zH<|zN<|zH<|vre (True) (q1_) (.inr rfl) ?_;rw[hl]
   rw[if_neg h3,if_neg h4]at hl;have e:(if x<y then-1 else if x>y then(1:Int)else 0)=0:=by rw[if_neg h3,if_neg h4]
   rw[e]at hci;refine vAu<|zB<|vT ((i:Int)<↑(Aa a))<|vKB<|vA<|vr 2 (ix ↑i ↑(Aa a) (Ad intD a≠[]))<|vp 14 i (Ad intD a)<|vr 1 (0<Aa (Ah i<|Ad intD a))<|vsh 15 x1<|veT<|zB<|vAe<|vF ((i:Int)>=(Aa b:Int))<|vK<|vA<|vr 3 (ix ↑i ↑(Aa b) (Ad intD b≠[]))<|vp 22 i (Ad intD b)<|vr 1 (0<Aa (Ah i<|Ad intD b))<|vsh 23 x2<|veT<|vA<|vrT 2<|vc hci<|veT<|vAe<|vf<|zK<|zE<|vN<|zA rfl<|vr 2 (i6 (↑i+1))<|vnil<|zC<|⟨i+1,⟨by omega,by omega,hl.symm⟩,by omega,?_⟩;refine vk 0
  have hl:=zWt (a:=a) (b:=b) (i:=i) (.inr (by omega)) k1 k2;rw[k3,if_neg (by omega),if_pos (by omega)]at hl;rw[hl];refine vAu<|zB<|vT ((i:Int)<↑(Aa a))<|vKB<|vA<|vr 2 (ix ↑i ↑(Aa a) (Ad intD a≠[]))<|vp 14 i (Ad intD a)<|vr 1 (0<Aa (Ah i<|Ad intD a))<|vsh 15 x1<|veT<|zB<|vAe<|vT ((i:Int)>=(Aa b:Int))<|vAe<|zJ<|zH<|zN<|zH<|zH<|zN<|zH<|vret (True)<|.inr rfl
 have hl:=zWt (a:=a) (b:=b) (i:=i) (.inl (by omega)) k1 k2;rw[k3]at hl;rcases Aw a.length b.length with h2|h2
 ·rw[if_pos h2]at hl;rw[hl];refine vAu<|zB<|vF ((i:Int)<↑(Aa a))<|vZ2<|zB<|vAe<|vT ((Aa a:Int)<↑(Aa b))<|vAe<|zJ<|zH<|vret (True)<|.inr rfl
 rw[if_neg (by omega),if_neg (by omega)]at hl;rw[hl];refine vAu<|zB<|vF ((i:Int)<↑(Aa a))<|vZ2<|zB<|vAe<|vF ((Aa a:Int)<↑(Aa b))<|vK<|vAe<|zJ<|vret (True)<|.inr rfl
set_option maxHeartbeats 1000000 in
theorem zQm(a b:List Int)(n m:Nat)(hn:a.length=n)(hm:b.length=m)(ha:n<=1000000000)(hb:m<=1000000000):Pure Am 17 [.row (a.map intD) n, .row (b.map intD) m] [] (bD (decide (a=b))):=by
 subst hn hm;refine zG zAm mixed Tryz.func17 rfl ?_;focus
  refine vAu<|zB<|vAe<|zAr (t:=(Aa a:Int)!=(Aa b:Int)) (by kernel_rfl) (λhc=>?_)<|λhc=>?_;simp only[bne_iff_ne]at hc;refine vAe<|zJ<|zH<|vre (True) (Ao<|Value.bool Ac) (.inr rfl) ?_;rotate_left;simp only[bne_eq_false_iff_eq]at hc;refine vK<|zB<|vAe<|zF ?_;rotate_left
 ·congr 2;grind
 refine zS (λ(i:Nat)=>fr 26 [(0,intsD a),(1,intsD b),(12,iD<|Aa a),(13,iD i)]) (λi=>[]) (λi=>a.length-i) (λi=>i<=a.length/\a.take i=b.take i) 0 ?_ ?_ ?_
 ·grind
 ·refine vk 0
 rintro i ⟨k1,k2⟩;focus
  refine vAu<|zB<|vcD ((i:Int)<↑(Aa a)) (λhc=>?_)<|λhc=>?_;refine vKB<|vAe<|zB<|vd [0,1,2,4,5,6,3,7,8]<|vr 3 (ix ↑i ↑(Aa a) (Ad intD a≠[])) (vp 18 i (Ad intD a)<|vr 3 (ix ↑i ↑(Aa b) (Ad intD b≠[])) (vp 22 i (Ad intD b) ?_) ⟨(by omega),⟨(by omega),(by exact zAb)⟩⟩) ⟨(by omega),⟨(by omega),(by exact zAb)⟩⟩;refine vr 1 (0<Aa (Ah i<|Ad intD a))<|vs 19 (List.headD (Ah i<|Ad intD a) Uk) (intD<|AP a i (0:Int)) (hd:=by simp(disch:=omega) only[zHp])<|vr 1 (0<Aa (Ah i<|Ad intD b))<|vs 23 (List.headD (Ah i<|Ad intD b) Uk) (intD<|AP b i (0:Int)) (hd:=by simp(disch:=omega) only[zHp])<|veT<|zAr (t:=AP a i (0:Int)!=AP b i (0:Int)) (by kernel_rfl) (λhc=>?_)<|λhc=>?_;simp only[bne_iff_ne]at hc;refine vAe<|zJ<|zN<|zH<|zH<|zN<|zH<|vre (True) (Ao<|Value.bool Ac) (.inr rfl) ?_;rotate_left;simp only[bne_eq_false_iff_eq]at hc;refine zK<|zE<|vN<|zA rfl<|vr 2 (i6 (↑i+1))<|vnil<|zC ?_;rotate_left;refine vZ2<|vAe<|zJ<|vre (True) (Ao<|Value.bool Ab) (.inr rfl) ?_;rotate_left
 ·congr 2;grind
 ·refine⟨i+1,⟨by omega,?_⟩,by omega,?_⟩
  ·grind [zNn]
  refine vk 0
 grind
theorem zZ5(n:Nat)(z:D):repL n [z]=AG n z:=by
 induction n with
 |zero=>rfl
 |succ n ih=>simp only[repL,CA,List.flatten_cons,A0,A8]at ih⊢;rw[ih]
theorem zX1{α:Type}{c:α->α->Int}(l:List α):(zFc c l).length=l.length:=(zH7 l).length_eq
theorem zYi(l:List Int):ddG (zFc icmp l)=setG icmp l:=ddG_sort zS9 l
theorem zR1(l:List Int):(Bc l).length<=l.length:=by
 unfold Bc CG;rw[Aq];exact AH (Bn _ _) (by simp)
abbrev vIY(l:List Int):List Value:=l.map (An .i64)
theorem zPw{st:List Bk}{k n:Nat}{e:Bk}{wh:Bool}{zs:List Int}(he:st[k]?=Av e)(ha:e.arr=Ab)(hkd:e.kd= .plain)(hf:e.fz=Ac)(hc:e.cells=(vIY zs).map .val)(hn:zs.length=n)(hb:n<=1000000):
  Acts Am 66 [.osl k 0 n n wh] st [] (.osl k 0 (Bc zs).length (Bc zs).length wh) (st.set k {e with cells:=(vIY (Bc zs++AG (n-(Bc zs).length) 0)).map .val}):=by
 have hcl:=zR1 zs;refine acts_row he ha hkd hf hc (by simp[hn]) (by simp;omega) (by omega) (λv hv=>by obtain⟨z,_,rfl⟩:=As.1 hv;rfl) (λ_ a c w=>Tryz.slices_Compact_int_empty a c w) (λh0 b c w h1 h2 h3=>?_);refine(Tryz.slices_Compact_int_cells b 0 n c zs w (by omega) (by omega) h3 (λj hj=>?_) h2).mono ?_
 ·rw[h1 j (by omega)];simp only[vIY,Au,Bp];rw[AC (by omega)];rfl
 rw[show zs.take n=zs from AT (by omega)];exact λx w' h=>h
theorem sort_iY(l:List Int)(k n:Nat)(wh:Bool)(st:List Bk)(hs:st[k]?=Av ⟨l.map intD,3,1,Ab,Ac, .plain⟩)(hn:l.length=n)(hb:n<=1000000):Acts Am 65 [.osl k 0 n n wh] st [] (.val (.tuple #[])) (st.set k ⟨(zFc icmp l).map intD,3,1,Ab,Ac, .plain⟩):=zZu hs rfl rfl rfl rfl hn (by omega)
theorem zYl(l:List Int)(k n:Nat)(wh:Bool)(st:List Bk)(hs:st[k]?=Av ⟨(zFc icmp l).map intD,3,1,Ab,Ac, .plain⟩)(hn:l.length=n)(hb:n<=1000000):Acts Am 66 [.osl k 0 n n wh] st [] (.osl k 0 (setG icmp l).length (setG icmp l).length wh) (st.set k ⟨(setG icmp l).map intD++AG (n-(setG icmp l).length) (intD 0),3,1,Ab,Ac, .plain⟩):=by
 have h:=zPw (wh:=wh) hs rfl rfl rfl (zs:=zFc icmp l) (by rw[zLr]) (by rw[zX1];exact hn) hb;rw[zYm,zYi]at h;have e1:(vIY (setG icmp l++AG (n-(setG icmp l).length) 0)).map Ao=(setG icmp l).map intD++AG (n-(setG icmp l).length) (intD 0):=by simp[Bl]
 rwa[e1]at h
def Tsq:Par:=⟨λf=>f==65||f==66,λ_ _=>AO,λ_=>Ac,λ_=>Ac,λ_=>Ac⟩
theorem Tsq_ok:zBi Am Tsq:=by intro t n f h;cases h
abbrev ivV(z:Int):Value:= .int .i64 z
abbrev mapZ(U:List Int):Bk:=⟨nsD (Ar U.length),125,0,Ab,Ac, .map (U.map ivV)⟩
theorem zWl(U:List Int)(z:Int):zDj (U.map ivV) (ivV z)=if z∈U then Av (U.idxOf z)else none:=by
 unfold zDj;rw[List.findIdx?_map];have e:(vEq (ivV z)∘ivV)=λx=>decide (z=x):=by
  funext x;show(z==x)=decide (z=x);rw[Bx];simp
 rw[e];induction U with
 |nil=>rfl
 | cons s U ih=>
  rw[CL,ih];by_cases e:z=s
  ·subst e;simp
  have e2:(s==z)=false:=by simpa using λh:s=z=>e h.symm
  simp only[e,decide_false,CD,if_false,AK,false_or,List.idxOf_cons,e2,cond_false];split<;>simp
theorem mput_iv(U:List Int)(z:Int)(h:z∉U):mput (mapZ U) (U.map ivV) (ivV z) (iD U.length)=mapZ (U++[z]):=by
 unfold mput;rw[zWl,if_neg h];simp[BF]
theorem look_iv(U:List Int)(z:Int)(h:z∈U):zEz Ac (iD 0) (U.map ivV) (nsD (Ar U.length)) (ivV z)=iD (U.idxOf z:Nat):=by
 unfold zEz;rw[zWl,if_pos h]
 have:=BT.2 h
 simp[ctD,Au,this]
theorem fits_iv(U:List Int):(U.map ivV).all (zT (.int .i64))=true:=by simp[zT]
abbrev g1D(v:Nat):List D:=[iD (v:Nat)]
theorem fm_g1:∀l:List Nat,l.flatMap g1D=nsD l
 |[]=>rfl
 |v::l=>by rw[B1,fm_g1 l];rfl
theorem g1D_len(v:Nat):(g1D v).length=1:=rfl
theorem fm_len:∀{A:List (List Nat×List Rw)},(∀a∈A,a.1.length<=8)->(A.flatMap (·.1)).length<=A.length*8
 |[],_=>AJ _
 |a::A,h=>by
  have h1:=h a (AV ..);have h2:=fm_len λb hb=>h b (Bf _ hb);rw[B1,AM,AR];omega
theorem used_eq(A:List (List Nat×List Rw)):setG icmp (intL (A.flatMap (·.1)))=zCe A:=by
 unfold zCe intL;rw[List.map_flatMap]
set_option maxHeartbeats 8000000 in
theorem zG5(A:List (List Nat×List Rw))(h:AtW A):∃b:Bool,(b=Ab↔∃τ,SatA A τ)/\Pure Am 38 [.row (A.flatMap atN) A.length] [] (bD b):=by
 have hA5:=h.l;have hd:=dense_ok h;obtain⟨b,hb,htot⟩:=totalA_c hd;refine⟨b,hb.trans dense_sat,?_⟩;clear hb;have hfa:=zRr (A.map (renA (zGk A))) (by rw[Aq];omega) (λa ha=>by
  have h1:=zB1 (A:=a.1) ⟨hd.asc a ha,λv hv=>by have:=hd.lt a ha v hv;have:=hd.n8;omega⟩;have h2:=hd.few a ha;exact⟨by omega,by omega,λr hr=>by have:=hd.len a ha r hr;omega⟩)
 rw[Aq]at hfa htot;have hV8:∀a∈A,a.1.length<=32:=λa ha=>zB1 (A:=a.1) ⟨h.asc a ha,λv hv=>by have:=h.lt a ha v hv;omega⟩;have hl:=fm_len (A:=A) λa ha=>by
  have h3:=zP1 (intL a.1) 0 (by
   unfold intL;rw[BR];exact(h.asc a ha).imp λh=>by omega) λx hx=>by
    obtain⟨v,hv,rfl⟩:=As.1 hx
    have:=h.lt a ha v hv
    omega
  rw[show(intL a.1).length=a.1.length by simp[intL]]at h3;exact h3
 have hU:=used_eq A;have hU8:=zVi h;have hUm:∀a∈A,∀v∈a.1,((v:Nat):Int)∈zCe A:=λa ha v hv=>zEl.2 ⟨a,ha,v,hv,rfl⟩;have hUn:(zCe A).Nodup:=used_asc.imp λh e=>by omega
 have e1:∀l:List Nat,(intL l).map intD=nsD l:=λl=>by simp[intL]
 have e2:∀l:List Nat,(intL l).length=l.length:=λl=>by simp[intL]
 have hdf:∀v:Nat,zGk A v=(zCe A).idxOf ((v:Nat):Int):=λ_=>rfl;refine zG Tsq_ok mixed Tryz.func38 rfl<|zB<|zA rfl<|v0s<|veT<|zB<|zA rfl<|ve (True/\0<1/\1=1/\0<=16777216/\0<=9223372036854775807)<|zB<|zB<|zA rfl<|veT<|zF<|zAw (λ(i:Nat)(l:List Nat)=>fr 97 [(0,Ae (Ag atN A)<|Aa A),(2,bD Ac),(3,Ai 0 0 (Aa l) (Aa l) Ab),(18,Ae (Ag atN A)<|Aa A),(19,iD (Aa A:Int)),(20,iD (i:Int))]) (λ(i:Nat)(l:List Nat)=>[iaK<|nsD l]) (λi l=>A.length-i) (λ(i:Nat)(l:List Nat)=>i<=A.length/\l=(A.take i).flatMap (·.1)) 0 [] ?_ ?_ ?_
 ·exact⟨by omega,rfl⟩
 ·refine vk 1
 rintro i l ⟨i1,i2⟩;have hll:l.length<=40:=by
  have h3:((A.take i).flatMap (·.1)).length<=(A.flatMap (·.1)).length:=by
   conv=>rhs;rw[<-Ca i A,BC,AM]
   omega
  rw[i2];omega
 have hlc:(nsD l).length=l.length:=Aq ..
 rcases Aw i A.length with i3|i3
 ·have hg:=zHt zAd A i i3;have hle:=zFe zAd A i i3;have hne:=zFd zAd (by decide) A;have htk:=zA1 A i i3;have hv:=hV8 _ (zAf A Af i i3);have hsn:(A.take (i+1)).flatMap (·.1)=l++(A.getD i Af).1:=by rw[htk,BC,<-i2,Cg]
  generalize A.getD i Af=a at*;obtain⟨V,R⟩:=a;have hva:=zHd V _ rfl;simp only at hv hsn;refine zB<|zA rfl<|v0s<|veT<|zB<|vT ((i:Int)<(Aa A:Int))<|zK<|zC<|zD<|zB<|zF<|zB<|zA rfl<|vr 1 (ix (i:Int) (Aa A:Int) (Ag atN A≠[]))<|vs 22 (AS<|Ah (Ap (i:Int)*3)<|Ag atN A) (AS (Ae (Ad (λ(v:Nat)=>iD (v:Int)) V) (Aa V)::iD (Aa V:Int)::Ae (Ad rowV R) (Aa R)::Ag atN (Ah (i+1) A))) (hd:=by simp(disch:=omega) only[AB,A0,A8,hg])<|ve (3<=Aa (Ae (Ad (λ(v:Nat)=>iD (v:Int)) V) (Aa V)::iD (Aa V:Int)::Ae (Ad rowV R) (Aa R)::Ag atN (Ah (i+1) A))/\Ac=Ac/\Ab=Ab/\3=3/\3<=3)<|zA rfl<|vr 5 (True/\0<3/\A9 (iaK<|nsD l)=Ab/\Aa (AA<|iaK<|nsD l)=Aa l*1/\Aa l=Aa l*1/\A3 (iaK<|nsD l)=3/\A4 (iaK<|nsD l)=1/\Aa (Ad (λ(v:Nat)=>iD (v:Int)) V)=Aa V*1/\0<1/\0<8/\3=3/\(Aa l+Aa V)*8<=140737488355328/\1=1/\A_ (AI<|iaK<|nsD l)=Ac/\(Ac=Ac\/Ba (AI<|iaK<|nsD l)=Ab))<|vs 3 (Ai 0 0 (Aa l+Aa V) ((Aa l+Aa V)*1) Ab) (Ai 0 0 (Aa l+Aa V) (Aa l+Aa V) Ab) (hd:=by simp(disch:=omega) only[Bh])<|vnil<|zE<|zC<|zD<|zA rfl<|vr 2 (i6 ((i:Int)+(1:Int)))<|vnil<|zC<|⟨i+1,l++V,⟨by omega,hsn.symm⟩,by omega,?_⟩;rw[show nsD (l++V)=nsD l++nsD V from Bl,AM];refine vk 1
 rw[AT i3]at i2;have hso:=sort_iY (intL l) 0 l.length Ab [⟨(intL l).map intD,3,1,Ab,Ac, .plain⟩] rfl (e2 l) (by omega);rw[e1]at hso;have hco:=zYl (intL l) 0 l.length Ab [⟨(zFc icmp (intL l)).map intD,3,1,Ab,Ac, .plain⟩] rfl (e2 l) (by omega);rw[i2,hU,<-i2]at hco;generalize zFc icmp (intL l)=srt at*;refine zB<|zA rfl<|v0s<|veT<|zB<|vF ((i:Int)<(Aa A:Int))<|zV<|zM<|zM<|zQ rfl<|zC<|zD<|zB<|zA rfl<|vrT 1<|vnt [iaK<|nsD l]<|zAx [] [] [Ai 0 0 (Aa l) (Aa l) Ab] [Ai 0 0 (Aa l) (Aa l) Ab] (LeL.refl _) (by exact hso) ?_;refine v0s<|veT<|zB<|zA rfl<|vrT 1<|vnt [Ax (Ad intD srt) 3 1 Ab Ac Az]<|zAx [] [] [Ai 0 0 (Aa l) (Aa l) Ab] [Ai 0 0 (Aa l) (Aa l) Ab] (LeL.refl _) (by exact hco) ?_;refine v0s<|veT<|zB<|zA rfl<|veT<|zB<|zB<|zA rfl<|veT<|zF ?_;have hdf2:zGk A=λv:Nat=>(zCe A).idxOf ((v:Nat):Int):=rfl;generalize zGk A=fD at*;generalize zCe A=U at*;obtain⟨tl,htl⟩:∃tl,tl=AG (l.length-U.length) (intD 0):=⟨_,rfl⟩;rw[<-htl];refine zS (λ(i:Nat)=>fr 97 [(0,Ae (Ag atN A)<|Aa A),(2,bD Ac),(3,Ai 0 0 (Aa U) (Aa U) Ab),(6,D.mref 1),(34,Ai 0 0 (Aa U) (Aa U) Ab),(35,iD (Aa U:Int)),(36,iD (i:Int))]) (λ(i:Nat)=>[iaK (U.map intD++tl),mapZ<|U.take i]) (λi=>U.length-i) (λ(i:Nat)=>i<=U.length) 0 ?_ ?_ ?_
 ·omega
 ·refine vk 2
 rintro k k1;have hkl:(U.take k).length=k:=by rw[AZ];omega
 rcases Aw k U.length with k2|k2
 ·have hx:((U.map intD++tl).drop k).headD .unk=intD (U.getD k 0):=by
   rw[List.drop_append_of_le_length (by rw[Aq];omega)]
   have:=zHp U k k2
   rw[BP (by simpa using k2)]at this⊢;exact this
  have hne:U.map intD++tl≠[]:=λe=>by
   have h9:=(List.append_eq_nil_iff.1 e).1;rw[List.map_eq_nil_iff]at h9;rw[h9]at k2;cases k2
  have htk:U.take (k+1)=U.take k++[U.getD k 0]:=by
   rw[BN k2,Au,AC k2];rfl
  have hno:U.getD k 0∉U.take k:=λhm=>by
   obtain⟨j,hj,e⟩:=Cl hm;rw[hkl]at hj;rw[List.getElem_take]at e;have e3:U.getD k 0=U[k]:=by rw[Au,AC k2];rfl
   rw[e3]at e
   have:=(CH.1 hUn) j k (by omega) k2 hj
   exact this e
  have hmp:=mput_iv (U.take k) (U.getD k 0) hno;rw[hkl,<-htk]at hmp;generalize U.getD k 0=z at*;focus
   refine zB (zA rfl (v0s (veT (zB (vT ((k:Int)<(Aa U:Int)) (zK (zC (zD (zB (zF (zB (zA rfl (vr 2 ((0:Int)<=(k:Int)/\(k:Int)<(Aa U:Int)) (vo 39 0 (k) (vr 1 (0<Aa (Ah k (AA (iaK (Ad intD U++tl))))) (vsh 40 hx (veT (zA rfl (vwh 4 [] [] (Bg (mapZ (Al k U))=Ac/\zT (Cn (Co (Cp AU) "int" 1 8 Ac 8 8 (Av (An AU (0:Int))) Ab #[])) (An AU z)=Ab/\List.all (Ad ivV (Al k U)) (zT (Cn (Co (Cp AU) "int" 1 8 Ac 8 8 (Av (An AU (0:Int))) Ab #[])))=Ab/\¬1∈[]) ?_ ?_)))))))))))))))))));rotate_left;refine vb 1 (mput (mapZ (Al k U)) (Ad ivV (Al k U)) (An AU z) (iD (k:Int))) (mapZ (Al (k+1) U)) (hd:=by simp(disch:=omega) only[hmp]) (vnil (zE (zC (zD (zA rfl (vr 2 (i6 ((k:Int)+(1:Int))) (vnil (zC ?_))))))));rotate_left
  ·exact⟨rfl,rfl,fits_iv _,by decide⟩
  refine⟨k+1,by omega,by omega,?_⟩;refine vk 2
 obtain rfl:k=U.length:=by omega
 rw[Bq];have r0:repL A.length zAt=filG atN zAt [] A.length:=zRq A.length;refine zB<|zA rfl<|v0s<|veT<|zB<|vF ((Aa U:Int)<(Aa U:Int))<|zV<|zM<|zM<|zQ rfl<|zC<|zD<|zB<|zA rfl<|ve ((0:Int)<=(Aa A:Int)/\(Aa A:Int)<=(Aa A:Int)/\(↑(56:Nat):Int)*(Aa A:Int)<=(281474976710656:Int)/\(Aa A:Int)<=(281474976710656:Int)/\0<3/\3=3)<|zB<|zB<|zA rfl<|veT<|zF<|zS (λ(i:Nat)=>fr 97 [(2,bD Ac),(3,Ai 0 0 (Aa U) (Aa U) Ab),(6,D.mref 1),(9,Ai 2 0 (Aa A) (Aa A*3) Ab),(48,Ae (Ag atN A)<|Aa A),(49,iD (Aa A:Int)),(50,iD (i:Int))]) (λ(i:Nat)=>[iaK (U.map intD++tl),mapZ U,atK<|filG atN zAt ((A.take i).map<|renA fD) A.length]) (λi=>A.length-i) (λ(i:Nat)=>i<=A.length) 0 ?_ ?_ ?_
 ·omega
 ·refine vk 3
 rintro q q1;rcases Aw q A.length with q2|q2
 ·have hm:=zAf A Af q q2;have hg:=zHt zAd A q q2;have hle:=zFe zAd A q q2;have hne:=zFd zAd (by decide) A;have htk:=zA1 A q q2;have hv:=hV8 _ hm;have hum:=hUm _ hm;have hlt:((A.take q).map (renA fD)).length=q:=by rw[Aq,AZ];omega
  have hset:=zGb (z:=zAt) zAd rfl ((A.take q).map (renA fD)) A.length (renA fD (A.getD q Af)) (by omega);have hfl:=zGc (L:=(A.take q).map (renA fD)) (z:=zAt) (n:=A.length) zAd rfl (by omega);have hmp2:(A.take (q+1)).map (renA fD)=(A.take q).map (renA fD)++[renA fD (A.getD q Af)]:=by rw[htk,Bl];rfl
  rw[hlt,<-hmp2]at hset;generalize A.getD q Af=a at*;obtain⟨V,R⟩:=a;simp only at hv hum;generalize (A.take q).map (renA fD)=L at*;have r1:repL V.length [iD 0]=filG g1D [iD 0] [] V.length:=zRq V.length;refine zB<|zA rfl<|v0s<|veT<|zB<|vT ((q:Int)<(Aa A:Int))<|zK<|zC<|zD<|zB<|zF<|zB<|zA rfl<|vr 2 (ix (q:Int) (Aa A:Int) (Ag atN A≠[]))<|vs 53 (AS<|Ah (Ap (q:Int)*3)<|Ag atN A) (AS (Ae (Ad (λ(v:Nat)=>iD (v:Int)) V) (Aa V)::iD (Aa V:Int)::Ae (Ad rowV R) (Aa R)::Ag atN (Ah (q+1) A))) (hd:=by simp(disch:=omega) only[AB,A0,A8,hg])<|ve (3<=Aa (Ae (Ad (λ(v:Nat)=>iD (v:Int)) V) (Aa V)::iD (Aa V:Int)::Ae (Ad rowV R) (Aa R)::Ag atN (Ah (q+1) A))/\Ac=Ac/\Ab=Ab/\3=3/\3<=3)<|zB<|zA rfl<|vr 5 (True/\0<3/\(0:Int)<=(Aa V:Int)/\(Aa V:Int)<=(Aa V:Int)/\(↑(8:Nat):Int)*(Aa V:Int)<=(281474976710656:Int)/\(Aa V:Int)<=(281474976710656:Int)/\0<1/\1=1)<|vs 12 (Ai 4 0 (Ap (Aa V:Int)) (Ap (Aa V:Int)*1) Ab) (Ai 4 0 (Aa V) (Aa V) Ab) (hd:=by simp(disch:=omega) only[AB,Bh])<|veT<|zB<|zB<|zA rfl<|ve (True/\0<3)<|zF<|zS (λ(j:Nat)=>fr 97 [(2,bD Ac),(3,Ai 0 0 (Aa U) (Aa U) Ab),(6,D.mref 1),(9,Ai 2 0 (Aa A) (Aa A*3) Ab),(10,iD (q:Int)),(11,AE 3 0),(12,Ai 4 0 (Aa V) (Aa V) Ab),(48,Ae (Ag atN A)<|Aa A),(49,iD (Aa A:Int)),(50,iD (q:Int)),(60,Ae (Ad (λ(v:Nat)=>iD (v:Int)) V)<|Aa V),(61,iD (Aa V:Int)),(62,iD (j:Int))]) (λ(j:Nat)=>[iaK (U.map intD++tl),mapZ U,atK<|filG atN zAt L A.length,at1 (.row (nsD V) V.length) (.row (R.map rowV) R.length) (V.length:Nat),iaK<|filG g1D [iD 0] ((V.take j).map fD) V.length]) (λj=>V.length-j) (λ(j:Nat)=>j<=V.length) 0 ?_ ?_ ?_
  ·omega
  ·refine vk 5
  rintro j j1;have hjl:((V.take j).map fD).length=j:=by rw[Aq,AZ];omega
  have hfj:=zGc (L:=(V.take j).map fD) (z:=[iD 0]) (n:=V.length) g1D_len rfl (by omega);rcases Aw j V.length with j2|j2
  ·have hx:=zAv V j j2;have hn1:nsD V≠[]:=zAb;have htv:V.take (j+1)=V.take j++[V.getD j 0]:=by
    rw[BN j2,Au,AC j2];rfl
   have hs2:=zGb (z:=[iD 0]) g1D_len rfl ((V.take j).map fD) V.length (fD (V.getD j 0)) (by omega);have hlk:=look_iv U ((V.getD j 0:Nat):Int) (hum _ (zAf V 0 j j2));have hmv:(V.take (j+1)).map fD=(V.take j).map fD++[fD (V.getD j 0)]:=by rw[htv,Bl];rfl
   rw[hjl,<-hmv,Bh]at hs2;have hfv:fD (V.getD j 0)=U.idxOf ((V.getD j 0:Nat):Int):=by rw[hdf2]
   rw[<-hfv]at hlk;generalize V.getD j 0=v at*;generalize fD v=w at*;focus
    refine zB (zA rfl (v0s (veT (zB (vT ((j:Int)<(Aa V:Int)) (zK (zC (zD (zB (zF (zB (zA rfl (vr 2 (ix (j:Int) (Aa V:Int) (Ad (λ(v:Nat)=>iD (v:Int)) V≠[])) (vp 65 (j) (Ad (λ(v:Nat)=>iD (v:Int)) V) (vr 1 (0<Aa (Ah j (Ad (λ(v:Nat)=>iD (v:Int)) V))) (vsh 66 hx (veT (zA rfl (vwh 5 [] [] (zT (Cn (Co (Cp AU) "int" 1 8 Ac 8 8 (Av (An AU (0:Int))) Ab #[])) (An AU (v:Int))=Ab/\List.all (Ad ivV U) (zT (Cn (Co (Cp AU) "int" 1 8 Ac 8 8 (Av (An AU (0:Int))) Ab #[])))=Ab) ?_ ?_)))))))))))))))))));rotate_left;refine vsh 71 hlk (vr 1 ((0:Int)<=(j:Int)/\(j:Int)<(Aa V:Int)) (vo 72 4 (j) ?_));refine vwh 1 [] [] (Bg (iaK (filG g1D [iD 0] (Ad fD (Al j V)) (Aa V)))=Ac/\Ab=Ab/\1=1/\j+1<=Aa (AA (iaK (filG g1D [iD 0] (Ad fD (Al j V)) (Aa V))))/\¬4∈[]) ?_ ?_;rotate_left;refine vnil (zE (zC (zD (zA rfl (vr 2 (i6 ((j:Int)+(1:Int))) (vnil (zC ?_)))))));rotate_left
   ·exact⟨rfl,fits_iv _⟩
   ·exact⟨rfl,rfl,rfl,(by show j+1<=(filG g1D [iD 0] ((V.take j).map fD) V.length).length;rw[hfj];omega),by decide⟩
   refine⟨j+1,by omega,by omega,?_⟩;refine wkn (fr 97 [(2,bD Ac),(3,Ai 0 0 (Aa U) (Aa U) Ab),(6,D.mref 1),(9,Ai 2 0 (Aa A) (Aa A*3) Ab),(10,iD (q:Int)),(11,AE 3 0),(12,Ai 4 0 (Aa V) (Aa V) Ab),(13,iD (j:Int)),(14,iD (v:Int)),(48,Ae (Ag atN A) (Aa A)),(49,iD (Aa A:Int)),(50,iD (q:Int)),(60,Ae (Ad (λ(v:Nat)=>iD (v:Int)) V) (Aa V)),(61,iD (Aa V:Int)),(62,iD (↑(j+1):Int)),(67,Ai 4 0 (Aa V) (Aa V) Ab),(68,iD (j:Int)),(69,D.mref 1),(70,iD (v:Int)),(71,iD (w:Int)),(72,AE 4 j),(73,iD (↑(j+1):Int))]) [iaK (Ad intD U++tl),mapZ U,atK (filG atN zAt L (Aa A)),at1 (Ae (nsD V) (Aa V)) (Ae (Ad rowV R) (Aa R)) (Aa V:Int),Ax (AX (filG g1D [iD 0] (Ad fD (Al j V)) (Aa V)) j (iD (w:Int))) (3:TypeId) 1 Ab Ac Az] ?_;rw[show(filG g1D [iD 0] ((V.take j).map fD) V.length).set j (iD (w:Nat))=filG g1D [iD 0] ((V.take (j+1)).map fD) V.length from hs2];refine vk 5
  obtain rfl:j=V.length:=by omega
  rw[Bq]at hfj hjl⊢;have hal:=zGd (g:=g1D) (z:=[iD 0]) (V.map fD);rw[Aq]at hal;have hfm:(V.map fD).flatMap g1D=nsD (V.map fD):=fm_g1 (V.map fD);rw[hfm]at hal;rw[hal]at hfj⊢;have hns:(nsD (V.map fD)).take V.length=nsD (V.map fD):=AT (by simp);refine zB<|zA rfl<|v0s<|veT<|zB<|vF ((Aa V:Int)<(Aa V:Int))<|zV<|zM<|zM<|zQ rfl<|zC<|zD<|zA rfl<|vr 7 (True/\2<=2/\((1=1/\1<=3/\2=2/\3<=3/\True)/\Ab=Ab)/\(0:Int)<=(q:Int)/\(q:Int)<(Aa A:Int))<|vo0 80 2 (q*3)<|vr 1 (Bg (atK<|filG atN zAt L<|Aa A)=Ac/\Ab=Ab/\3=3/\q*3+3<=Aa (AA<|atK<|filG atN zAt L<|Aa A)/\¬2∈[4])<|vb 2 (Ax (setAt (AA<|atK<|filG atN zAt L<|Aa A) (q*3) [Ae (Al (Aa V)<|Ah 0<|AA<|iaK<|nsD<|Ad fD V)<|Aa V,iD (Aa V:Int),Ae (Ad rowV R)<|Aa R]) (A3<|atK<|filG atN zAt L<|Aa A) (A4<|atK<|filG atN zAt L<|Aa A) Ab Ac<|AI<|atK<|filG atN zAt L<|Aa A) (Ax (AX (AX (AX (filG atN zAt L<|Aa A) (q*3)<|Ae (nsD<|Ad fD V)<|Aa V) (q*3+1)<|iD (Aa V:Int)) (q*3+1+1)<|Ae (Ad rowV R)<|Aa R) (45:TypeId) 3 Ab Ac Az) (hd:=by simp(disch:=omega) only[setAt,AN,hns])<|vnil<|zE<|zC<|zD<|zA rfl<|vr 2 (i6 ((q:Int)+(1:Int)))<|vnil<|zC<|⟨q+1,by omega,by omega,?_⟩;refine wkn (fr 97 [(2,bD Ac),(3,Ai 0 0 (Aa U) (Aa U) Ab),(6,D.mref 1),(9,Ai 2 0 (Aa A) (Aa A*3) Ab),(10,iD (q:Int)),(11,AE 3 0),(12,Ai 4 0 (Aa V) (Aa V) Ab),(48,Ae (Ag atN A) (Aa A)),(49,iD (Aa A:Int)),(50,iD (↑(q+1):Int)),(60,Ae (Ad (λ(v:Nat)=>iD (v:Int)) V) (Aa V)),(61,iD (Aa V:Int)),(62,iD (Aa V:Int)),(63,bD (decide ((Aa V:Int)<(Aa V:Int)))),(74,Ai 2 0 (Aa A) (Aa A*3) Ab),(75,iD (q:Int)),(76,Ai 4 0 (Aa V) (Aa V) Ab),(77,AE 3 1),(78,AD [iD (Aa V:Int),Ae (Ad rowV R) (Aa R)]),(79,AD [Ai 4 0 (Aa V) (Aa V) Ab,iD (Aa V:Int),Ae (Ad rowV R) (Aa R)]),(80,AE 2 (q*3)),(81,iD (↑(q+1):Int))]) [iaK (Ad intD U++tl),mapZ U,Ax (AX (AX (AX (filG atN zAt L (Aa A)) (q*3) (Ae (nsD (Ad fD V)) (Aa V))) (q*3+1) (iD (Aa V:Int))) (q*3+1+1) (Ae (Ad rowV R) (Aa R))) (45:TypeId) 3 Ab Ac Az,at1 (Ae (nsD V) (Aa V)) (Ae (Ad rowV R) (Aa R)) (Aa V:Int),Ax (nsD (Ad fD V)) (3:TypeId) 1 Ab Ab Az] ?_;rw[show(((filG atN zAt L A.length).set (q*3) (Ae (nsD (V.map fD)) V.length)).set (q*3+1) (iD (V.length:Nat))).set (q*3+1+1) (Ae (R.map rowV) R.length)=filG atN zAt ((A.take (q+1)).map (renA fD)) A.length from by
   rw[<-hset];show _=setAt _ _ [Ae (nsD (V.map fD)) (V.map fD).length,iD ((V.map fD).length:Nat),_];rw[Aq];rfl]
  refine vk 3
 obtain rfl:q=A.length:=by omega
 rw[Bq];have ha:=zGd (g:=atN) (z:=zAt) (A.map (renA fD));rw[Aq]at ha;have ht:=zFo zAd (A.map (renA fD)) A.length (by rw[Aq]);rw[ha];refine zB<|zA rfl<|v0s<|veT<|zB<|vF ((Aa A:Int)<(Aa A:Int))<|zV<|zM<|zM<|zQ rfl<|zC<|zD<|zB<|zA rfl<|vr 5 (True/\Ab=Ab)<|vcl [Ae (Al (Aa A*3)<|Ah 0<|AA<|atK<|Ag atN<|Ad (renA fD) A)<|Aa A] [Ae (Ag atN<|Ad (renA fD) A)<|Aa A] (BU (by simp(disch:=omega) only[AN,ht])) (by exact hfa)<|vc (htot)<|ve (0<2/\1<2)<|zB<|zA rfl<|veT<|zJ<|vret (True)<|.inr rfl
end
def memL(s:Nat):List Int:=((Ar 32).filter λi=>s.testBit i).map λi:Nat=>(i:Int)
theorem memL_mem{s i:Nat}:((i:Nat):Int)∈memL s↔i<32/\s.testBit i=true:=by
 unfold memL;rw[As];constructor
 ·rintro⟨j,hj,e⟩;obtain⟨h1,h2⟩:=AL.1 hj;have:j=i:=by omega
  subst this;exact⟨AQ.1 h1,h2⟩
 rintro⟨h1,h2⟩;exact⟨i,AL.2 ⟨AQ.2 h1,h2⟩,rfl⟩
def bstS(o:Option (List Int))(l:List Int):Option (List Int):=match o with
 |none=>Av l
 |some b=>if lcmp l b<0 then Av l else Av b
def FstL(L:List (List Int))(o:Option (List Int)):Prop:=match o with
 |none=>L=[]
 |some b=>b∈L/\∀l∈L,¬lcmp l b<0
theorem bst_step{L:List (List Int)}{o:Option (List Int)}(h:FstL L o)(l:List Int):FstL (L++[l]) (bstS o l):=by
 cases o with
 |none=>
  have h:L=[]:=h;subst h;refine⟨A2.2 rfl,λk hk=>?_⟩;rw[A2.1 hk,(zPf l l).2 rfl];omega
 | some b=>
  obtain⟨h1,h2⟩:=h;unfold bstS;by_cases hlt:lcmp l b<0
  ·dsimp only;rw[if_pos hlt];refine⟨B9 _ (A2.2 rfl),λk hk hkl=>?_⟩;rcases Bv.1 hk with hk|hk
   ·exact h2 k hk (lcmp_tr k l b hkl hlt)
   rw[A2.1 hk,(zPf l l).2 rfl]at hkl;omega
  dsimp only;rw[if_neg hlt];refine⟨BX _ h1,λk hk=>?_⟩;rcases Bv.1 hk with hk|hk
  ·exact h2 k hk
  rw[A2.1 hk];exact hlt
theorem fst_uniq{L M:List (List Int)}(hm:∀l,l∈L↔l∈M){o p:Option (List Int)}(h:FstL L o)(k:FstL M p):o=p:=by
 cases o with
 | none=>
  have h:L=[]:=h;cases p with
  |none=>rfl
  |some c=>
   have:=(hm c).2 k.1
   rw[h]at this;cases this
 | some b=>
  cases p with
  |none=>
   have k:M=[]:=k
   have:=(hm b).1 h.1
   rw[k]at this;cases this
  |some c=>
   have h1:=h.2 c ((hm c).2 k.1);have h2:=k.2 b ((hm b).1 h.1);have h3:=zWs b c;have:lcmp b c=0:=by omega
   rw[(zPf b c).1 this]
def lvlZ(b:Nat->Bool):Nat->Int
 |0=>if b 0 then 0 else-1
 |n+1=>if b (n+1)then((n+1:Nat):Int)else lvlZ b n
theorem zM0{b c:Nat->Bool}:∀(n:Nat),(∀i,i<=n->b i=c i)->lvlZ b n=lvlZ c n
 |0,h=>by unfold lvlZ;rw[h 0 (AJ 0)]
 |n+1,h=>by
  unfold lvlZ;rw[h (n+1) (AJ _),zM0 n λi hi=>h i (by omega)]
section
open Go.RowKit
attribute [local irreducible] seqW awp zW zX zP Weak updS zZ retL Pure Acts rP setP setQ cP nP fr
set_option maxRecDepth 4096
noncomputable def ansB (n:Nat) (A:List (List Nat×List Rw)) (p:Rw):Bool:=@decide (Ans n A p) (BG _)
theorem zSe{n:Nat}{A:List (List Nat×List Rw)}{p:Rw}:ansB n A p=Ab↔Ans n A p:=by
 unfold ansB;exact@decide_eq_true_iff _ (BG _)
theorem AtOk.r{n:Nat}{A:List (List Nat×List Rw)}(h:AtOk n A):AtR A where
 l:=by have:=h.l;omega
 v a ha:=zB1 (A:=a.1) ⟨h.asc a ha,λv hv=>by have:=h.lt a ha v hv;have:=h.n8;omega⟩
 w a ha v hv:=by have:=h.lt a ha v hv;have:=h.n8;omega
 r a ha:=by have:=h.few a ha;omega
 k a ha r hr:=⟨h.len a ha r hr,A6.2 λv hv=>(h.val a ha r hr v hv).1⟩
theorem sat_c{n:Nat}{A:List (List Nat×List Rw)}(h:AtOk n A){p:Rw}(hp:p.length<=n):Pure Am 38 [.row ((A.map (zBb p)).flatMap atN) A.length] [] (bD (ansB n A p)):=by
 obtain⟨b,hb,hs⟩:=zG5 _ (h.rest hp).w;rw[Aq]at hs;have e:b=ansB n A p:=by
  rw[Bx,hb,zSe,zGw hp h.lt];constructor
  ·rintro⟨τ,hτ⟩;exact⟨τ,(zF1 h.len τ).1 hτ⟩
  rintro⟨τ,hτ⟩;exact⟨τ,(zF1 h.len τ).2 hτ⟩
 rw[<-e];exact hs
theorem lvlZ_at{b:Nat->Bool}{i:Nat}(hb:b i=Ab):∀{n:Nat},i<=n->(∀j,i<j->j<=n->b j=Ac)->lvlZ b n=(i:Nat)
 |0,hi,_=>by
  obtain rfl:i=0:=by omega
  unfold lvlZ;rw[if_pos hb];rfl
 | n+1,hi,hn=>by
  unfold lvlZ;rcases Aw i (n+1)with h|h
  ·rw[hn (n+1) h (AJ _),if_neg (by decide)];exact lvlZ_at hb (by omega) λj h1 h2=>hn j h1 (by omega)
  obtain rfl:i=n+1:=by omega
  rw[if_pos hb]
theorem zRf{b:Nat->Bool}:∀{n:Nat},(∀j,j<=n->b j=Ac)->lvlZ b n=-1
 |0,hn=>by
  unfold lvlZ;rw[hn 0 (AJ 0),if_neg (by decide)]
 |n+1,hn=>by
  unfold lvlZ;rw[hn (n+1) (AJ _),if_neg (by decide)];exact zRf λj hj=>hn j (by omega)
abbrev inpA(x0 x1 x2 x3:D)(A:List (List Nat×List Rw)):List D:=[x0,x1,x2,x3, .row (A.flatMap atN) A.length]
set_option maxHeartbeats 2000000 in
theorem level_c(n:Nat)(A:List (List Nat×List Rw))(h:AtOk n A)(z0 z1:Int)(cs2 cs3:List D)(m2 m3:Nat)(r:Rw)(hr:r.length<=n):Pure Am 34 [.agg (inpA (iD z0) (iD z1) (.row cs2 m2) (.row cs3 m3) A),rowV r] [] (iD (lvlZ (λi=>ansB n A (r.take i)) r.length)):=by
 have hn8:=h.n8;refine zG zAm mixed Tryz.func34 rfl<|zB<|zA rfl<|v0s<|veT<|zB<|zB<|zA rfl<|veT<|zF<|zS (λ(k:Nat)=>fr 20 [(1,rowV r),(2,AE 0 0),(5,iD ((k:Int)-(1:Int)))]) (λ(k:Nat)=>[⟨inpA (iD z0) (iD z1) (.row cs2 m2) (.row cs3 m3) A,32,0,Ac,Ac,.plain⟩]) (λ(k:Nat)=>k) (λ(k:Nat)=>k<=r.length+1/\∀i,k<=i->i<=r.length->ansB n A (r.take i)=Ac) (r.length+1) ?_ ?_ ?_
 ·exact⟨AJ _,λi h1 h2=>by omega⟩
 ·rw[show((r.length+1:Nat):Int)-1=(r.length:Nat) by omega];refine vk 1
 rintro k ⟨k1,k2⟩;rcases Nat.eq_zero_or_pos k with h0|h0
 ·subst h0;rw[zRf λj hj=>k2 j (B4 _) hj];refine zB<|zB<|zA rfl<|v0s<|veT<|vf<|zV<|zM<|zM<|zQ rfl<|zC<|zD<|zB<|zA rfl<|veT<|zJ<|vret (True)<|.inr rfl
 obtain⟨i,rfl⟩:∃i,k=i+1:=⟨k-1,by omega⟩;have e1:((i+1:Nat):Int)-1=(i:Nat):=by omega
 have hpl:(r.take i).length=i:=by rw[AZ];omega
 have hre:=zD3 A h.r (r.take i) (by omega);have hsa:=sat_c h (p:=r.take i) (by omega);have hct:=zMb r i;rw[show rowV (r.take i)= .row (zL (r.take i)) i by show Ae _ (r.take i).length=_;rw[hpl]]at hre;have hcl:=zAp r;rw[e1];cases hb:ansB n A (r.take i)
 ·rw[hb]at hsa;refine zB<|zB<|zA rfl<|v0s<|veT<|vT ((i:Int)>=(0:Int))<|zK<|zC<|zD<|zB<|zF<|zB<|vd [0,2,3,4,1,5,6]<|vr 4 (True/\True/\(0:Int)<=(i:Int)/\True/\0<3/\0<=Ap (i:Int)/\Ap (i:Int)<=Aa r/\Ap (i:Int)=Ap (i:Int))<|vs 16 (Ae (Al ((Ap (i:Int)-0)*3)<|Ah 0<|zL r) (Ap (i:Int)-0)) (Ae (zL<|Al i r) i) (hd:=by simp(disch:=omega) only[AB,Nat.sub_zero,AN,hct])<|vr 1 (0<1)<|vc (hre)<|vc (hsa)<|veT<|vf<|zK<|zE<|zC<|zD<|zA rfl<|vr 3 (i6 ((i:Int)-(1:Int)))<|vnil<|zC<|⟨i,⟨by omega,λj h1 h2=>?_⟩,by omega,?_⟩
  ·rcases Aw i j with h3|h3
   ·exact k2 j (by omega) h2
   obtain rfl:j=i:=by omega
   exact hb
  refine vk 1
 rw[hb]at hsa;rw[lvlZ_at (b:=λi=>ansB n A (r.take i)) hb (by omega) λj h1 h2=>k2 j (by omega) h2];refine zB<|zB<|zA rfl<|v0s<|veT<|vT ((i:Int)>=(0:Int))<|zK<|zC<|zD<|zB<|zF<|zB<|vd [0,2,3,4,1,5,6]<|vr 4 (True/\True/\(0:Int)<=(i:Int)/\True/\0<3/\0<=Ap (i:Int)/\Ap (i:Int)<=Aa r/\Ap (i:Int)=Ap (i:Int))<|vs 16 (Ae (Al ((Ap (i:Int)-0)*3)<|Ah 0<|zL r) (Ap (i:Int)-0)) (Ae (zL<|Al i r) i) (hd:=by simp(disch:=omega) only[AB,Nat.sub_zero,AN,hct])<|vr 1 (0<1)<|vc (hre)<|vc (hsa)<|veT<|vt<|zB<|zA rfl<|veT<|zJ<|zN<|zH<|zH<|zN ?_;refine zH<|vret (True)<|.inr rfl
def LstV(A:List (List Nat×List Rw))(x:Va):Prop:=(∃τ,τ 0=x/\SatA A τ)/\∀τ,SatA A τ->x=τ 0\/rcmp [x] [τ 0]<0
theorem least_c(n:Nat)(A:List (List Nat×List Rw))(h:AtOk n A)(h0:0<n):(∃x,LstV A x/\Pure Am 40 [iD (n:Nat), .row (A.flatMap atN) A.length] [] (.tup [vaD x,bD Ab]))\/((¬∃τ,SatA A τ)/\Pure Am 40 [iD (n:Nat), .row (A.flatMap atN) A.length] [] (.tup [vaD ⟨0,0,[]⟩,bD Ac])):=by
 have hl5:=h.l;have hn8:=h.n8;obtain⟨m,m1,m2,m3,hm⟩:=leastA_c h h0;have hfa:=zRr A (by omega) (λa ha=>by
  have h1:=h.r.v a ha;have h2:=h.few a ha;exact⟨by omega,by omega,λr hr=>by have:=h.len a ha r hr;omega⟩)
 obtain⟨B,l⟩:=m;have m2:B=[0]:=m2;subst m2;rcases l with _|⟨p,l⟩
 ·refine .inr ⟨λ⟨τ,hτ⟩=>?_,?_⟩
  ·have:=(m3 (τ 0)).2 ⟨τ,rfl,hτ⟩
   cases this
  refine zG zAm mixed Tryz.func40 rfl<|zB<|zA rfl<|v0s<|veT<|zB<|zA rfl<|vr 4 (True/\Ab=Ab)<|vc (hfa)<|vc (hm)<|ve (0<2/\1<2/\Ac=Ac/\Ab=Ab/\3=3/\3<=3)<|zB<|zB<|zA rfl<|ve (True/\True/\0<2/\True)<|vt<|zB<|zA rfl<|ve ((True/\Ab=Ab)/\Ac=Ac/\Ab=Ab/\3=3/\3<=3)<|zJ<|zH<|vret (3<=3)<|.inr rfl
 have hp:p.1.length=1:=m1.len p (AV ..);obtain⟨row,b⟩:=p;obtain⟨x,rfl⟩:∃x,row=[x]:=List.length_eq_one_iff.1 hp
 ·refine .inl ⟨x,⟨(m3 x).1 (AV ..),λτ hτ=>?_⟩,?_⟩
  ·have h1:=(m3 (τ 0)).2 ⟨τ,rfl,hτ⟩;obtain⟨q,hq,e⟩:=As.1 h1;rcases AK.1 hq with rfl|hq
   ·have e:[x]=[τ 0]:=e;exact .inl (List.cons.inj e).1
   have h2:=(Bb.1 m1.srt).1 q hq;have h2:rcmp [x] q.1<0:=h2;rw[e]at h2;exact .inr h2
  obtain⟨xk,xi,xs⟩:=x;refine zG zAm mixed Tryz.func40 rfl<|zB<|zA rfl<|v0s<|veT<|zB<|zA rfl<|vr 4 (True/\Ab=Ab)<|vc (hfa)<|vc (hm)<|ve (0<2/\1<2/\Ac=Ac/\Ab=Ab/\3=3/\3<=3)<|zB<|zB<|zA rfl<|vew [] [(8,Ac)] (True/\True/\0<2/\True/\((↑(Aa l+1):Int)==(0:Int))=Ac/\True/\0<2/\ix (0:Int) (↑(Aa l+1):Int) (zAh (([Va.mk xk xi xs],b)::l)≠[])/\0<Aa (zAh (([Va.mk xk xi xs],b)::l))/\True) ?_;refine vf<|zK<|zC<|zD<|zB<|zA rfl<|ve (True/\0<2/\ix (0:Int) (↑(Aa l+1):Int) (zAh (([Va.mk xk xi xs],b)::l)≠[])/\0<Aa (zAh (([Va.mk xk xi xs],b)::l))/\ix (0:Int) (↑(1:Nat):Int) ([iD xk,iD xi,Ao<|Value.string<|bs xs]≠[])/\3<=3/\Ac=Ac/\Ab=Ab/\3=3/\3<=3)<|zJ<|vret (3<=3)<|.inr rfl
theorem chosA_len(A:List (List Nat×List Rw))(s:Nat):(zDu A s).length<=A.length:=by
 unfold zDu;rw[Aq]
 have:=Bn (λi=>s.testBit i) (Ar A.length)
 rw[BV]at this;exact this
theorem chosA_sub(A:List (List Nat×List Rw))(s:Nat):∀b∈zDu A s,b∈A:=λb hb=>by
 obtain⟨i,hi,rfl⟩:=As.1 hb;have h1:=AQ.1 (AL.1 hi).1;rw[Au,AC h1];exact A7 h1
theorem satC_c{A:List (List Nat×List Rw)}(h:AtW A)(s:Nat):Pure Am 38 [.row ((zDu A s).flatMap atN) (zDu A s).length] [] (bD (alB A s)):=by
 obtain⟨b,hb,hs⟩:=zG5 _ (h.sub (AH (chosA_len A s) h.l) (chosA_sub A s));have e:b=alB A s:=by
  rw[Bx,hb,zSh];constructor
  ·rintro⟨τ,hτ⟩;exact⟨τ,sat_chos.1 hτ⟩
  rintro⟨τ,hτ⟩;exact⟨τ,sat_chos.2 hτ⟩
 rw[<-e];exact hs
section
variable (x0 : Int) (z1 : Int) (cs2 cs3 : List D) (m2 m3 : Nat) (A : List (List Nat × List Rw)) (r : Rw) (lev : Int) (xs : List Int)
end
theorem dif_le(a b:Nat):dif a b<=a:=sub_le (zPu a b)
end
section
open Go.RowKit
set_option maxRecDepth 100000
section
variable {B : Nat}
theorem arg_row{d:D}(hB:B<=2000000)(h:ArgB Am B 29 d):∃r:Rw,d=rowV r/\r.length<=B/\∀a∈r,Vt a:=by
 obtain⟨n,h1⟩:=h.cell (by kernel_rfl);obtain⟨r,e,h2,h3⟩:=in_rowB hB h1;injection e with e;exact⟨r,e,h2,h3⟩
end
end
section
open Go.RowKit
section
variable (vr : Nat → Nat) (n : Nat)
def cst(p:Nat×Nat×Bool)(j:Nat):Nat×Nat×Bool:=if p.1.testBit j=Ac/\vr j&&&p.2.1≠0 then(p.1|||2^j,p.2.1|||vr j,Ab)else p
def csts(m:Nat)(p:Nat×Nat×Bool):Nat×Nat×Bool:=(Ar m).foldl (cst vr) p
theorem zRy(m:Nat)(p:Nat×Nat×Bool):csts vr (m+1) p=cst vr (csts vr m p) m:=by
 unfold csts;rw[BF,BZ];rfl
def crnd:Nat->Nat->Nat->Option (Nat×Nat)
 |0,_,_=>AO
 |k+1,P,S=>if(csts vr n (P,S,Ac)).2.2 then crnd k (csts vr n (P,S,Ac)).1 (csts vr n (P,S,Ac)).2.1 else Av ((csts vr n (P,S,Ac)).1,(csts vr n (P,S,Ac)).2.1)
structure CI(P S:Nat):Prop where
 lt:∀j,P.testBit j=Ab->j<n
 s:∀b,S.testBit b=Ab↔∃j,P.testBit j=Ab/\(vr j).testBit b=Ab
variable {vr n}
theorem zMy{P j i:Nat}:(P|||2^j).testBit i=(P.testBit i||decide (j=i)):=by rw[AY,BA]
theorem CI.add{P S j:Nat}(h:CI vr n P S)(hj:j<n):CI vr n (P|||2^j) (S|||vr j):=by
 refine⟨λi hi=>?_,λb=>?_⟩
 ·rw[zMy,Bi,decide_eq_true_eq]at hi;rcases hi with hi|rfl
  ·exact h.lt i hi
  exact hj
 rw[AY,Bi,h.s];constructor
 ·rintro(⟨i,h1,h2⟩|h1)
  ·exact⟨i,by rw[zMy,h1];rfl,h2⟩
  exact⟨j,by rw[zMy];simp,h1⟩
 rintro⟨i,h1,h2⟩;rw[zMy,Bi,decide_eq_true_eq]at h1;rcases h1 with h1|rfl
 ·exact .inl ⟨i,h1,h2⟩
 exact .inr h2
theorem CI.one{i:Nat}(hi:i<n):CI vr n (2^i) (vr i):=by
 refine⟨λj hj=>?_,λb=>⟨λh=>⟨i,by simp,h⟩,λ⟨j,h1,h2⟩=>?_⟩⟩
 ·rw[BA,decide_eq_true_eq]at hj;omega
 rw[BA,decide_eq_true_eq]at h1;rw[h1];exact h2
theorem zTl{P S:Nat}(h:CI vr n P S):∀m,m<=n->CI vr n (csts vr m (P,S,Ac)).1 (csts vr m (P,S,Ac)).2.1/\Sub P (csts vr m (P,S,Ac)).1/\((csts vr m (P,S,Ac)).2.2=Ac->(csts vr m (P,S,Ac)).1=P/\(csts vr m (P,S,Ac)).2.1=S/\∀j,j<m->P.testBit j=Ab\/vr j&&&S=0)/\((csts vr m (P,S,Ac)).2.2=Ab->(csts vr m (P,S,Ac)).1≠P)
 |0,_=>⟨h,Sub.refl _,λ_=>⟨rfl,rfl,λj hj=>by omega⟩,λe=>by cases e⟩
 | m +1,hm=>by
  obtain⟨h1,h2,h3,h4⟩:=zTl h m (by omega);rw[zRy];generalize csts vr m (P,S,Ac)=q at*;obtain⟨Q,T,g⟩:=q;simp only at h1 h2 h3 h4;unfold cst;by_cases hc:Q.testBit m=Ac/\vr m&&&T≠0
  ·rw[if_pos hc];refine⟨h1.add (by omega),λi hi=>by show(Q|||2^m).testBit i=Ab;rw[zMy,h2 i hi];rfl,λe=>(by cases e),λ_ e=>?_⟩;have e:Q|||2^m=P:=e;have h5:P.testBit m=true:=by rw[<-e,zMy];simp
   have h6:=h2 m h5;rw[hc.1]at h6;cases h6
  rw[if_neg hc];refine⟨h1,h2,λhg=>?_,h4⟩;obtain⟨e1,e2,h5⟩:=h3 hg;have e1:Q=P:=e1;have e2:T=S:=e2;subst e1;subst e2;refine⟨rfl,rfl,λj hj=>?_⟩;rcases Aw j m with h6|h6
  ·exact h5 j h6
  obtain rfl:j=m:=by omega
  cases hb:Q.testBit j
  ·right;apply BI;intro h7;exact hc ⟨hb,h7⟩
  exact .inl rfl
def CP(vr:Nat->Nat)(n P:Nat):Prop:=(∀j,P.testBit j=Ab->j<n)/\∀i j,j<n->P.testBit i=Ab->P.testBit j=Ac->vr j&&&vr i=0
theorem zM1{P n:Nat}(h:∀j,P.testBit j=Ab->j<n):P<2^n:=by
 apply Nat.lt_pow_two_of_testBit;intro i hi;cases hb:P.testBit i
 ·rfl
 have:=h i hb;omega
theorem sub_lt'{P Q:Nat}(h:Sub P Q)(hne:Q≠P):P<Q:=by
 have:=sub_le h
 omega
theorem crnd_ex:∀(k P S:Nat),CI vr n P S->2^n-P<k->∃Q T,crnd vr n k P S=Av (Q,T)/\CP vr n Q/\Sub P Q
 |0,P,S,_,hk=>by omega
 | k +1,P,S,h,hk=>by
  obtain⟨h1,h2,h3,h4⟩:=zTl h n (AJ _);unfold crnd;cases hg:(csts vr n (P,S,Ac)).2.2
  ·obtain⟨e1,e2,h5⟩:=h3 hg;rw[if_neg (by decide),e1,e2];refine⟨P,S,rfl,⟨h.lt,λi j hj hi hjP=>?_⟩,Sub.refl _⟩;rcases h5 j hj with h6|h6
   ·rw[h6]at hjP;cases hjP
   refine zT8.2 λb hb=>?_;cases h7:(vr i).testBit b
   ·rfl
   have:=zT8.1 h6 b hb
   rw[(h.s b).2 ⟨i,hi,h7⟩]at this;cases this
  rw[if_pos rfl];have h5:=h4 hg;have h6:=sub_lt' h2 h5;have h7:=zM1 h1.lt;obtain⟨Q,T,k1,k2,k3⟩:=crnd_ex k _ _ h1 (by omega);exact⟨Q,T,k1,k2,h2.trans k3⟩
variable (vr n)
def zL3(i:Nat):Nat:=((crnd vr n (2^n+1) (2^i) (vr i)).getD (0,0)).1
def cmp1(p:Nat×List Nat)(i:Nat):Nat×List Nat:=if p.1.testBit i then p else(p.1|||zL3 vr n i,p.2++[zL3 vr n i])
def cmps(m:Nat):Nat×List Nat:=(Ar m).foldl (cmp1 vr n) (0,[])
theorem zR6(m:Nat):cmps vr n (m+1)=cmp1 vr n (cmps vr n m) m:=by
 unfold cmps;rw[BF,BZ];rfl
variable {vr n}
theorem zXd{i:Nat}(hi:i<n):(∃T,crnd vr n (2^n+1) (2^i) (vr i)=Av (zL3 vr n i,T))/\CP vr n (zL3 vr n i)/\(zL3 vr n i).testBit i=true:=by
 have hp:0<2^i:=Cq i;obtain⟨Q,T,h1,h2,h3⟩:=crnd_ex (2^n+1) (2^i) (vr i) (CI.one hi) (Nat.lt_succ_of_le (Nat.sub_le _ _));have e:zL3 vr n i=Q:=by
  unfold zL3;rw[h1];rfl
 rw[e];exact⟨⟨T,h1⟩,h2,h3 i (by simp)⟩
theorem zTs:∀m,m<=n->(∀P∈(cmps vr n m).2,CP vr n P)/\(∀i,(cmps vr n m).1.testBit i=Ab↔∃P∈(cmps vr n m).2,P.testBit i=Ab)/\(∀i,i<m->(cmps vr n m).1.testBit i=Ab)/\(cmps vr n m).2.length<=m/\(cmps vr n m).1<2^n
 |0,_=>⟨λP h=>(by cases h),λi=>⟨λh=>(by rw[show(cmps vr n 0).1=0 from rfl,BD]at h;cases h),λ⟨P,h,_⟩=>(by cases h)⟩,λi h=>(by omega),AJ _,Cq n⟩
 | m +1,hm=>by
  obtain⟨h1,h2,h3,h4,h5⟩:=zTs m (by omega);obtain⟨_,k2,k3⟩:=zXd (vr:=vr) (n:=n) (i:=m) (by omega);rw[zR6];unfold cmp1;generalize cmps vr n m=q at*;cases hb:q.1.testBit m
  ·rw [if_neg (by decide)];refine⟨λP hP=>?_,λi=>?_,λi hi=>?_,by simp;omega,Nat.or_lt_two_pow h5 (zM1 k2.1)⟩
   ·rcases Bv.1 hP with hP|hP
    ·exact h1 P hP
    rw[A2.1 hP];exact k2
   ·show(q.1|||zL3 vr n m).testBit i=Ab↔∃P∈q.2++[zL3 vr n m],P.testBit i=Ab;rw[AY,Bi,h2];constructor
    ·rintro(⟨P,hP,h⟩|h)
     ·exact⟨P,BX _ hP,h⟩
     exact⟨_,B9 _ (A2.2 rfl),h⟩
    rintro⟨P,hP,h⟩;rcases Bv.1 hP with hP|hP
    ·exact .inl ⟨P,hP,h⟩
    rw[A2.1 hP]at h;exact .inr h
   show(q.1|||zL3 vr n m).testBit i=Ab;rw[AY,Bi];rcases Aw i m with h6|h6
   ·exact .inl (h3 i h6)
   obtain rfl:i=m:=by omega
   exact .inr k3
  rw[if_pos rfl];refine⟨h1,h2,λi hi=>?_,by omega,h5⟩;rcases Aw i m with h6|h6
  ·exact h3 i h6
  obtain rfl:i=m:=by omega
  exact hb
end
def zDn(A:List (List Nat×List Rw)):List Nat:=(cmps (λi=>msk (A.getD i Af).1) A.length A.length).2
theorem zQ2(A:List (List Nat×List Rw)):(∀P∈zDn A,ClosP A P/\Sub P (2^A.length-1))/\(∀i,i<A.length->∃P∈zDn A,P.testBit i=Ab)/\(zDn A).length<=A.length:=by
 obtain⟨h1,h2,h3,h4,h5⟩:=zTs (vr:=λi=>msk (A.getD i Af).1) (n:=A.length) A.length (AJ _);refine⟨λP hP=>⟨λi j hi hj hPi hPj v hv hv2=>?_,λi hi=>?_⟩,λi hi=>(h2 i).1 (h3 i hi),h4⟩
 ·have:=(h1 P hP).2 i j hj hPi hPj
  have h6:=zT8.1 this v (by rw[zBu];exact decide_eq_true hv2);rw[zBu,decide_eq_true hv]at h6;cases h6
 rw[BQ];exact decide_eq_true ((h1 P hP).1 i hi)
end
def kput(ks:List Nat)(s:Nat):List Nat:=if s∈ks then ks else ks++[s]
def zC7(ks:List Nat)(l:List Nat):List Nat:=l.foldl kput ks
theorem zF6(ks l:List Nat)(s:Nat):zC7 ks (l++[s])=kput (zC7 ks l) s:=by
 unfold zC7;rw[BZ];rfl
def idxK(al:Nat->Bool)(sets ks:List Nat):List Nat:=match sets.findIdx? al with
 |none=>zC7 ks sets
 |some i=>zC7 ks (sets.take (i+1))
def gstep(al:Nat->Bool)(part:Nat)(p:Nat×List Nat)(i:Nat):Nat×List Nat:=
 if dif (part&&&2^i) p.1=0 then p else if al (p.1|||dif (part&&&2^i) p.1)then(p.1|||dif (part&&&2^i) p.1,kput p.2 (p.1|||dif (part&&&2^i) p.1))else(p.1,kput p.2 (p.1|||dif (part&&&2^i) p.1))
def zLt(al:Nat->Bool)(part:Nat)(l:List Nat)(p:Nat×List Nat):Nat×List Nat:=l.foldl (gstep al part) p
theorem zTb(al:Nat->Bool)(part:Nat)(l:List Nat)(p:Nat×List Nat)(i:Nat):zLt al part (l++[i]) p=gstep al part (zLt al part l p) i:=by
 unfold zLt;rw[BZ];rfl
theorem zW7{al:Nat->Bool}{part:Nat}:∀(l:List Nat)(p:Nat×List Nat),(zLt al part l p).1=zEd al part l p.1
 |[],p=>rfl
 | i::l,p=>by
  show(zLt al part l (gstep al part p i)).1=_;rw[zW7 l,show zEd al part (i::l) p.1=if dif (part&&&2^i) p.1≠0/\al (p.1|||dif (part&&&2^i) p.1)=Ab then zEd al part l (p.1|||dif (part&&&2^i) p.1)else zEd al part l p.1 from rfl];unfold gstep;by_cases h1:dif (part&&&2^i) p.1=0
  ·rw[if_pos h1,if_neg (λh=>h.1 h1)]
  rw[if_neg h1];cases h2:al (p.1|||dif (part&&&2^i) p.1)
  ·rw[if_neg (by decide),if_neg (λh=>by cases h.2)]
  rw[if_pos rfl,if_pos ⟨h1,rfl⟩]
def confK(al:Nat->Bool)(part:Nat):Nat->List Nat->List Nat->Option (List Nat×List Nat)
 |0,_,_=>AO
 |k+1,sets,ks=>match sets.find? al with
  |none=>Av (sets,idxK al sets ks)
  |some s=>confK al part k (zDq sets (dif part (zEd al part (Ar 32) s))) (zLt al part (Ar 32) (s,idxK al sets ks)).2
theorem zXh{al:Nat->Bool}{part:Nat}{r:List Nat}:∀(k:Nat)(sets ks:List Nat),zJ8 al part k sets=Av r->∃ks',confK al part k sets ks=Av (r,ks')
 |0,sets,ks,h=>by cases h
 | k+1,sets,ks,h=>by
  unfold zJ8 at h;unfold confK;split at h
  ·rename_i h0;cases h;try rw [h0]
   exact⟨_,rfl⟩
  rename_i s h0;try rw [h0]
  exact zXh k _ _ h
theorem zKi{kept:List Nat}{o s:Nat}:∀{l:List Nat},l.Nodup->(zA3 kept o s l).Nodup
 |[],_=>List.nodup_nil
 | i ::l,hn=>by
  obtain⟨h1,h2⟩:=B0.1 hn;unfold zA3;split
  ·exact zKi h2
  rename_i hne;split
  ·exact zKi h2
  refine B0.2 ⟨λhm=>?_,zKi h2⟩;obtain⟨j,hj,e,_⟩:=zCn hm;have hi:s.testBit i=Ac/\o.testBit i=true:=by
   apply BI;intro hh;apply hne;apply BE;intro q;rw[AY,AW,BA];by_cases hq:i=q
   ·subst hq;cases h3:s.testBit i<;>cases h4:o.testBit i<;>simp_all
   simp[hq]
  have h3:=congrArg (λn=>n.testBit i) e;simp only[AY,AW,BA]at h3;rw[hi.1,hi.2]at h3;have hij:j≠i:=λe=>h1 (e▸hj);simp[hij]at h3
theorem zRk{kept:List Nat}{o s g:Nat}{l:List Nat}(h:g∈zA3 kept o s l)(hs:s&&&o=0):dif g o=s:=by
 obtain⟨i,_,rfl,_⟩:=zCn h;apply BE;intro j;have h2:=congrArg (λn=>n.testBit j) hs;simp only[AW,BD]at h2;rw[zBo,AY,AW];cases h3:s.testBit j<;>cases h4:o.testBit j<;>simp_all
theorem meet_nd{sets:List Nat}(o:Nat)(h:sets.Nodup):(zDq sets o).Nodup:=by
 unfold zDq;refine List.nodup_append.2 ⟨h.filter _,?_,λa ha b hb e=>?_⟩
 ·refine List.pairwise_flatMap.2 ⟨λs hs=>zKi List.nodup_range,?_⟩;refine((h.filter λs=>s&&&o==0).imp_of_mem ?_);intro a b ha hb hne x hx y hy e;subst e;have h1:=zRk hx (by simpa using(AL.1 ha).2);have h2:=zRk hy (by simpa using(AL.1 hb).2);exact hne (h1.symm.trans h2)
 subst e;obtain⟨s,_,hg⟩:=Bo.1 hb;exact zHr hg a ha (Sub.refl a)
theorem zLu{kept:List Nat}{o s:Nat}:∀(l:List Nat),(zA3 kept o s l).length<=l.length
 |[]=>AJ _
 | i::l=>by
  unfold zA3
  have:=zLu (kept:=kept) (o:=o) (s:=s) l
  simp only[AR];split
  ·omega
  split
  ·omega
  simp only[AR];omega
theorem find_aa{al:Nat->Bool}:∀{sets:List Nat}{p:Nat},p<sets.length->al (sets.getD p 0)=Ab->(∀j,j<p->al (sets.getD j 0)=Ac)->sets.find? al=Av (sets.getD p 0)/\sets.findIdx? al=Av p
 |[],p,hp,_,_=>by cases hp
 |a::l,0,_,h1,_=>by
  have h1:al a=true:=h1;refine⟨?_,?_⟩
  ·rw[List.find?_cons_of_pos h1];rfl
  rw[CL,if_pos h1]
 |a::l,p+1,hp,h1,h2=>by
  have h0:al a=false:=h2 0 (by omega);obtain⟨k1,k2⟩:=find_aa (sets:=l) (p:=p) (by simpa using hp) (by simpa using h1) (λj hj=>by simpa using h2 (j+1) (by omega));refine⟨?_,?_⟩
  ·rw[List.find?_cons_of_neg (by rw[h0];decide),k1];rfl
  rw[CL,if_neg (by rw[h0];decide),k2];rfl
theorem find_nn{al:Nat->Bool}{sets:List Nat}(h:∀j,j<sets.length->al (sets.getD j 0)=Ac):sets.find? al=AO/\sets.findIdx? al=none:=by
 have hm:∀s∈sets,al s=false:=λs hs=>by
  obtain⟨j,hj,rfl⟩:=Cl hs
  have:=h j hj
  rwa[Au,AC hj]at this
 exact⟨Ch.2 λs hs=>by rw[hm s hs];decide,List.findIdx?_eq_none_iff.2 hm⟩
theorem fst_or(f:Nat->Bool):∀l:List Nat,(∃p,p<l.length/\f (l.getD p 0)=Ab/\∀j,j<p->f (l.getD j 0)=Ac)\/∀j,j<l.length->f (l.getD j 0)=Ac
 |[]=> .inr λj h=>by cases h
 | a::l=>by
  cases ha:f a
  ·rcases fst_or f l with⟨p,h1,h2,h3⟩|h
   ·refine .inl ⟨p+1,by simpa using h1,by simpa using h2,λj hj=>?_⟩;match j,hj with
    |0,_=>exact ha
    |j+1,hj=>simpa using h3 j (by omega)
   refine .inr λj hj=>?_;match j,hj with
   |0,_=>exact ha
   |j+1,hj=>simpa using h j (by simpa using hj)
  exact .inl ⟨0,by simp,ha,λj hj=>by omega⟩
theorem zM6(kept:List Nat)(o s:Nat):∀(l:List Nat)(i:Nat),zA3 kept o s (l++[i])=zA3 kept o s l++(if s|||(o&&&2^i)=s then[]else if kept.any (λk=>dif k (s|||(o&&&2^i))==0)then[]else[s|||(o&&&2^i)])
 |[],i=>by
  show zA3 kept o s [i]=_;unfold zA3;split
  ·rfl
  split<;>rfl
 | j::l,i=>by
  have ih:=zM6 kept o s l i;have e:∀l',zA3 kept o s (j::l')=if s|||(o&&&2^j)=s then zA3 kept o s l' else if kept.any (λk=>dif k (s|||(o&&&2^j))==0)then zA3 kept o s l' else(s|||(o&&&2^j))::zA3 kept o s l':=λl'=>rfl
  rw[A0,e,e,ih];split
  ·rfl
  split
  ·rfl
  rfl
theorem zW8{α β:Type}(f:α->List β)(c:Nat)(h:∀a,(f a).length<=c):∀l:List α,(l.flatMap f).length<=c*l.length
 |[]=>B4 _
 |a::l=>by
  rw[B1,AM,AR,Nat.mul_succ];have h1:=zW8 f c h l;have h2:=h a;omega
theorem cnf_few{al:Nat->Bool}{part:Nat}{Cs sets:List Nat}(h:Cnf al part Cs sets)(hn:sets.Nodup):sets.length<=part+1:=zN9 part sets hn λs hs=>sub_le (h.sub s hs)
theorem zXg{al:Nat->Bool}{part:Nat}:∀(k:Nat)(Cs sets r:List Nat),Cnf al part Cs sets->sets.Nodup->zJ8 al part k sets=Av r->r.length<=part+1
 |0,_,_,_,_,_,h=>by cases h
 | k+1,Cs,sets,r,hc,hn,h=>by
  unfold zJ8 at h;split at h
  ·injection h with h;rw[<-h];exact cnf_few hc hn
  rename_i s h0;exact zXg k _ _ r (zKl hc (Ci h0)) (meet_nd _ hn) h
section
open Go.RowKit
noncomputable def cflA (A:List (List Nat×List Rw)) (P:Nat):List Nat:=if alB A P then[]else(zJ8 (alB A) P (P+2) [0]).getD []
noncomputable def zP0 (A:List (List Nat×List Rw)):Option (List Int):=(((zDn A).flatMap (cflA A)).map memL).foldl bstS AO
theorem zPn:∀(l L:List (List Int))(o:Option (List Int)),FstL L o->FstL (L++l) (l.foldl bstS o)
 |[],L,o,h=>by rw[BO];exact h
 |a::l,L,o,h=>by
  have:=zPn l (L++[a]) (bstS o a) (bst_step h a)
  rwa[BM]at this
theorem zT1(A:List (List Nat×List Rw)){P:Nat}(hP:P<2^32)(m:Nat):m∈cflA A P↔MinC (alB A) P m:=by
 unfold cflA;split
 ·rename_i ha;refine⟨λh=>(by cases h),λh=>?_⟩
  have:=zKr A m P h.1 ha
  rw[h.2.1]at this;cases this
 obtain⟨r,hr,_⟩:=zL4 (P+2) [] [0] (zEe (alB A) P) (by show P+1-0<P+2;omega);rw[hr];exact zXf (zKr A) hP (P+2) [] [0] r (zEe (alB A) P) (mht_start P) (λC hC=>by cases hC) hr m
theorem bestA_ok(A:List (List Nat×List Rw))(hl:A.length<=32):∃L,FstL L (zP0 A)/\∀l,l∈L↔∃m,MinC (alB A) (2^A.length-1) m/\l=memL m:=by
 obtain⟨h1,h2,_⟩:=zQ2 A;refine⟨((zDn A).flatMap (cflA A)).map memL,?_,λl=>?_⟩
 ·have:=zPn (((zDn A).flatMap (cflA A)).map memL) [] AO rfl
  rwa[A8]at this
 have hp:=λm=>minc_part (A:=A) (parts:=zDn A) (full:=2^A.length-1) (λi=>by rw[BQ,decide_eq_true_eq]) h1 h2 m;have h32:∀P∈zDn A,P<2^32:=λP hP=>by
  have h3:=sub_le (h1 P hP).2;have h4:2^A.length<=2^32:=Bw (by omega) hl
  have:=Cq A.length
  omega
 constructor
 ·intro h;obtain⟨m,hm,rfl⟩:=As.1 h;obtain⟨P,hP,hm⟩:=Bo.1 hm;exact⟨m,(hp m).2 ⟨P,hP,(zT1 A (h32 P hP) m).1 hm⟩,rfl⟩
 rintro⟨m,hm,rfl⟩;obtain⟨P,hP,hm⟩:=(hp m).1 hm;exact As.2 ⟨m,Bo.2 ⟨P,hP,(zT1 A (h32 P hP) m).2 hm⟩,rfl⟩
theorem bst_ne:∀(l:List (List Int))(o:Option (List Int)),(∀x∈l,0<x.length)->(∀b,o=Av b->0<b.length)->∀b,l.foldl bstS o=Av b->0<b.length
 |[],o,_,ho,b,h=>ho b h
 | a::l,o,hl,ho,b,h=>by
  refine bst_ne l (bstS o a) (λx hx=>hl x (Bf _ hx)) (λc hc=>?_) b h;unfold bstS at hc;split at hc
  ·injection hc with hc;rw[<-hc];exact hl a (AV ..)
  split at hc
  ·injection hc with hc;rw[<-hc];exact hl a (AV ..)
  exact ho c hc
theorem zT3:∀(l:List (List Int))(o:Option (List Int)),(∀x∈l,x.length<=32)->(∀b,o=Av b->b.length<=32)->∀b,l.foldl bstS o=Av b->b.length<=32
 |[],o,_,ho,b,h=>ho b h
 | a::l,o,hl,ho,b,h=>by
  refine zT3 l (bstS o a) (λx hx=>hl x<|Bf _ hx) (λc hc=>?_) b h;unfold bstS at hc;split at hc
  ·injection hc with hc;rw[<-hc];exact hl a (AV ..)
  split at hc
  ·injection hc with hc;rw[<-hc];exact hl a (AV ..)
  exact ho c hc
theorem zPc(s:Nat):(memL s).length<=32:=by
 unfold memL;rw[Aq]
 have:=Bn (λi=>s.testBit i) (Ar 32)
 rw[BV]at this;exact this
theorem memL_ne{s:Nat}(hs:s<2^32)(h0:s≠0):0<(memL s).length:=by
 obtain⟨i,hi⟩:=CJ h0;have h32:i<32:=by
  rcases Aw i 32 with h|h
  ·exact h
  rw[CK (Cc hs (Bw (by omega) h))]at hi;cases hi
 exact List.length_pos_of_mem (memL_mem.2 ⟨h32,hi⟩)
theorem cfl_ok(A:List (List Nat×List Rw)){P:Nat}(hP:P<2^32){s:Nat}(h:s∈cflA A P):s<2^32/\s≠0:=by
 obtain⟨h1,h2,_⟩:=(zT1 A hP s).1 h;refine⟨B6 (sub_le h1) hP,λe=>?_⟩;rw[e,alB_0]at h2;cases h2
def agrR(known:Rw)(V:List Nat)(r:Rw):Bool:=(Ar V.length).all λk=>decide (V.getD k 0<known.length->r.getD k Af=known.getD (V.getD k 0) Af)
def alwR(known:Rw)(a:List Nat×List Rw):Bool:=a.2.any (agrR known a.1)
structure ValsOk(A:List (List Nat×List Rw))(vf:Nat->List Va):Prop where
 mem:∀v,(∃a∈A,v∈a.1)->∃a∈A,v∈a.1/\∀x,x∈vf v↔∃r∈a.2,r.getD (a.1.idxOf v) Af=x
def zPi(A:List (List Nat×List Rw))(vf:Nat->List Va):Nat->Rw->List Rw
 |0,known=>if A.all (alwR known)then[known]else[]
 |m+1,known=>if A.all (alwR known)then(vf known.length).flatMap λv=>zPi A vf m (known++[v])else[]
section
variable {A : List (List Nat × List Rw)} {vf : Nat → List Va} (hl : ∀ a ∈ A, ∀ r ∈ a.2, r.length = a.1.length)
theorem agr_iff{known:Rw}{V:List Nat}{r:Rw}:agrR known V r=Ab↔∀k,k<V.length->V.getD k 0<known.length->r.getD k Af=known.getD (V.getD k 0) default:=by
 unfold agrR;rw[A6];constructor
 ·intro h k hk;exact of_decide_eq_true (h k (AQ.2 hk))
 intro h k hk;exact decide_eq_true (h k (AQ.1 hk))
theorem zWo(f:Nat->Va)(V:List Nat)(k:Nat)(h:k<V.length):(V.map f).getD k Af=f (V.getD k 0):=by
 rw[Au,Bp,AC h,Au,AC h];rfl
theorem alw_of{known y:Rw}(hy:y.take known.length=known)(hs:SatA A λv=>y.getD v Af):A.all (alwR known)=true:=by
 rw[A6];intro a ha;refine Bj.2 ⟨_,hs a ha,agr_iff.2 λk hk hv=>?_⟩;rw[zWo _ _ _ hk];generalize a.1.getD k 0=j at hv⊢;have h:(y.take known.length)[j]?=known[j]?:=by rw[hy]
 rw[Ck,if_pos hv]at h;rw[Au,Au,h]
include hl
theorem zLq(hv:ValsOk A vf):∀(m:Nat)(known y:Rw),(∀a∈A,∀v∈a.1,v<known.length+m)->(∀v,known.length<=v->v<known.length+m->∃a∈A,v∈a.1)->(y∈zPi A vf m known↔y.length=known.length+m/\y.take known.length=known/\SatA A λv=>y.getD v Af)
 | 0, known,y,hlt,_=>by
  unfold zPi;constructor
  ·intro h;split at h
   ·rename_i ha;rw[A2.1 h];refine⟨by omega,Bq,λa haA=>?_⟩;obtain⟨r,hr,hag⟩:=Bj.1 (A6.1 ha a haA);have e:a.1.map (λv=>known.getD v Af)=r:=by
     have hlr:=hl a haA r hr;apply List.ext_getElem (by rw[Aq,hlr]);intro k h1 h2;rw[Aq]at h1;have h3:=agr_iff.1 hag k h1 (by
      have:=hlt a haA (a.1.getD k 0) (by rw[Au,AC h1];exact A7 h1)
      omega)
     rw[Au,AC h2]at h3;rw[List.getElem_map];have h4:r[k]=known.getD (a.1.getD k 0) default:=h3;rw[h4,Au (l:=a.1),AC h1];rfl
    rw[e];exact hr
   cases h
  rintro⟨h1,h2,h3⟩;have e:y=known:=by
   rw[<-h2,AT (by omega)]
  rw[if_pos (alw_of h2 h3),e];exact A2.2 rfl
 | m+1,known,y,hlt,hcv=>by
  unfold zPi;have hlen:∀v:Va,(known++[v]).length=known.length+1:=λv=>by simp
  have ih:=λv=>zLq hv m (known++[v]) y (λa ha w hw=>by rw[hlen];have:=hlt a ha w hw;omega) (λw h1 h2=>by rw[hlen]at h1 h2;exact hcv w (by omega) (by omega));have htk:∀v:Va,y.length=known.length+(m+1)->(y.take (known.length+1)=known++[v]↔y.take known.length=known/\y.getD known.length Af=v):=λv hy=>by
   rw[BN (by omega),Au,AC (by omega:known.length<y.length)];constructor
   ·intro h;obtain⟨h1,h2⟩:=List.append_inj h (by rw[AZ];omega);exact⟨h1,by simpa using h2⟩
   rintro⟨h1,h2⟩;have h2:y[known.length]=v:=h2;rw[h1,h2]
  constructor
  ·intro h;split at h
   ·obtain⟨v,hvv,h⟩:=Bo.1 h;obtain⟨h1,h2,h3⟩:=(ih v).1 h;rw[hlen]at h1 h2;exact⟨by omega,((htk v (by omega)).1 h2).1,h3⟩
   cases h
  rintro⟨h1,h2,h3⟩;rw[if_pos (alw_of h2 h3)];refine Bo.2 ⟨y.getD known.length Af,?_,(ih _).2 ⟨by rw[hlen];omega,by rw[hlen];exact(htk _ h1).2 ⟨h2,rfl⟩,h3⟩⟩;obtain⟨a,ha,hva,hx⟩:=hv.mem known.length (hcv known.length (AJ _) (by omega));refine(hx _).2 ⟨_,h3 a ha,?_⟩;have hi:=BT.2 hva;rw[zWo _ _ _ hi,Au (l:=a.1),AC hi,BL,Cf hi]
end
def cntR(L:List Rw)(x:Rw):Nat:=(L.filter λy=>decide (rcmp y x<0)).length
def insR(L:List Rw)(x:Rw):List Rw:=if x∈L then L else L.take (cntR L x)++x::L.drop (cntR L x)
theorem zPk(L:List Rw)(x:Rw):cntR L x<=L.length:=Bn _ _
theorem zHo(L:List Rw)(r x:Rw):x∈insR L r↔x=r\/x∈L:=by
 unfold insR;split
 ·rename_i h;exact⟨.inr,λhh=>hh.elim (λe=>e▸h) id⟩
 conv=>rhs;rw[<-Ca (cntR L r) L]
 simp only[Bv,AK];constructor
 ·rintro(h|h|h)
  ·exact .inr (.inl h)
  ·exact .inl h
  exact .inr (.inr h)
 rintro(h|h|h)
 ·exact .inr (.inl h)
 ·exact .inl h
 exact .inr (.inr h)
theorem zWz(L:List Rw)(r:Rw):(insR L r).length<=L.length+1:=by
 have:=zPk L r
 unfold insR;split
 ·omega
 simp only[AM,AR,AZ,BB];omega
theorem zK5:∀{L:List Rw}(x:Rw),Rsc L->(∀y∈L.take (cntR L x),rcmp y x<0)/\(∀y∈L.drop (cntR L x),¬rcmp y x<0)
 |[],x,_=>⟨λy h=>(by cases h),λy h=>(by cases h)⟩
 | a::L,x,h=>by
  obtain⟨h1,h2⟩:=Bb.1 h;obtain⟨i1,i2⟩:=zK5 x h2;unfold cntR at i1 i2⊢;by_cases ha:rcmp a x<0
  ·rw[List.filter_cons_of_pos (by rw[decide_eq_true ha]),AR];refine⟨λy hy=>?_,λy hy=>?_⟩
   ·rw[List.take_succ_cons]at hy;rcases AK.1 hy with rfl|hy
    ·exact ha
    exact i1 y hy
   rw[List.drop_succ_cons]at hy;exact i2 y hy
  have hz:L.filter (λy=>decide (rcmp y x<0))=[]:=List.filter_eq_nil_iff.2 λy hy hh=>by
   have:=of_decide_eq_true hh
   exact ha (zGp _ _ _ (h1 y hy) this)
  rw[List.filter_cons_of_neg (by rw[decide_eq_false ha];decide),hz];refine⟨λy hy=>(by cases hy),λy hy hh=>?_⟩;rw[B3,AN]at hy;rcases AK.1 hy with rfl|hy
  ·exact ha hh
  exact ha (zGp _ _ _ (h1 y hy) hh)
theorem zWy{L:List Rw}(r:Rw)(h:Rsc L):Rsc (insR L r):=by
 unfold insR;split
 ·exact h
 rename_i hne;obtain⟨hlt,hge⟩:=zK5 r h;have hsp:Rsc (L.take (cntR L r)++L.drop (cntR L r)):=by rw[Ca];exact h
 obtain⟨h1,h2,h3⟩:=List.pairwise_append.1 hsp;have hgt:∀x∈L.drop (cntR L r),rcmp r x<0:=λx hx=>by
  have hn:=hge x hx;obtain⟨c1,c2,c3⟩:=zBy x r;have:rcmp x r≠0:=λe=>hne (c2.1 e▸Cv hx);omega
 exact List.pairwise_append.2 ⟨h1,Bb.2 ⟨hgt,h2⟩,λx hx y hy=>by
  rcases AK.1 hy with rfl|hy
  ·exact hlt x hx
  exact h3 x hx y hy⟩
def prjL(cols:List Nat)(R:List Rw):List Rw:=R.foldl (λL r=>insR L (cols.map λc=>r.getD c Af)) []
theorem prjL_ok(cols:List Nat):∀(R L:List Rw),Rsc L->(∀x∈L,x.length=cols.length)->Rsc (R.foldl (λL r=>insR L (cols.map λc=>r.getD c Af)) L)/\(R.foldl (λL r=>insR L (cols.map λc=>r.getD c Af)) L).length<=L.length+R.length/\(∀x,x∈R.foldl (λL r=>insR L (cols.map λc=>r.getD c Af)) L↔x∈L\/∃r∈R,cols.map (λc=>r.getD c Af)=x)/\∀x∈R.foldl (λL r=>insR L (cols.map λc=>r.getD c Af)) L,x.length=cols.length
 |[],L,h,hl=>⟨h,AJ _,λx=>⟨.inl,λhh=>hh.elim id λ⟨r,hr,_⟩=>(by cases hr)⟩,hl⟩
 | r ::R,L,h,hl=>by
  obtain⟨h1,h2,h3,h4⟩:=prjL_ok cols R (insR L (cols.map λc=>r.getD c Af)) (zWy _ h) λx hx=>by
   rcases(zHo _ _ _).1 hx with rfl|hx
   ·exact Aq _
   exact hl x hx
  refine⟨h1,?_,λx=>?_,h4⟩
  ·have:=zWz L (cols.map λc=>r.getD c Af)
   rw[AR];exact AH h2 (by omega)
  rw[List.foldl_cons,h3,zHo];constructor
  ·rintro((rfl|hx)|⟨q,hq,e⟩)
   ·exact .inr ⟨r,AV ..,rfl⟩
   ·exact .inl hx
   exact .inr ⟨q,Bf _ hq,e⟩
  rintro(hx|⟨q,hq,e⟩)
  ·exact .inl (.inr hx)
  rcases AK.1 hq with rfl|hq
  ·exact .inl (.inl e.symm)
  exact .inr ⟨q,hq,e⟩
theorem prj_ok(cols:List Nat)(R:List Rw):Rsc (prjL cols R)/\(prjL cols R).length<=R.length/\(∀x,x∈prjL cols R↔∃r∈R,cols.map (λc=>r.getD c Af)=x)/\∀x∈prjL cols R,x.length=cols.length:=by
 obtain⟨h1,h2,h3,h4⟩:=prjL_ok cols R [] Ce.nil λx hx=>(by cases hx);refine⟨h1,by rw[B3,B5]at h2;exact h2,λx=>(h3 x).trans ⟨λhh=>hh.elim (λe=>(by cases e)) id, .inr⟩,h4⟩
def valF(A:List (List Nat×List Rw))(v:Nat):List Va:=match A.find? λa=>decide (v∈a.1)with
 |none=>[]
 |some a=>(prjL [a.1.idxOf v] a.2).map λx=>x.getD 0 Af
theorem zY8(A:List (List Nat×List Rw)):ValsOk A (valF A):=by
 refine⟨λv hv=>?_⟩;obtain⟨a,ha,hva⟩:=hv;cases hf:A.find? λa=>decide (v∈a.1)with
 |none=>exact absurd hva (by simpa using Ch.1 hf a ha)
 | some b=>
  have hb:=Ci hf;have hvb:v∈b.1:=by simpa using List.find?_some hf
  refine⟨b,hb,hvb,λx=>?_⟩;unfold valF;rw[hf];obtain⟨_,_,h3,_⟩:=prj_ok [b.1.idxOf v] b.2;simp only[As];constructor
  ·rintro⟨y,hy,rfl⟩;obtain⟨r,hr,rfl⟩:=(h3 y).1 hy;exact⟨r,hr,rfl⟩
  rintro⟨r,hr,rfl⟩;exact⟨_,(h3 _).2 ⟨r,hr,rfl⟩,rfl⟩
def snB(B:List (List Nat×List Rw))(v:Nat):Bool:=B.any λa=>decide (v∈a.1)
def rkN(f:Nat->Bool)(v:Nat):Nat:=((Ar v).filter f).length
theorem zNy(f:Nat->Bool)(v:Nat):rkN f (v+1)=rkN f v+if f v then 1 else 0:=by
 unfold rkN;rw[BF,Bt,AM,Bm];cases f v<;>rfl
theorem zVx(f:Nat->Bool):∀{a b:Nat},a<=b->rkN f a<=rkN f b:=λ{a b} h=>by
 induction h with
 |refl=>exact AJ _
 |step _ ih=>rw[zNy];omega
theorem zZ3{f:Nat->Bool}{v n:Nat}(hv:v<n)(hf:f v=Ab):rkN f v<rkN f n:=by
 have h1:=zNy f v;rw[hf,if_pos rfl]at h1;have h2:=zVx f (a:=v+1) (b:=n) hv;omega
theorem zZ4{f:Nat->Bool}{v:Nat}:∀{n:Nat},v<n->f v=Ab->((Ar n).filter f)[rkN f v]?=Av v
 |0,h,_=>by omega
 | n+1,h,hf=>by
  rw[BF,Bt];rcases Aw v n with h1|h1
  ·rw[CQ (zZ3 h1 hf)];exact zZ4 h1 hf
  obtain rfl:v=n:=by omega
  rw[CM (show((Ar v).filter f).length<=rkN f v from AJ _)];show([v].filter f)[rkN f v-rkN f v]?=Av v;rw[Nat.sub_self,List.filter_cons_of_pos hf];rfl
theorem zZ2{f:Nat->Bool}:∀{n k:Nat},k<rkN f n->∃v,v<n/\f v=Ab/\rkN f v=k
 |0,k,h=>by cases h
 | n+1,k,h=>by
  rw[zNy]at h;rcases Aw k (rkN f n)with h1|h1
  ·obtain⟨v,h2,h3,h4⟩:=zZ2 h1;exact⟨v,by omega,h3,h4⟩
  cases hf:f n
  ·rw[hf,if_neg (by decide)]at h;omega
  rw[hf,if_pos rfl]at h;exact⟨n,by omega,hf,by omega⟩
def renR(f:Nat->Bool)(a:List Nat×List Rw):List Nat×List Rw:=(a.1.map (rkN f),a.2)
def knK(f:Nat->Bool)(p:Rw)(n:Nat):Rw:=((Ar (min n p.length)).filter f).map λw=>p.getD w Af
theorem knK_len(f:Nat->Bool)(p:Rw)(n:Nat):(knK f p n).length=rkN f (min n p.length):=Aq _
def alwS(B:List (List Nat×List Rw))(n:Nat)(p:Rw):List Rw:=zPi (B.map (renR (snB B))) (valF (B.map (renR (snB B)))) (rkN (snB B) n-(knK (snB B) p n).length) (knK (snB B) p n)
theorem zZx{A:List (List Nat×List Rw)}{s:Nat}{p:Rw}(hl:∀a∈A,∀r∈a.2,r.length=a.1.length)(τ:Nat->Va):SatS (A.map (zBb p)) s τ↔SatS A s (shf p τ):=by
 have key:∀i,i<A.length->(((A.map (zBb p)).getD i Af).1.map τ∈((A.map (zBb p)).getD i Af).2↔(A.getD i Af).1.map (shf p τ)∈(A.getD i Af).2):=λi hi=>by
  have e:(A.map (zBb p)).getD i Af=zBb p (A.getD i Af):=by
   rw[Au,Bp,AC hi,Au,AC hi];rfl
  have hm:A.getD i Af∈A:=by rw[Au,AC hi];exact A7 hi
  have h1:=zF1 (A:=[A.getD i Af]) (p:=p) (λa ha r hr=>by
   rw[A2.1 ha]at hr⊢;exact hl _ hm r hr) τ
  rw[e];constructor
  ·intro h;exact h1.1 (λa ha=>by
    have:a=zBb p (A.getD i Af):=by simpa using ha
    rw[this];exact h) _ (A2.2 rfl)
  intro h;exact h1.2 (λa ha=>by rw[A2.1 ha];exact h) _ (by simp)
 unfold SatS;rw[Aq];exact⟨λh i hi hb=>(key i hi).1 (h i hi hb),λh i hi hb=>(key i hi).2 (h i hi hb)⟩
theorem zYt{A:List (List Nat×List Rw)}{n:Nat}{p:Rw}(s:Nat)(hlt:∀a∈A,∀v∈a.1,v<n)(hp:p.length<=n)(hl:∀a∈A,∀r∈a.2,r.length=a.1.length):alwS (zDu A s) n p≠[]↔alB (A.map (zBb p)) s=true:=by
 have hsub:∀b∈zDu A s,b∈A:=λb hb=>by
  obtain⟨i,hi,rfl⟩:=As.1 hb;have h1:=AQ.1 (AL.1 hi).1;rw[Au,AC h1];exact A7 h1
 have hal:alB (A.map (zBb p)) s=Ab↔∃τ,SatA (zDu A s) (shf p τ):=by
  rw[zSh];exact exists_congr λτ=>(zZx hl τ).trans sat_chos.symm
 rw[hal];unfold alwS;generalize hB:zDu A s=B at*;have hltB:∀a∈B,∀v∈a.1,v<n:=λa ha=>hlt a (hsub a ha);have hlB:∀a∈B,∀r∈a.2,r.length=a.1.length:=λa ha=>hl a (hsub a ha);have hfB:∀a∈B,∀v∈a.1,snB B v=true:=λa ha v hv=>Bj.2 ⟨a,ha,decide_eq_true hv⟩;have hfx:∀v,snB B v=Ab->∃a∈B,v∈a.1:=λv hv=>by
  obtain⟨a,ha,hv⟩:=Bj.1 hv;exact⟨a,ha,of_decide_eq_true hv⟩
 generalize snB B=f at*;have hkl:(knK f p n).length=rkN f p.length:=by rw[knK_len,Nat.min_eq_right hp]
 have hle:rkN f p.length<=rkN f n:=zVx f hp;have hK:knK f p n=((Ar p.length).filter f).map λw=>p.getD w default:=by
  unfold knK;rw[Nat.min_eq_right hp]
 have hKat:∀v,v<p.length->f v=Ab->(knK f p n).getD (rkN f v) Af=p.getD v default:=λv hv hf=>by
  rw[hK,Au,Bp,zZ4 hv hf];rfl
 have hspec:=λy=>zLq (A:=B.map (renR f)) (vf:=valF (B.map (renR f))) (λa ha r hr=>by
  obtain⟨b,hb,rfl⟩:=As.1 ha;show r.length=(b.1.map (rkN f)).length;rw[Aq];exact hlB b hb r hr) (zY8 _) (rkN f n-(knK f p n).length) (knK f p n) y (λa ha v hv=>by
  obtain⟨b,hb,rfl⟩:=As.1 ha;obtain⟨w,hw,rfl⟩:=As.1 hv
  have:=zZ3 (hltB b hb w hw) (hfB b hb w hw)
  omega) (λv h1 h2=>by
  obtain⟨w,w1,w2,w3⟩:=zZ2 (f:=f) (n:=n) (k:=v) (by omega);obtain⟨a,ha,hwa⟩:=hfx w w2;exact⟨renR f a,As.2 ⟨a,ha,rfl⟩,As.2 ⟨w,hwa,w3⟩⟩)
 rw[show(knK f p n).length+(rkN f n-(knK f p n).length)=rkN f n by omega]at hspec;constructor
 ·intro hne;obtain⟨y,hy⟩:=CR _ hne;obtain⟨y1,y2,y3⟩:=(hspec y).1 hy;refine⟨λv=>y.getD (rkN f (v+p.length)) Af,λa ha=>?_⟩;have h3:=y3 (renR f a) (As.2 ⟨a,ha,rfl⟩);have e:(renR f a).1.map (λv=>y.getD v Af)=a.1.map (shf p λv=>y.getD (rkN f (v+p.length)) Af):=by
   show(a.1.map (rkN f)).map _=_;rw[Bs];refine BH λv hv=>?_;show y.getD (rkN f v) Af=shf p _ v;unfold shf;split
   ·rename_i hvp;have h4:=hKat v hvp (hfB a ha v hv);rw[<-h4,<-y2];have h5:rkN f v<(knK f p n).length:=by rw[hkl];exact zZ3 hvp (hfB a ha v hv)
    rw[Au,Au,Ck,if_pos h5]
   rename_i hvp;show _=y.getD (rkN f (v-p.length+p.length)) Af;rw[show v-p.length+p.length=v by omega]
  rw[e]at h3;exact h3
 rintro⟨τ,hτ⟩;refine List.ne_nil_of_mem ((hspec (((Ar n).filter f).map (shf p τ))).2 ⟨Aq _,?_,λa ha=>?_⟩)
 ·have hsp:(Ar n).filter f=(Ar p.length).filter f++((List.range' p.length (n-p.length)).filter f):=by
   rw[<-Bt];congr 1;rw[List.range_eq_range',List.range_eq_range',show n=p.length+(n-p.length) by omega,Nat.add_sub_cancel_left]
   have:=List.range'_append (s:=0) (m:=p.length) (n:=n-p.length) (step:=1)
   simpa using this.symm
  rw[hsp,Bl,hkl,CS (by rw[Aq];exact AJ _),AT (by rw[Aq];exact AJ _),hK];refine BH λw hw=>?_
  have:=AQ.1 (AL.1 hw).1
  show shf p τ w=_;unfold shf;rw[if_pos this]
 obtain⟨b,hb,rfl⟩:=As.1 ha;have e:(renR f b).1.map (λv=>(((Ar n).filter f).map (shf p τ)).getD v Af)=b.1.map (shf p τ):=by
  show(b.1.map (rkN f)).map _=_;rw[Bs];refine BH λv hv=>?_;show(((Ar n).filter f).map (shf p τ)).getD (rkN f v) Af=shf p τ v;rw[Au,Bp,zZ4 (hltB b hb v hv) (hfB b hb v hv)];rfl
 rw[e];exact hτ b hb
def minB(al:Nat->Bool)(m s:Nat):Bool:=!al s&&(Ar m).all λi=>!s.testBit i||al (dif s (2^i))
theorem zWj{al:Nat->Bool}(hmo:∀a b,Sub a b->al b=Ab->al a=Ab){m s:Nat}(hs:s<2^m):minB al m s=Ab↔MinC al (2^m-1) s:=by
 have hfull:Sub s (2^m-1):=λi hi=>by
  rw[BQ];refine decide_eq_true ?_;rcases Aw i m with h|h
  ·exact h
  rw[CK (Cc hs (Bw (by omega) h))]at hi;cases hi
 unfold minB;rw[A5,Cx,A6];constructor
 ·rintro⟨h1,h2⟩;refine⟨hfull,h1,λt ht hta=>?_⟩;apply BI;intro hne;obtain⟨i,hi1,hi2⟩:∃i,s.testBit i=Ab/\t.testBit i=false:=by
   apply BI;intro hno;refine hne (ht.eq λi hi=>?_);cases hti:t.testBit i
   ·exact absurd ⟨i,hi,hti⟩ hno
   rfl
  have hi:=hfull i hi1;rw[BQ,decide_eq_true_eq]at hi;have h3:=h2 i (AQ.2 hi);rw[hi1,Cd,B_]at h3;have h4:=hmo t (dif s (2^i)) (λj hj=>by
   rw[zBo,ht j hj,BA,decide_eq_false (λe=>by subst e;rw[hi2]at hj;cases hj)];rfl) h3
  rw[hta]at h4;cases h4
 rintro⟨_,h1,h2⟩;refine⟨h1,λi _=>?_⟩;cases hi:s.testBit i
 ·rfl
 rw[Cd,B_];cases ha:al (dif s (2^i))
 ·have:=h2 _ (zPu s (2^i)) ha
  have h3:=congrArg (λn=>n.testBit i) this;simp only[zBo,hi,BA]at h3;simp at h3
 rfl
def rbst(al:Nat->Bool)(m:Nat)(k:Nat):Option (List Int):=(((Ar k).filter λj=>minB al m (j+1)).map λj=>memL (j+1)).foldl bstS AO
theorem zX6{al al':Nat->Bool}{m k:Nat}(h:∀s,s<=k->al s=al' s):rbst al m k=rbst al' m k:=by
 have hm:∀j,j<k->minB al m (j+1)=minB al' m (j+1):=λj hj=>by
  unfold minB;rw[h _ (by omega)];congr 1;rw[Bx,A6,A6];exact forall_congr' λi=>forall_congr' λ_=>by
   rw[h (dif (j+1) (2^i)) (AH (sub_le (zPu _ _)) (by omega))]
 unfold rbst;rw[List.filter_congr λj hj=>hm j (AQ.1 hj)]
theorem best_ref(A:List (List Nat×List Rw))(hl:A.length<=32):zP0 A=rbst (alB A) A.length (2^A.length-1):=by
 obtain⟨L,h1,h2⟩:=bestA_ok A hl;have h3:=zPn (((Ar (2^A.length-1)).filter λj=>minB (alB A) A.length (j+1)).map λj=>memL (j+1)) [] AO rfl;rw[A8]at h3;have hp:=Cq A.length;refine fst_uniq (λl=>?_) h1 h3;rw[h2,As];constructor
 ·rintro⟨m,hm,rfl⟩;have hle:=sub_le hm.1;have h0:m≠0:=λe=>by
   have:=hm.2.1
   rw[e,alB_0]at this;cases this
  refine⟨m-1,AL.2 ⟨AQ.2 (by omega),?_⟩,by rw[Nat.sub_add_cancel (by omega)]⟩;rw[Nat.sub_add_cancel (by omega)];exact(zWj (zKr A) (by omega)).2 hm
 rintro⟨j,hj,rfl⟩;obtain⟨j1,j2⟩:=AL.1 hj
 have:=AQ.1 j1
 exact⟨j+1,(zWj (zKr A) (by omega)).1 j2,rfl⟩
structure FirB(n:Nat)(A:List (List Nat×List Rw))(r p:Rw):Prop where
 l1:r.length<=p.length
 l2:p.length<=n
 t:p.take r.length=r
 a:Ans n A p
 m:∀z:Rw,z.length=n->SatA A (λv=>z.getD v Af)->z.take r.length=r->z.take p.length=p\/rcmp p (z.take p.length)<0
theorem zQt:∀(p q:List Va)(a c:Va),p.length=q.length->rcmp p q<0->rcmp (p++[a]) (q++[c])<0
 |[],[],a,c,_,h=>by simp[rcmp]at h
 | x::p,y::q,a,c,hl,h=>by
  have ih:=zQt p q a c (by simpa using hl);simp only[rcmp,A0]at h⊢;split at h
  ·rename_i hv;rw[if_pos hv];exact ih h
  rename_i hv;rw[if_neg hv];exact h
theorem zMu:∀(p:List Va)(a c:Va),rcmp (p++[a]) (p++[c])=rcmp [a] [c]
 |[],a,c=>rfl
 |x::p,a,c=>by
  have h:rcmp (x::(p++[a])) (x::(p++[c]))=rcmp (p++[a]) (p++[c]):=zQv 1 _ _ (by simp) (by simp) rfl;rw[A0,A0,h,zMu p a c]
theorem FirB.nil{n:Nat}{A:List (List Nat×List Rw)}{r:Rw}(hr:r.length<=n)(h:Ans n A r):FirB n A r r:=⟨AJ _,hr,Bq,h,λz _ _ ht=> .inl ht⟩
theorem FirB.none{n:Nat}{A:List (List Nat×List Rw)}{r p:Rw}(hA:AtOk n A)(h:FirB n A r p):∃τ,SatA (A.map (zBb p)) τ:=by
 obtain⟨τ,hτ⟩:=(zGw h.l2 hA.lt).1 h.a;exact⟨τ,(zF1 hA.len τ).2 hτ⟩
theorem FirB.step{n:Nat}{A:List (List Nat×List Rw)}{r p:Rw}(hA:AtOk n A)(h:FirB n A r p)(hp:p.length<n){x:Va}(hx:LstV (A.map (zBb p)) x):FirB n A r (p++[x]):=by
 obtain⟨⟨τ,h0,hτ⟩,hmin⟩:=hx;have hl:(p++[x]).length=p.length+1:=by simp
 have h1:=h.l1;refine⟨by omega,by omega,?_,?_,λz z1 z2 z3=>?_⟩
 ·rw[CS h.l1];exact h.t
 ·refine(zGw (by omega) hA.lt).2 ⟨λv=>τ (v+1),?_⟩;have e:shf (p++[x]) (λv=>τ (v+1))=shf p τ:=by
   funext v;unfold shf;rw[hl];rcases Nat.lt_trichotomy v p.length with h2|h2|h2
   ·rw[if_pos (by omega),if_pos h2,Au,CQ h2,Au]
   ·subst h2;rw[if_pos (by omega),if_neg (by omega),Au,CM (AJ _),Nat.sub_self];exact h0.symm
   rw[if_neg (by omega),if_neg (by omega)];show τ (v-(p.length+1)+1)=τ (v-p.length);rw[show v-(p.length+1)+1=v-p.length by omega]
  rw[e];exact(zF1 hA.len τ).1 hτ
 rw [hl];have ez:z.take (p.length+1)=z.take p.length++[z.getD p.length Af]:=by
  rw[BN (by omega),Au,AC (by omega)];rfl
 rw[ez];rcases h.m z z1 z2 z3 with h4|h4
 ·rw [h4,zMu];have hs:SatA (A.map (zBb p)) λv=>z.getD (v+p.length) default:=by
   rw[zF1 hA.len];have e:shf p (λv=>z.getD (v+p.length) Af)=λv=>z.getD v default:=by
    funext v;unfold shf;split
    ·rename_i hv;have h5:(z.take p.length)[v]?=p[v]?:=by rw[h4]
     rw[Ck,if_pos hv]at h5;rw[Au,Au,h5]
    rename_i hv;show z.getD (v-p.length+p.length) Af=z.getD v Af;rw[show v-p.length+p.length=v by omega]
   rw[e];exact z2
  rcases hmin _ hs with h5|h5
  ·left;rw[h5];show p++[z.getD p.length Af]=p++[z.getD (0+p.length) Af];rw[B5]
  right;simp only[B5]at h5;exact h5
 right;refine zQt _ _ _ _ ?_ h4;rw[AZ];omega
def witL(A:List (List Nat×List Rw))(y:Rw):List (Nat×Rw):=(Ar A.length).map λi=>(i,zR y (A.getD i Af).1)
theorem zFw(A:List (List Nat×List Rw))(y:Rw):(witL A y).length=A.length:=by simp[witL]
theorem zY1(A:List (List Nat×List Rw))(y:Rw)(i:Nat)(h:i<A.length):(witL A y).take (i+1)=(witL A y).take i++[(i,zR y (A.getD i Af).1)]:=by
 rw[BN (by rw[zFw];exact h)];congr 2;simp[witL]
end
section
open Go.RowKit
attribute [local irreducible] seqW awp zW zX zP Weak updS zZ retL Pure Acts rP setP setQ cP nP fr
set_option maxRecDepth 4096
def Sho(r:Rw):Prop:=r.length<=1000000/\∀v∈r,v.str.length<=3000000
theorem zW4(L:List Rw)(i:Nat)(h:i<L.length):((L.map rowV).drop i).headD .unk=rowV (L.getD i []):=zA2 rowV L [] i h
def grtR(r:Rw):Bool:=decide (8<r.length)||r.any λv=>decide (60<v.str.length)
theorem great_c(r:Rw)(hb:r.length<=2000000)(hs:∀v∈r,v.str.length<=2000000):Pure Am 31 [.row [rowV r] 1] [] (bD (grtR r)):=by
 refine zG zAm mixed Tryz.func31 rfl<|vAu<|zB<|vAe<|zF<|zS (λ(i:Nat)=>fr 31 [(0,Ae [rowV r] 1),(7,Ae [Ae (zL r)<|Aa r] 1),(8,iD (↑(1:Nat):Int)),(9,iD (i:Int))]) (λ(i:Nat)=>[]) (λi=>1-i) (λ(i:Nat)=>i=0\/i=1/\grtR r=Ac) 0 ?_ ?_ ?_
 ·exact .inl rfl
 ·refine vk 0
 rintro i (rfl|⟨rfl,h2⟩);case inr=>
  rw[h2];refine vAu<|zB<|vf<|vZ2<|vAe<|zJ<|vret (True)<|.inr rfl
 by_cases h8:8<r.length
 ·have hg:grtR r=true:=by unfold grtR;rw[decide_eq_true h8];rfl
  rw[hg];refine vAu<|zB<|vt<|vKB<|vA<|ve (ix ↑(0:Nat) ↑(1:Nat) ([(q3_ r)]≠[])/\0<1)<|zB<|vAe<|vT ((Aa r:Int)>(8:Int))<|vAe<|zJ<|zH<|zN<|zH<|zH<|zN ?_;refine zH<|vret (True)<|.inr rfl
 have hg:grtR r=r.any λv=>decide (60<v.str.length):=by unfold grtR;rw[decide_eq_false h8,B_]
 rw[hg];refine vAu<|zB<|vt<|vKB<|vA<|ve (ix ↑(0:Nat) ↑(1:Nat) ([(q3_ r)]≠[])/\0<1)<|zB<|vAe<|vF ((Aa r:Int)>(8:Int))<|vK<|vAe<|zF<|zS (λ(j:Nat)=>fr 31 [(0,Ae [rowV r] 1),(7,Ae [(q3_ r)] 1),(8,iD ↑(1:Nat)),(9,iD ↑(0:Nat)),(16,(q3_ r)),(17,iD<|Aa r),(18,iD j)]) (λ(j:Nat)=>[]) (λj=>r.length-j) (λ(j:Nat)=>j<=r.length/\(r.take j).any (λv=>decide (60<v.str.length))=Ac) 0 ?_ ?_ ?_
 ·exact⟨by omega,rfl⟩
 ·refine vk 0
 rintro j ⟨j1,j2⟩;rcases Aw j r.length with j3|j3
 ·have hin:=zAf r Af j j3;have hss:=hs _ hin;have htk:=zA1 r j j3;have hany:60<(r.getD j Af).str.length->(r.any λv=>decide (60<v.str.length))=true:=λhh=>Bj.2 ⟨_,hin,decide_eq_true hh⟩;have htv:=zCh r j j3;have hva:=zEk r (by omega);have hv3:=zDv r j j3;generalize r.getD j Af=v at*;obtain⟨ka,ia,str⟩:=v;simp only at hany hss;have hsz:(bs str).size=str.length:=bs_size str;by_cases h60:60<str.length
  ·rw[hany h60];refine vAu<|zB<|vT ((j:Int)<↑(Aa r))<|vKB<|vA<|vr 2 (ix ↑j ↑(Aa r) (zL r≠[])/\3<=Aa (Ah (j*3)<|zL r))<|vs 21 (AD<|Al 3<|Ah (j*3)<|zL r) (AD<|vaC<|Va.mk ka ia str) (hd:=by simp(disch:=omega) only[htv])<|ve (Ac=Ac/\Ab=Ab/\3=3/\3<=3)<|vA<|ve (True/\0<1)<|vT ((Aa str:Int)>(60:Int))<|vAe<|zJ<|zN<|zH<|zH<|zN ?_;refine zN<|zH<|zH<|zN<|zH<|vret (True)<|.inr rfl
  refine vAu<|zB<|vT ((j:Int)<(Aa r:Int))<|vKB<|vA<|vr 2 (ix (j:Int) (Aa r:Int) (zL r≠[])/\3<=Aa (Ah (j*3)<|zL r))<|vs 21 (AD<|Al 3<|Ah (j*3)<|zL r) (AD<|vaC<|Va.mk ka ia str) (hd:=by simp(disch:=omega) only[htv])<|ve (Ac=Ac/\Ab=Ab/\3=3/\3<=3)<|vA<|ve (True/\0<1)<|vF ((Aa str:Int)>(60:Int))<|zK<|zE<|vN<|zA rfl<|vr 2 (i6 ((j:Int)+(1:Int)))<|vnil<|zC<|⟨j+1,⟨by omega,?_⟩,by omega,?_⟩
  ·rw[htk,List.any_append,j2];simpa using h60
  refine vk 0
 rw[AT j3]at j2;obtain rfl:j=r.length:=by omega
 refine vAu<|zB<|vF ((Aa r:Int)<↑(Aa r))<|vY2<|zE<|vN<|zA rfl<|vr 2 (i6 (↑(0:Nat)+1))<|vnil<|zC ?_;exact⟨1, .inr ⟨rfl,j2⟩,by omega,by refine vk 0⟩
structure RaOk(A:List (List Nat×List Rw)):Prop where
 l:A.length<=1000
 v:∀a∈A,a.1.length<=1000
 r:∀a∈A,a.2.length<=10
 s:∀a∈A,∀r∈a.2,Sho r
 e:∀a∈A,∀r∈a.2,r.length=a.1.length
end
section
open Go.RowKit
def Cs.A(c:Cs):List (List Nat×List Rw):=(Ar c.V.length).map λi=>((c.V.getD i []).map Ap,relR (c.R.getD i []))
structure Cs.Good(c:Cs):Prop where
 s:c.Small
 l:c.V.length=c.R.length
 e:∀i,i<c.V.length->c.err i=0
 ck:icE c.n c.f c.desc.length c.P (c.ats c.V.length)=0
 f:c.Few
 t:c.Typ
theorem Cs.A_len(c:Cs):c.A.length=c.V.length:=by simp[Cs.A]
theorem Cs.Good.ok{c:Cs}(h:c.Good):AtOk c.n.toNat c.A:=by
 obtain⟨hs,hl,he,hc,hf,ht⟩:=h;obtain⟨i1,i2,i3,i4,i5,i6,i7,i8⟩:=Cs.ic hc;obtain⟨l1,l2,l3⟩:=Cs.lf hc;have hn6:c.n<=6:=by rcases hf.n with h|h<;>omega
 have hrow:∀i,i<c.V.length->(c.R.getD i []).length<=10/\∀x∈c.R.getD i [],x.length=(c.V.getD i []).length/\∀v∈x,vok v=Ab/\Vs v:=λi hi=>by
  have hm:c.R.getD i []∈c.R:=by rw[Au,AC (by omega)];exact A7 _
  refine⟨hf.r _ hm,λx hx=>?_⟩;have h1:=he i hi;unfold Cs.err rofA at h1;split at h1
  ·omega
  unfold rofE at h1;split at h1
  ·rename_i h2;exact absurd h1 h2
  rename_i h2;have h3:accL ((c.V.getD i []).length:Nat) (c.R.getD i [])=0:=BI h2;obtain⟨q1,q2⟩:=zXt h3 x hx;refine⟨by omega,λv hv=>?_⟩;have h4:=A6.1 q2 v hv;exact⟨h4,(ht _ hm x hx v hv).vs h4⟩
 have hA:∀a∈c.A,∃i,i<c.V.length/\a=((c.V.getD i []).map Ap,relR (c.R.getD i [])):=λa ha=>by
  obtain⟨i,hi,e⟩:=As.1 ha;exact⟨i,AQ.1 hi,e.symm⟩
 refine⟨by omega,by rw[Cs.A_len];exact hf.V,λa ha=>?_,λa ha v hv=>?_,λv hv=>?_,λa ha=>?_,λa ha r hr=>?_,λa ha=>?_,λa ha r hr v hv=>?_⟩
 ·obtain⟨i,hi,rfl⟩:=hA a ha;obtain⟨q1,q2⟩:=Cs.vars hc hi;exact BR.2 (q1.imp_of_mem λ{x y} hx hy h=>by have:=q2 x hx;have:=q2 y hy;omega)
 ·obtain⟨i,hi,rfl⟩:=hA a ha;obtain⟨z,hz,rfl⟩:=As.1 hv
  have:=(Cs.vars hc hi).2 z hz
  omega
 ·have h1:(useP c.n.toNat (c.ats c.V.length) []).getD v Ab=true:=by
   cases e:(useP c.n.toNat (c.ats c.V.length) []).getD v Ab with
   |true=>rfl
   |false=>
    have hlen:=zG2 c.n.toNat (c.ats c.V.length) [];rw[Au,AC (by omega),BL]at e;have:(useP c.n.toNat (c.ats c.V.length) []).contains Ac=true:=List.contains_iff_mem.2 (e▸A7 _);rw[l3]at this;cases this
  unfold useP at h1;rw[Au,Bp,B7 hv,Option.map_some,BL]at h1;simp only[Cr,decide_false,CF,Bj,decide_eq_true_eq]at h1;obtain⟨a,ha,hm⟩:=h1;obtain⟨i,hi,rfl⟩:=As.1 ha;have hi:=AQ.1 hi;exact⟨_,As.2 ⟨i,AQ.2 hi,rfl⟩,As.2 ⟨(v:Int),hm,by omega⟩⟩
 ·obtain⟨i,hi,rfl⟩:=hA a ha;exact zVv _
 ·obtain⟨i,hi,rfl⟩:=hA a ha
  have:=((hrow i hi).2 r (zHe.1 hr)).1
  rw[this];simp
 ·obtain⟨i,hi,rfl⟩:=hA a ha;exact AH (zKf _) (Nat.le_succ_of_le (hrow i hi).1)
 obtain⟨i,hi,rfl⟩:=hA a ha;exact((hrow i hi).2 r (zHe.1 hr)).2 v hv
theorem Cs.Good.ten{c:Cs}(h:c.Good):∀a∈c.A,a.2.length<=10:=λa ha=>by
 obtain⟨i,hi,rfl⟩:=As.1 ha;have hi:=AQ.1 hi;have hl:=h.l;exact AH (zKf _) (h.f.r _ (by rw[Au,AC (by omega)];exact A7 _))
theorem Cs.Good.atD{c:Cs}(h:c.Good):c.A.flatMap atN=(c.ats c.V.length).flatMap atC:=by
 unfold Cs.A Cs.ats;rw[BS,BS,List.flatMap_def,List.flatMap_def];refine congrArg List.flatten (BH λi hi=>?_);have hi:=AQ.1 hi;show[Ae (((c.V.getD i []).map Ap).map λv:Nat=>iD (v:Int)) ((c.V.getD i []).map Ap).length,iD (((c.V.getD i []).map Ap).length:Nat),_]=[Ae ((c.V.getD i []).map λz=>iD z) (c.V.getD i []).length,iD ((c.V.getD i []).length:Nat),_];rw[Bs,Aq];congr 2;exact BH λz hz=>by have:=(Cs.vars h.ck hi).2 z hz;show iD ((z.toNat:Nat):Int)=iD z;rw[show((z.toNat:Nat):Int)=z by omega]
theorem Cs.Good.inD{c:Cs}(h:c.Good):inpD c.n c.f c.desc c.P (c.ats c.V.length)= .agg [iD (c.n.toNat:Nat),iD (c.f.toNat:Nat), .row (c.desc.map bD) c.desc.length, .row (c.P.map λz=>iD z) c.P.length, .row (c.A.flatMap atN) c.A.length]:=by
 obtain⟨i1,i2,i3,i4,_⟩:=Cs.ic h.ck;rw[h.atD,Cs.A_len,show((c.n.toNat:Nat):Int)=c.n by omega,show((c.f.toNat:Nat):Int)=c.f by omega];show AD [_,_,_,_, .row _ (c.ats c.V.length).length]=_;rw[Cs.ats_len]
theorem AtOk.v32{n:Nat}{A:List (List Nat×List Rw)}(h:AtOk n A):∀a∈A,a.1.length<=32:=λa ha=>zB1 (A:=a.1) ⟨h.asc a ha,λv hv=>by have:=h.lt a ha v hv;have:=h.n8;omega⟩
theorem zPh{n:Nat}{A:List (List Nat×List Rw)}(h:AtOk n A){p:Rw}(hp:p.length<=n)(y:Rw):y∈zPi A (valF A) (n-p.length) p↔y.length=n/\y.take p.length=p/\SatA A λv=>y.getD v default:=by
 have:=zLq h.len (zY8 A) (n-p.length) p y (λa ha v hv=>by have:=h.lt a ha v hv;omega) (λv _ hv=>h.cov v (by omega))
 rwa[show p.length+(n-p.length)=n by omega]at this
theorem zSf{n:Nat}{A:List (List Nat×List Rw)}(h:AtOk n A){p:Rw}(hp:p.length<=n):ansB n A p=decide (0<(zPi A (valF A) (n-p.length) p).length):=by
 rw[Bx,zSe,decide_eq_true_eq,List.length_pos_iff];constructor
 ·rintro⟨y,hy⟩;exact List.ne_nil_of_mem ((zPh h hp y).2 hy)
 intro hne;obtain⟨y,hy⟩:=CR _ hne;exact⟨y,(zPh h hp y).1 hy⟩
theorem zWq{n:Nat}{A:List (List Nat×List Rw)}(h:AtOk n A){r:Rw}(hr:r.length<=n):lvlZ (λi=>decide (0<(zPi A (valF A) (n-i) (r.take i)).length)) r.length=lvlZ (λi=>ansB n A (r.take i)) r.length:=by
 refine zM0 _ λi hi=>?_;have hl:(r.take i).length=i:=by rw[AZ];omega
 rw[zSf h (by omega),hl]
theorem zXo{n:Nat}{A:List (List Nat×List Rw)}(h:AtOk n A){p:Rw}(hp:p.length<=n):zP0 (A.map (zBb p))=rbst (λs=>decide (0<(alwS (zDu A s) n p).length)) A.length (2^A.length-1):=by
 have hl:=h.l;rw[best_ref _ (by rw[Aq];omega),Aq];refine zX6 λs _=>?_;rw[Bx,<-zYt (A:=A) (n:=n) (p:=p) s h.lt hp h.len,decide_eq_true_eq,List.length_pos_iff]
abbrev nuV(k:Int):Va:=⟨1,k,[]⟩
def whC:Cs:=⟨3,2,[Ac,Ac],[2],[[0,2],[1,2]],[[[nuV 1,nuV 5],[nuV 2,nuV 6]],[[nuV 7,nuV 5]]]⟩
def whA:List (List Nat×List Rw):=[([0,2],[[nuV 1,nuV 5],[nuV 2,nuV 6]]),([1,2],[[nuV 7,nuV 5]])]
theorem whC_s:whC.Small:=⟨by decide,by decide,by decide,by decide,by decide,by decide⟩
theorem whC_e:∀i,i<whC.V.length->whC.err i=0:=by
 have:∀i:Fin 2,whC.err i=0:=by decide+kernel
 exact λi hi=>this ⟨i,hi⟩
theorem whC_A:whC.A=whA:=by decide+kernel
theorem whC_g:whC.Good:=by
 refine⟨whC_s,rfl,whC_e,by decide+kernel,⟨by decide,by decide,by decide,by decide,by decide,by decide,by decide,by decide⟩,?_⟩;intro l hl x hx v hv;have hall:(whC.R.all λl=>l.all λx=>x.all λv=>decide ((-9223372036854775808<=v.kind/\v.kind<=9223372036854775807)/\(-9223372036854775808<=v.int/\v.int<=9223372036854775807)/\v.str.length<=2000000))=true:=by decide+kernel
 have h4:=A6.1 (A6.1 (A6.1 hall l hl) x hx) v hv;rw[decide_eq_true_eq]at h4;exact h4
theorem zFf:AtOk 3 whA:=whC_A▸whC_g.ok
theorem ex_ans:ansB 3 whA [nuV 1,nuV 7]=true:=by
 rw[zSf zFf (by decide)];decide+kernel
theorem ex_fir{y:Rw}(h:FirB 3 whA [nuV 1,nuV 7] y)(hy:y.length=3):y=[nuV 1,nuV 7,nuV 5]:=by
 obtain⟨z,z1,z2,z3⟩:=h.a;have e:y=z:=by
  rw[<-z2,AT (by omega)]
 subst e;have hj:=(zPh zFf (p:=[nuV 1,nuV 7]) (by decide) y).2 ⟨z1,h.t,z3⟩;have he:zPi whA (valF whA) (3-[nuV 1,nuV 7].length) [nuV 1,nuV 7]=[[nuV 1,nuV 7,nuV 5]]:=by decide+kernel
 rw[he]at hj;exact A2.1 hj
theorem ex_lvl1:lvlZ (λi=>ansB 3 whA ([nuV 2,nuV 7].take i)) 2=0:=by
 have:=zWq zFf (r:=[nuV 2,nuV 7]) (by decide)
 rw[show 2=[nuV 2,nuV 7].length from rfl,<-this];decide+kernel
theorem ex_lvl2:lvlZ (λi=>ansB 3 whA ([nuV 1,nuV 8].take i)) 2=1:=by
 have:=zWq zFf (r:=[nuV 1,nuV 8]) (by decide)
 rw[show 2=[nuV 1,nuV 8].length from rfl,<-this];decide+kernel
theorem ex_best1:zP0 (whA.map (zBb ([nuV 2,nuV 7].take 1)))=Av [0,1]:=by
 rw[zXo zFf (by decide)];decide+kernel
theorem ex_best2:zP0 (whA.map (zBb ([nuV 1,nuV 8].take 2)))=Av [1]:=by
 rw[zXo zFf (by decide)];decide+kernel
def toAt(a:List Nat×List Rw):At:=⟨a.1.map λv:Nat=>(v:Int),(a.1.length:Nat),a.2⟩
theorem toAt_D(a:List Nat×List Rw):atC (toAt a)=atN a:=by
 show[Ae ((a.1.map λv:Nat=>(v:Int)).map λz=>iD z) (a.1.map λv:Nat=>(v:Int)).length,_,_]=_;rw[Bs,Aq];rfl
theorem toAt_fl(B:List (List Nat×List Rw)):(B.map toAt).flatMap atC=B.flatMap atN:=by
 rw[BS];exact congrArg (λf=>B.flatMap f) (funext toAt_D)
theorem ic_cov{n f:Int}{dn:Nat}{P:List Int}{B:List (List Nat×List Rw)}(h:icE n f dn P (B.map toAt)=0):∀v,v<n.toNat->∃b∈B,v∈b.1:=by
 have hl:lfE n (B.map toAt)=0:=by
  unfold icE at h;split at h
  ·omega
  split at h
  ·omega
  split at h
  ·omega
  exact h
 have hu:(useP n.toNat (B.map toAt) []).contains Ac=false:=by
  unfold lfE at hl;split at hl
  ·omega
  split at hl
  ·omega
  split at hl
  ·rename_i h1 h2 h3;exact absurd hl h3
  split at hl
  ·omega
  rename_i h1 h2 h3 h4;simpa using h4
 intro v hv;have h1:(useP n.toNat (B.map toAt) []).getD v Ab=true:=by
  cases e:(useP n.toNat (B.map toAt) []).getD v Ab with
  |true=>rfl
  |false=>
   have hlen:=zG2 n.toNat (B.map toAt) [];rw[Au,AC (by omega),BL]at e;have:(useP n.toNat (B.map toAt) []).contains Ac=true:=List.contains_iff_mem.2 (e▸A7 _);rw[hu]at this;cases this
 unfold useP at h1;rw[Au,Bp,B7 hv,Option.map_some,BL]at h1;simp only[Cr,decide_false,CF,Bj,decide_eq_true_eq]at h1;obtain⟨a,ha,hm⟩:=h1;obtain⟨b,hb,rfl⟩:=As.1 ha;obtain⟨w,hw,e⟩:=As.1 hm;exact⟨b,hb,by rwa[show v=w by omega]⟩
theorem AtOk.sub{n:Nat}{A B:List (List Nat×List Rw)}(h:AtOk n A)(hl:B.length<=5)(hs:∀b∈B,b∈A)(hc:∀v,v<n->∃b∈B,v∈b.1):AtOk n B:=⟨h.n8,hl,λa ha=>h.asc a (hs a ha),λa ha=>h.lt a (hs a ha),hc,λa ha=>h.srt a (hs a ha),λa ha=>h.len a (hs a ha),λa ha=>h.few a (hs a ha),λa ha=>h.val a (hs a ha)⟩
theorem zTq{L:List Rw}(x:Rw)(h:Rsc L){i:Nat}(hi:i<L.length):decide (0<=rcmp (L.getD i []) x)=decide (cntR L x<=i):=by
 obtain⟨h1,h2⟩:=zK5 x h;have e:L.getD i []=L[i]:=by rw[Au,AC hi];rfl
 rw[e,Bx,decide_eq_true_eq,decide_eq_true_eq];rcases Aw i (cntR L x)with h3|h3
 ·have h4:L[i]∈L.take (cntR L x):=List.mem_take_iff_getElem.2 ⟨i,by omega,rfl⟩
  have:=h1 _ h4
  omega
 have h4:L[i]∈L.drop (cntR L x):=List.mem_iff_getElem.2 ⟨i-cntR L x,by rw[BB];omega,by rw[List.getElem_drop];congr 1;omega⟩
 have:=h2 _ h4
 omega
theorem cntR_at{L:List Rw}{x:Rw}(h:Rsc L)(hm:x∈L):cntR L x<L.length/\L.getD (cntR L x) []=x:=by
 obtain⟨i,hi,e⟩:=Cl hm;have h1:=zTq x h hi;have e2:L.getD i []=x:=by rw[Au,AC hi];exact e
 rw[e2,(zBy x x).2.1.2 rfl,decide_eq_true (Int.le_refl _)]at h1;have h2:=of_decide_eq_true h1.symm;have h3:cntR L x<L.length:=by omega
 refine⟨h3,?_⟩;have h4:=zTq x h h3;rw[decide_eq_true (AJ _)]at h4;have h4:=of_decide_eq_true h4;rcases Aw (cntR L x) i with h5|h5
 ·have h6:=CH.1 h (cntR L x) i h3 hi h5;rw[e]at h6;have e3:L.getD (cntR L x) []=L[cntR L x]:=by rw[Au,AC h3];rfl
  rw[e3]at h4;omega
 rw[show cntR L x=i by omega];exact e2
theorem cntR_mem{L:List Rw}{x:Rw}(h:Rsc L):(decide (cntR L x<L.length)&&decide (L.getD (cntR L x) []=x))=decide (x∈L):=by
 rw[Bx,A5,decide_eq_true_eq,decide_eq_true_eq,decide_eq_true_eq];constructor
 ·rintro⟨h1,h2⟩;rw[<-h2,Au,AC h1];exact A7 _
 exact λhm=>cntR_at h hm
end
section
open Go.RowKit
attribute [local irreducible] seqW awp zW zX zP Weak updS zZ retL Pure Acts rP setP setQ cP nP fr
set_option maxRecDepth 4096
abbrev itsD(l:List Int):List D:=l.map λz=>iD z
abbrev u32K(l:List D):Bk:=⟨l,97,1,Ab,Ac, .plain⟩
theorem zCb(l:List Nat)(i:Nat)(h:i<l.length):((l.map u32D).drop i).headD .unk=u32D (l.getD i 0):=zA2 u32D l 0 i h
theorem zE3{l:List Nat}{P:Nat->Prop}(h:∀s∈l,P s){i:Nat}(hi:i<l.length):P (l.getD i 0):=by
 rw[Au,AC hi];exact h _ (A7 hi)
set_option maxHeartbeats 2000000 in
theorem wmem_c(s:Nat)(hs:s<4294967296):Pure Am 58 [u32D s] [] (.row (itsD (memL s)) (memL s).length):=by
 refine zG zAm mixed Tryz.func58 rfl<|zB<|zA rfl<|v0s<|veT<|zB<|zA rfl<|ve (True/\0<1/\1=1/\0<=16777216/\0<=9223372036854775807)<|zB<|zB<|zA rfl<|veT<|zF<|zAw (λ(i:Nat)(l:List Int)=>fr 20 [(0,u32D s),(2,nl),(3,Ai 0 0 (Aa l) (Aa l) Ab),(6,iD (i:Int))]) (λ(i:Nat)(l:List Int)=>[intB<|itsD l]) (λi l=>32-i) (λ(i:Nat)(l:List Int)=>i<=32/\l=((Ar i).filter λi=>s.testBit i).map λi:Nat=>(i:Int)) 0 [] ?_ ?_ ?_
 ·exact⟨by omega,rfl⟩
 ·refine vk 1
 rintro i l ⟨h1,h2⟩;have hl:l.length<=32:=by
  rw[h2,Aq]
  have:=Bn (λi=>s.testBit i) (Ar i)
  rw[BV]at this;omega
 have hcl:(itsD l).length=l.length:=Aq ..
 rcases Aw i 32 with h3|h3
 ·have hsu:((Ar (i+1)).filter λi=>s.testBit i).map (λi:Nat=>(i:Int))=if s.testBit i then l++[(i:Int)]else l:=by
   rw[BF,Bt,Bl,<-h2,Bm];cases s.testBit i<;>simp
  have w1:=zEo s (v:=i) (by omega);have w2:=zR8 hs i;have w3:=bit_w hs i;focus
   refine zB<|zA rfl<|v0s<|veT<|zB<|vT ((i:Int)<(32:Int))<|zK<|zC<|zD<|zB<|zF<|zB<|zA rfl<|veT<|zB<|zA rfl<|vr 3 ((0:Int)<=(i:Int))<|vs 11 (Ao<|An Ak<|Bd (s:Int) ((2:Int)^min (Ap (i:Int)) 32)) (dig (s>>>i)) (hd:=by simp(disch:=omega) only[AB,w1])<|vrT 1<|vs 12 (Ao<|An Ak<|AF Ak (↑(Ay (Aj 32 (↑(s>>>i):Int)&&&Aj 32 (1:Int))):Int)) (dig<|Ay (Aj 32 (↑(s>>>i):Int)&&&Aj 32 (1:Int))) (hd:=by simp(disch:=omega) only[zA5])<|vrT 1<|vs 13 (bD ((↑(Ay (Aj 32 (↑(s>>>i):Int)&&&Aj 32 (1:Int))):Int)==(1:Int))) (bD<|Cj s i) (hd:=by simp(disch:=omega) only[w2])<|veT<|zAr (t:=Cj s i) (by kernel_rfl) (λhc=>?_)<|λhc=>?_;refine zA rfl<|vr 5 (((1=1/\1<=1/\True)/\0<1/\1=1/\1<=16777216/\1<=9223372036854775807)/\A9 (intB<|itsD l)=Ab/\Aa (AA<|intB<|itsD l)=Aa l*1/\Aa l=Aa l*1/\A3 (intB<|itsD l)=3/\A4 (intB<|itsD l)=1/\1=1/\0<1/\0<8/\3=3/\(Aa l+1)*8<=140737488355328/\1=1/\A_ (AI<|intB<|itsD l)=Ac/\(Ac=Ac\/Ba (AI<|intB<|itsD l)=Ab))<|vs 3 (Ai 0 0 (Aa l+1) ((Aa l+1)*1) Ab) (Ai 0 0 (Aa l+1) (Aa l+1) Ab) (hd:=by simp(disch:=omega) only[Bh])<|vnil<|zE<|zC<|zD<|zA rfl<|vr 2 (i6 ((i:Int)+(1:Int)))<|vnil<|zC ?_;rotate_left;refine zK<|zE<|zC<|zD<|zA rfl<|vr 2 (i6 ((i:Int)+(1:Int)))<|vnil<|zC ?_;rotate_left
  ·have hc2:s.testBit i=true:=by assumption
   rw[hc2,if_pos rfl]at hsu;refine⟨i+1,l++[(i:Int)],⟨by omega,hsu.symm⟩,by omega,?_⟩;rw[show itsD (l++[(i:Int)])=itsD l++[iD (i:Nat)] by simp,AM,BJ];refine vk 1
  have hc2:s.testBit i=false:=by assumption
  rw[hc2,if_neg (by decide)]at hsu;refine⟨i+1,l,⟨by omega,hsu.symm⟩,by omega,?_⟩;refine vk 1
 obtain rfl:i=32:=by omega
 have h2:l=memL s:=h2;subst h2;have ht:(itsD (memL s)).take (memL s).length=itsD (memL s):=AT (by rw[Aq];exact AJ _);refine zB<|zA rfl<|v0s<|veT<|zB<|vf<|zV<|zM<|zM<|zQ rfl<|zC<|zD<|zB<|zA rfl<|veT<|zJ<|zAy (True) (Ae (Al (Aa<|memL s)<|Ah 0<|AA<|intB<|itsD<|memL s)<|Aa<|memL s) (Ae (itsD<|memL s)<|Aa<|memL s) (.inr rfl) (by simp(disch:=omega) only[AN,ht]) rfl
set_option maxHeartbeats 2000000 in
theorem meet1_c(k g:Nat)(hk:k<4294967296)(hg:g<4294967296):Pure Am 107 [u32D k, .ptr [u32D g]] [] (bD (dif k g==0)):=by
 have e:=an_eq hk hg (d:=dif k g) λi=>zBo _ _ i;have hle:=dif_le k g;have w:=zAs (n:=dif k g) (by omega);have e2:(((dif k g:Nat):Int)==0)=(dif k g==0):=by
  rw[Bx,beq_iff_eq,beq_iff_eq];omega
 refine zG zAm mixed Tryz.func107 rfl<|zB<|zA rfl<|v0s<|veT<|zB<|zA rfl<|vr 3 (0<1/\True)<|vs 6 (Ao<|An Ak<|AF Ak (↑(Ay (Aj 32 (k:Int)&&&~~~Aj 32 (g:Int))):Int)) (dig<|dif k g) (hd:=by simp(disch:=omega) only[w,e])<|vrT 1<|vs 7 (bD ((↑(dif k g):Int)==(0:Int))) (bD (dif k g==0)) (hd:=by simp(disch:=omega) only[e2])<|veT<|zJ<|vret (True)<|.inr rfl
abbrev meF(g:Nat):D:= .clo (.func 107) [] [.ptr [u32D g]]
def Twc(N:Nat)(i:FuncId->Bool):Par:=⟨i,λ_ _=>AO,λk=>decide (k<N),λ
 | .call {callee:= .value (.tmp _),..}=>Ab
 |_=>Ac,λ_=>Ac⟩
theorem zEh(N:Nat)(i:FuncId->Bool):zBi Am (Twc N i):=by intro t n f h;cases h
set_option maxHeartbeats 2000000 in
theorem indexM_c(kept:List Nat)(g:Nat)(hb:kept.length<=100000000)(hk:∀s∈kept,s<4294967296)(hg:g<4294967296):∃z:Int,(decide (0<=z)=kept.any λk=>dif k g==0)/\Pure Am 77 [.row (kept.map u32D) kept.length,meF g] [] (iD z):=by
 have hor:(∃p,p<kept.length/\(dif (kept.getD p 0) g==0)=Ab/\∀j,j<p->(dif (kept.getD j 0) g==0)=Ac)\/∀j,j<kept.length->(dif (kept.getD j 0) g==0)=false:=fst_or (λs=>dif s g==0) kept;rcases hor with⟨p,p1,p2,p3⟩|hno
 ·refine⟨p,?_,?_⟩
  ·rw[decide_eq_true (by omega)];refine(Bj.2 ⟨kept.getD p 0,?_,p2⟩).symm;rw[Au,AC p1];exact A7 p1
  refine zG (zEh 0 λ_=>Ac) mixed Tryz.func77 rfl<|zB<|zA rfl<|v0s<|veT<|zB<|zB<|zA rfl<|veT<|zF<|zS (λ(i:Nat)=>fr 19 [(0,Ae (Ad u32D kept)<|Aa kept),(1,meF g),(7,iD (Aa kept:Int)),(8,iD (i:Int))]) (λ(i:Nat)=>[]) (λ(i:Nat)=>p-i) (λ(i:Nat)=>i<=p) 0 ?_ ?_ ?_
  ·omega
  ·refine vk 0
  rintro i h1;have hx:=zCb kept i (by omega);have hne:kept.map u32D≠[]:=zAb;have hm:=meet1_c (kept.getD i 0) g (zE3 hk (by omega)) hg;rcases Aw i p with h2|h2
  ·rw[p3 i h2]at hm;generalize kept.getD i 0=s at*;refine zB<|zA rfl<|v0s<|veT<|zB<|vT ((i:Int)<(Aa kept:Int))<|zK<|zC<|zD<|zB<|zF<|zB<|zA rfl<|veT<|zB<|zA rfl<|vr 4 (ix (i:Int) (Aa kept:Int) (Ad u32D kept≠[]))<|vp 14 (i) (Ad u32D kept)<|vr 1 (0<Aa (Ah i<|Ad u32D kept))<|vsh 15 hx<|vc (hm)<|veT<|vf<|zK<|zE<|zC<|zD<|zA rfl<|vr 2 (i6 ((i:Int)+(1:Int)))<|vnil<|zC<|⟨i+1,by omega,by omega,?_⟩;refine vk 0
  obtain rfl:i=p:=by omega
  rw[p2]at hm;generalize kept.getD i 0=s at*;refine zB<|zA rfl<|v0s<|veT<|zB<|vT ((i:Int)<(Aa kept:Int))<|zK<|zC<|zD<|zB<|zF<|zB<|zA rfl<|veT<|zB<|zA rfl<|vr 4 (ix (i:Int) (Aa kept:Int) (Ad u32D kept≠[]))<|vp 14 (i) (Ad u32D kept)<|vr 1 (0<Aa (Ah i<|Ad u32D kept))<|vsh 15 hx<|vc (hm)<|veT<|vt<|zB<|zA rfl<|veT<|zJ<|zN ?_;refine zH<|zH<|zN<|zH<|vret (True)<|.inr rfl
 refine⟨-1,?_,?_⟩
 ·rw[decide_eq_false (by omega)];refine(List.any_eq_false.2 λs hs=>?_).symm;obtain⟨j,hj,rfl⟩:=Cl hs
  have:=hno j hj
  rw[Au,AC hj]at this;exact λh=>by rw[show(dif kept[j] g==0)=Ac from this]at h;cases h
 refine zG (zEh 0 λ_=>Ac) mixed Tryz.func77 rfl<|zB<|zA rfl<|v0s<|veT<|zB<|zB<|zA rfl<|veT<|zF<|zS (λ(i:Nat)=>fr 19 [(0,Ae (Ad u32D kept)<|Aa kept),(1,meF g),(7,iD (Aa kept:Int)),(8,iD (i:Int))]) (λ(i:Nat)=>[]) (λ(i:Nat)=>kept.length-i) (λ(i:Nat)=>i<=kept.length) 0 ?_ ?_ ?_
 ·omega
 ·refine vk 0
 rintro i h1;rcases Aw i kept.length with h2|h2
 ·have hx:=zCb kept i h2;have hne:kept.map u32D≠[]:=zAb;have hm:=meet1_c (kept.getD i 0) g (zE3 hk h2) hg;rw[hno i h2]at hm;generalize kept.getD i 0=s at*;refine zB<|zA rfl<|v0s<|veT<|zB<|vT ((i:Int)<(Aa kept:Int))<|zK<|zC<|zD<|zB<|zF<|zB<|zA rfl<|veT<|zB<|zA rfl<|vr 4 (ix (i:Int) (Aa kept:Int) (Ad u32D kept≠[]))<|vp 14 (i) (Ad u32D kept)<|vr 1 (0<Aa (Ah i<|Ad u32D kept))<|vsh 15 hx<|vc (hm)<|veT<|vf<|zK<|zE<|zC<|zD<|zA rfl<|vr 2 (i6 ((i:Int)+(1:Int)))<|vnil<|zC<|⟨i+1,by omega,by omega,?_⟩;refine vk 0
 obtain rfl:i=kept.length:=by omega
 refine zB<|zA rfl<|v0s<|veT<|zB<|vF ((Aa kept:Int)<(Aa kept:Int))<|zV<|zM<|zM<|zQ rfl<|zC<|zD<|zB<|zA rfl<|veT<|zJ<|vret (True)<|.inr rfl
theorem zTn(kept:List Nat)(g:Nat)(hb:kept.length<=100000000)(hk:∀s∈kept,s<4294967296)(hg:g<4294967296):Pure Am 106 [.row (kept.map u32D) kept.length,meF g] [] (bD (kept.any λk=>dif k g==0)):=by
 obtain⟨z,hz,hi⟩:=indexM_c kept g hb hk hg;rw[<-hz];refine zG zAm mixed Tryz.func106 rfl<|zB<|zA rfl<|v0s<|veT<|zB<|zA rfl<|vrT 2<|vc (hi)<|veT<|zJ<|vret (True)<|.inr rfl
theorem info_u32:(Am.info? 97).map (λi=>(i.zero,i.size,i.bytes))=Av (Av (.int .u32 0),1,4):=by kernel_rfl
set_option maxHeartbeats 400000 in
theorem zYq:Pure Am 105 [.row [] 0] [⟨[],97,1,Ab,Ac, .plain⟩] (.osl 0 0 0 0 Ab):=by
 refine zFj λI w vs hr=>?_;simp only[RelT,Rel]at hr;obtain⟨v,ys,rfl,⟨a,c,rfl,_,_,hc,_⟩,rfl⟩:=hr;cases a with
 |none=>
  obtain rfl:=hc rfl;have he:=λ(w:World)=>Lib.run_eql_slice_nil (P:=Am) w 113 97 AO 0 0 0 0 Tryz.underlying113;go_enter Tryz.func105,Tryz.ntmps105;go_wp2;go_ret;exact .inl ⟨rfl,Ext.refl _⟩
 |some x=>
  obtain⟨i0,hi,hz0,hz1,hz2⟩:=info_parts info_u32;have he:=λ(w:World)=>Lib.run_eql_slice_nil (P:=Am) w 113 97 (Av x) 0 c 0 0 Tryz.underlying113;have hS:RowAt (λ_=>True) w (Av x) []:= .inl rfl;go_enter Tryz.func105,Tryz.ntmps105;go_wp2_with (at_builtin;refine zA9 rfl _ _ 113 rfl w.heap.size 97 i0 (.int .u32 0) 1 4 Tryz.underlying113 hi hz0 hz1 hz2 rfl (by decide) (.slice (Av ⟨w.heap.size,0,AO⟩) 0 0) 0 [] rfl (World.ownsRow_made _ #[] 0 (AJ _) (B4 _) rfl) x 0 c [] rfl (by simp) (by simp) (by simp) (by simp[maxLen]) (by decide) (by simp) ?_;intro v' w' hown hgrow hdr);go_ret;have hext:Ext w w':=⟨((Below.refl _ _).alloc (AJ _) _).grown hgrow (by simp) (by simp[Value.ownBlock]),hdr⟩;obtain⟨_,⟨rfl,_⟩|⟨g,cap,cur,rfl,hb,hg,_,hc1,hs,_⟩⟩:=hown
  ·exact .inl ⟨rfl,hext⟩
  exact .inr ⟨g,cur.toList,cap,rfl,hb,hext,by rw[Array.toArray_toList];exact hg,by simpa using hs,hc1⟩
theorem zYp(cs:List D)(n:Nat)(hl:cs.length=n)(hn:n<=1000000000):Pure Am 105 [.row cs n] [⟨cs,97,1,Ab,Ac, .plain⟩] (.osl 0 0 n n Ab):=by
 by_cases h0:n=0
 ·subst h0;obtain rfl:cs=[]:=CO (by omega);exact zYq
 have h1:0<n:=by omega
 refine zBp zAm mixed Tryz.func105 rfl rfl<|zB<|zA rfl<|v0s<|veT<|zB<|zB<|zA rfl<|ve (0<n)<|vf<|zK<|zC<|zD<|zB<|zA rfl<|vr 4 ((True/\0<1/\1=1/\0<=16777216/\0<=9223372036854775807)/\Ab=Ab/\0=0/\0=0/\97=97/\1=1/\Aa cs=n*1/\0<1/\0<4/\97=97/\(0+n)*4<=140737488355328/\1=1/\Ac=Ac/\(Ac=Ac\/Ac=Ab))<|vs 2 (Ai 0 0 (0+n) ((0+n)*1) Ab) (Ai 0 0 n n Ab) (hd:=by simp(disch:=omega) only[B5,Bh])<|veT<|zJ<|zAj (True) [Ai 0 0 n n Ab] (.inr rfl) ?_;exact⟨0,by simp[oneD],by kernel_rfl⟩
theorem zSr(l:List Nat)(s:Nat):(l++[s]).map u32D=l.map u32D++[u32D s]:=by simp
set_option maxHeartbeats 4000000 in
theorem meeting_c(sets:List Nat)(o:Nat)(hn:sets.length<=1000000)(hs:∀s∈sets,s<4294967296)(ho:o<4294967296):Pure Am 78 [.row (sets.map u32D) sets.length,u32D o] [] (.row ((zDq sets o).map u32D) (zDq sets o).length):=by
 refine zG zAm mixed Tryz.func78 rfl<|zB<|zA rfl<|v0s<|veT<|zB<|zA rfl<|ve (True/\0<1/\1=1/\0<=16777216/\0<=9223372036854775807)<|zB<|zB<|zA rfl<|veT<|zF<|zAw (λ(i:Nat)(L:List Nat)=>fr 64 [(0,Ae (Ad u32D sets)<|Aa sets),(1,u32D o),(4,nl),(5,Ai 0 0 (Aa L) (Aa L) Ab),(14,Ae (Ad u32D sets)<|Aa sets),(15,iD (Aa sets:Int)),(16,iD (i:Int))]) (λ(i:Nat)(L:List Nat)=>[u32K<|L.map u32D]) (λi L=>sets.length-i) (λ(i:Nat)(L:List Nat)=>i<=sets.length/\L=(sets.take i).filter λs=>s&&&o !=0) 0 [] ?_ ?_ ?_
 ·exact⟨by omega,rfl⟩
 ·refine vk 1
 rintro i L ⟨h1,h2⟩;have hL:L.length<=sets.length:=by
  rw[h2];refine AH (Bn _ _) ?_;rw[AZ];omega
 have hcl:(L.map u32D).length=L.length:=Aq ..
 rcases Aw i sets.length with h3|h3
 ·have hx:=zCb sets i h3;have hne:sets.map u32D≠[]:=zAb;have hs2:sets.getD i 0<4294967296:=zE3 hs h3;have htk:=zDb sets i h3;have hsu:(sets.take (i+1)).filter (λs=>s&&&o !=0)=if sets.getD i 0&&&o !=0 then L++[sets.getD i 0]else L:=by
   rw[htk,Bt,<-h2,Bm];cases sets.getD i 0&&&o !=0<;>simp
  generalize sets.getD i 0=s at*;have hand:s&&&o<4294967296:=B6 Ct hs2;have w1:=zMf hs2 ho;have w2:=zAs hand;by_cases hq:s&&&o=0
  ·have w3:(((s&&&o:Nat):Int)!=0)=false:=by rw[hq];rfl
   rw[if_neg (by rw[hq];decide)]at hsu;refine zB<|zA rfl<|v0s<|veT<|zB<|vT ((i:Int)<(Aa sets:Int))<|zK<|zC<|zD<|zB<|zF<|zB<|zA rfl<|vr 1 (ix (i:Int) (Aa sets:Int) (Ad u32D sets≠[]))<|vp 18 (i) (Ad u32D sets)<|vr 1 (0<Aa (Ah i<|Ad u32D sets))<|vsh 19 hx<|veT<|zB<|zA rfl<|vrT 3<|vs 22 (Ao<|An Ak<|AF Ak (↑(Ay (Aj 32 (s:Int)&&&Aj 32 (o:Int))):Int)) (dig (s&&&o)) (hd:=by simp(disch:=omega) only[w2,w1])<|vrT 1<|vs 23 (bD ((↑(s&&&o):Int)!=(0:Int))) (bD Ac) (hd:=by simp(disch:=omega) only[w3])<|veT<|vf<|zK<|zE<|zC<|zD<|zA rfl<|vr 2 (i6 ((i:Int)+(1:Int)))<|vnil<|zC<|⟨i+1,L,⟨by omega,hsu.symm⟩,by omega,?_⟩;refine vk 1
  have w3:(((s&&&o:Nat):Int)!=0)=true:=by rw[bne_iff_ne];omega
  rw[if_pos (by rw[bne_iff_ne];exact hq)]at hsu;refine zB<|zA rfl<|v0s<|veT<|zB<|vT ((i:Int)<(Aa sets:Int))<|zK<|zC<|zD<|zB<|zF<|zB<|zA rfl<|vr 1 (ix (i:Int) (Aa sets:Int) (Ad u32D sets≠[]))<|vp 18 (i) (Ad u32D sets)<|vr 1 (0<Aa (Ah i<|Ad u32D sets))<|vsh 19 hx<|veT<|zB<|zA rfl<|vrT 3<|vs 22 (Ao<|An Ak<|AF Ak (↑(Ay (Aj 32 (s:Int)&&&Aj 32 (o:Int))):Int)) (dig (s&&&o)) (hd:=by simp(disch:=omega) only[w2,w1])<|vrT 1<|vs 23 (bD ((↑(s&&&o):Int)!=(0:Int))) (bD Ab) (hd:=by simp(disch:=omega) only[w3])<|veT<|vt<|zA rfl<|vr 5 (((1=1/\1<=1/\True)/\0<1/\1=1/\1<=16777216/\1<=9223372036854775807)/\A9 (u32K<|Ad u32D L)=Ab/\Aa (AA<|u32K<|Ad u32D L)=Aa L*1/\Aa L=Aa L*1/\A3 (u32K<|Ad u32D L)=97/\A4 (u32K<|Ad u32D L)=1/\1=1/\0<1/\0<4/\97=97/\(Aa L+1)*4<=140737488355328/\1=1/\A_ (AI<|u32K<|Ad u32D L)=Ac/\(Ac=Ac\/Ba (AI<|u32K<|Ad u32D L)=Ab))<|vs 5 (Ai 0 0 (Aa L+1) ((Aa L+1)*1) Ab) (Ai 0 0 (Aa L+1) (Aa L+1) Ab) (hd:=by simp(disch:=omega) only[Bh])<|vnil<|zE<|zC<|zD<|zA rfl<|vr 2 (i6 ((i:Int)+(1:Int)))<|vnil<|zC<|⟨i+1,L++[s],⟨by omega,hsu.symm⟩,by omega,?_⟩;rw[zSr,AM,BJ];refine vk 1
 obtain rfl:i=sets.length:=by omega
 rw[Bq]at h2;have h2:L=zYd sets o:=h2;have hK:∀s∈L,s<4294967296:=λs h=>hs s (AL.1 (h2▸h)).1;have ht:(L.map u32D).take L.length=L.map u32D:=AT (by omega);have hco:=zYp (L.map u32D) L.length hcl (by omega);refine zB<|zA rfl<|v0s<|veT<|zB<|vF ((Aa sets:Int)<(Aa sets:Int))<|zV<|zM<|zM<|zQ rfl<|zC<|zD<|zB<|zA rfl<|vrT 1<|vnl [Ae (Al (Aa L)<|Ah 0<|AA<|u32K<|Ad u32D L)<|Aa L] [Ae (Ad u32D L)<|Aa L] (BU (by simp(disch:=omega) only[AN,ht])) (by exact hco)<|veT<|zB<|zB<|zA rfl<|veT<|zF<|zAw (λ(i:Nat)(M:List Nat)=>fr 64 [(1,u32D o),(4,nl),(5,Ai 0 0 (Aa L) (Aa L) Ab),(8,Ai 1 0 (Aa M) (Aa M) Ab),(31,Ae (Ad u32D sets)<|Aa sets),(32,iD (Aa sets:Int)),(33,iD (i:Int))]) (λ(i:Nat)(M:List Nat)=>[⟨L.map u32D,97,1,Ab,Ab,.plain⟩,u32K<|M.map u32D]) (λi M=>sets.length-i) (λ(i:Nat)(M:List Nat)=>i<=sets.length/\M=L++((sets.take i).filter λs=>s&&&o==0).flatMap λs=>zA3 L o s (Ar 32)) 0 L ?_ ?_ ?_
 ·exact⟨by omega,by simp⟩
 ·refine vk 2
 rintro i M ⟨i1,i2⟩;have hgl:∀s,(zA3 L o s (Ar 32)).length<=32:=λs=>zLu (Ar 32);have hM:M.length<=33000000:=by
  rw[i2,AM];have h5:=zW8 (λs=>zA3 L o s (Ar 32)) 32 hgl ((sets.take i).filter λs=>s&&&o==0);have h6:=Bn (λs=>s&&&o==0) (sets.take i);rw[AZ]at h6;omega
 rcases Aw i sets.length with i3|i3;case inr=>
  obtain rfl:i=sets.length:=by omega
  rw[Bq]at i2;have i2:M=zDq sets o:=by rw[i2,h2];rfl
  subst i2;have ht2:((zDq sets o).map u32D).take (zDq sets o).length=(zDq sets o).map u32D:=AT (by rw[Aq];exact AJ _);refine zB<|zA rfl<|v0s<|veT<|zB<|vF ((Aa sets:Int)<(Aa sets:Int))<|zV<|zM<|zM<|zQ rfl<|zC<|zD<|zB<|zA rfl<|veT<|zJ<|zAy (True) (Ae (Al (Aa<|zDq sets o)<|Ah 0<|AA<|u32K<|Ad u32D<|zDq sets o)<|Aa<|zDq sets o) (Ae (Ad u32D<|zDq sets o)<|Aa<|zDq sets o) (.inr rfl) (by simp(disch:=omega) only[AN,ht2]) rfl
 have hx:=zCb sets i i3;have hne:sets.map u32D≠[]:=zAb;have hs2:sets.getD i 0<4294967296:=zE3 hs i3;have htk:=zDb sets i i3;have hsu:L++((sets.take (i+1)).filter λs=>s&&&o==0).flatMap (λs=>zA3 L o s (Ar 32))=if sets.getD i 0&&&o==0 then M++zA3 L o (sets.getD i 0) (Ar 32)else M:=by
  rw[htk,Bt,BC,<-BM,<-i2,Bm];cases sets.getD i 0&&&o==0<;>simp
 generalize sets.getD i 0=s at*;have hand:s&&&o<4294967296:=B6 Ct hs2;have w1:=zMf hs2 ho;have w2:=zAs hand;by_cases hq:s&&&o=0;case neg=>
  have w3:(((s&&&o:Nat):Int)!=0)=true:=by rw[bne_iff_ne];omega
  rw[if_neg (by rw[beq_iff_eq];exact hq)]at hsu;refine zB<|zA rfl<|v0s<|veT<|zB<|vT ((i:Int)<(Aa sets:Int))<|zK<|zC<|zD<|zB<|zF<|zB<|zA rfl<|vr 1 (ix (i:Int) (Aa sets:Int) (Ad u32D sets≠[]))<|vp 35 (i) (Ad u32D sets)<|vr 1 (0<Aa (Ah i<|Ad u32D sets))<|vsh 36 hx<|veT<|zB<|zB<|zA rfl<|vrT 3<|vs 39 (Ao<|An Ak<|AF Ak (↑(Ay (Aj 32 (s:Int)&&&Aj 32 (o:Int))):Int)) (dig (s&&&o)) (hd:=by simp(disch:=omega) only[w1,w2])<|vrT 1<|vs 40 (bD ((↑(s&&&o):Int)!=(0:Int))) (bD Ab) (hd:=by simp(disch:=omega) only[w3])<|veT<|vt<|zV ?_;refine zM<|zQ rfl<|zC<|zD<|zA rfl<|vr 2 (i6 ((i:Int)+(1:Int)))<|vnil<|zC<|⟨i+1,M,⟨by omega,hsu.symm⟩,by omega,?_⟩;refine vk 2
 have w3:(((s&&&o:Nat):Int)!=0)=false:=by rw[hq];rfl
 rw[if_pos (by rw[hq];decide)]at hsu;refine zB<|zA rfl<|v0s<|veT<|zB<|vT ((i:Int)<(Aa sets:Int))<|zK<|zC<|zD<|zB<|zF<|zB<|zA rfl<|vr 1 (ix (i:Int) (Aa sets:Int) (Ad u32D sets≠[]))<|vp 35 (i) (Ad u32D sets)<|vr 1 (0<Aa (Ah i<|Ad u32D sets))<|vsh 36 hx<|veT<|zB<|zB<|zA rfl<|vrT 3<|vs 39 (Ao<|An Ak<|AF Ak (↑(Ay (Aj 32 (s:Int)&&&Aj 32 (o:Int))):Int)) (dig (s&&&o)) (hd:=by simp(disch:=omega) only[w1,w2])<|vrT 1<|vs 40 (bD ((↑(s&&&o):Int)!=(0:Int))) (bD Ac) (hd:=by simp(disch:=omega) only[w3])<|veT<|vf<|zK<|zC<|zD<|zB<|zA rfl<|veT<|zF<|zAw (λ(j:Nat)(R:List Nat)=>fr 64 [(1,u32D o),(4,nl),(5,Ai 0 0 (Aa L) (Aa L) Ab),(8,Ai 1 0 (Aa R) (Aa R) Ab),(10,dig s),(31,Ae (Ad u32D sets)<|Aa sets),(32,iD (Aa sets:Int)),(33,iD (i:Int)),(41,iD (j:Int))]) (λ(j:Nat)(R:List Nat)=>[⟨L.map u32D,97,1,Ab,Ab,.plain⟩,u32K<|R.map u32D]) (λj R=>32-j) (λ(j:Nat)(R:List Nat)=>j<=32/\R=M++zA3 L o s (Ar j)) 0 M ?_ ?_ ?_
 ·exact⟨by omega,by simp[zA3]⟩
 ·refine vk 2
 rintro j R ⟨j1,j2⟩;have hR:R.length<=34000000:=by
  rw[j2,AM]
  have:=zLu (kept:=L) (o:=o) (s:=s) (Ar j)
  rw[BV]at this;omega
 have hcr:(R.map u32D).length=R.length:=Aq ..
 rcases Aw j 32 with j3|j3
 ·have hsn:M++zA3 L o s (Ar (j+1))=R++(if s|||(o&&&2^j)=s then[]else if L.any (λk=>dif k (s|||(o&&&2^j))==0)then[]else[s|||(o&&&2^j)]):=by
   rw[BF,zM6,<-BM,<-j2]
  have hp:=zF3 j3;have v1:=zEp j3;have v2:=zMf ho hp;have v3:o&&&2^j<4294967296:=B6 Ct ho;have v4:=zAs v3;have v5:=zMo hs2 v3;have v6:=zLe hs2 v3;have v7:=zAs v6;have hcn:=zTn L (s|||(o&&&2^j)) (by omega) hK v6;generalize s|||(o&&&2^j)=g at*;by_cases hg:g=s
  ·have v8:(((g:Nat):Int)==((s:Nat):Int))=true:=by rw[beq_iff_eq];omega
   rw[if_pos hg,BO]at hsn;refine zB<|zA rfl<|v0s<|veT<|zB<|vT ((j:Int)<(32:Int))<|zK<|zC<|zD<|zB<|zF<|zB<|zA rfl<|veT<|zB<|zA rfl<|vr 4 ((0:Int)<=(j:Int))<|vs 47 (Ao<|An Ak<|AF Ak ((1:Int)*(2:Int)^min (Ap (j:Int)) 32)) (dig ((2:Nat)^j)) (hd:=by simp(disch:=omega) only[AB,v1])<|vrT 1<|vs 48 (Ao<|An Ak<|AF Ak (↑(Ay (Aj 32 (o:Int)&&&Aj 32 (↑((2:Nat)^j):Int))):Int)) (dig (o&&&(2:Nat)^j)) (hd:=by simp(disch:=omega) only[v4,v2])<|vrT 1<|vs 49 (Ao<|An Ak<|AF Ak (↑(Ay (Aj 32 (s:Int)|||Aj 32 (↑(o&&&(2:Nat)^j):Int))):Int)) (dig g) (hd:=by simp(disch:=omega) only[v7,v5])<|ve (Ac=Ac/\Ab=Ab/\1=1/\1<=1)<|zB<|zB<|zA rfl<|vr 3 (0<1/\True)<|vs 52 (bD ((g:Int)==(s:Int))) (bD Ab) (hd:=by simp(disch:=omega) only[v8])<|veT<|vt<|zV<|zM<|zQ rfl<|zC<|zD<|zA rfl<|vr 2 (i6 ((j:Int)+(1:Int)))<|vnil<|zC<|⟨j+1,R,⟨by omega,hsn.symm⟩,by omega,?_⟩;refine vk 2
  have v8:(((g:Nat):Int)==((s:Nat):Int))=false:=by rw[beq_eq_false_iff_ne];omega
  rw[if_neg hg]at hsn;cases hb:L.any λk=>dif k g==0
  ·rw[hb]at hcn hsn;rw[if_neg (by decide)]at hsn;refine zB<|zA rfl<|v0s<|veT<|zB<|vT ((j:Int)<(32:Int))<|zK<|zC<|zD<|zB<|zF<|zB<|zA rfl<|veT<|zB<|zA rfl<|vr 4 ((0:Int)<=(j:Int))<|vs 47 (Ao<|An Ak<|AF Ak ((1:Int)*(2:Int)^min (Ap (j:Int)) 32)) (dig ((2:Nat)^j)) (hd:=by simp(disch:=omega) only[AB,v1])<|vrT 1<|vs 48 (Ao<|An Ak<|AF Ak (↑(Ay (Aj 32 (o:Int)&&&Aj 32 (↑((2:Nat)^j):Int))):Int)) (dig (o&&&(2:Nat)^j)) (hd:=by simp(disch:=omega) only[v4,v2])<|vrT 1<|vs 49 (Ao<|An Ak<|AF Ak (↑(Ay (Aj 32 (s:Int)|||Aj 32 (↑(o&&&(2:Nat)^j):Int))):Int)) (dig g) (hd:=by simp(disch:=omega) only[v7,v5])<|ve (Ac=Ac/\Ab=Ab/\1=1/\1<=1)<|zB<|zB<|zA rfl<|vr 3 (0<1/\True)<|vs 52 (bD ((g:Int)==(s:Int))) (bD Ac) (hd:=by simp(disch:=omega) only[v8])<|veT<|vf<|zK<|zC<|zD<|zB<|zA rfl<|vrT 2<|vcl [Ae (Al (Aa L)<|Ah 0<|Ad u32D L)<|Aa L,D.clo (Fn.func 107) [] [AS [dig g]]] [Ae (Ad u32D L)<|Aa L,D.clo (Fn.func 107) [] [AS [dig g]]] (BU (by simp(disch:=omega) only[AN,ht])) (by exact hcn)<|veT<|vt<|zA rfl<|vr 5 (0<1/\((1=1/\1<=1/\True)/\0<1/\1=1/\1<=16777216/\1<=9223372036854775807)/\A9 (u32K<|Ad u32D R)=Ab/\Aa (AA<|u32K<|Ad u32D R)=Aa R*1/\Aa R=Aa R*1/\A3 (u32K<|Ad u32D R)=97/\A4 (u32K<|Ad u32D R)=1/\1=1/\0<1/\0<4/\97=97/\(Aa R+1)*4<=140737488355328/\1=1/\A_ (AI<|u32K<|Ad u32D R)=Ac/\(Ac=Ac\/Ba (AI<|u32K<|Ad u32D R)=Ab))<|vs 8 (Ai 1 0 (Aa R+1) ((Aa R+1)*1) Ab) (Ai 1 0 (Aa R+1) (Aa R+1) Ab) (hd:=by simp(disch:=omega) only[Bh])<|vnil<|zE<|zC<|zD<|zA rfl<|vr 2 (i6 ((j:Int)+(1:Int)))<|vnil<|zC<|⟨j+1,R++[g],⟨by omega,hsn.symm⟩,by omega,?_⟩;rw[zSr,AM,BJ];refine vk 2
  rw[hb]at hcn hsn;rw[if_pos rfl,BO]at hsn;refine zB<|zA rfl<|v0s<|veT<|zB<|vT ((j:Int)<(32:Int))<|zK<|zC<|zD<|zB<|zF<|zB<|zA rfl<|veT<|zB<|zA rfl<|vr 4 ((0:Int)<=(j:Int))<|vs 47 (Ao<|An Ak<|AF Ak ((1:Int)*(2:Int)^min (Ap (j:Int)) 32)) (dig ((2:Nat)^j)) (hd:=by simp(disch:=omega) only[AB,v1])<|vrT 1<|vs 48 (Ao<|An Ak<|AF Ak (↑(Ay (Aj 32 (o:Int)&&&Aj 32 (↑((2:Nat)^j):Int))):Int)) (dig (o&&&(2:Nat)^j)) (hd:=by simp(disch:=omega) only[v4,v2])<|vrT 1<|vs 49 (Ao<|An Ak<|AF Ak (↑(Ay (Aj 32 (s:Int)|||Aj 32 (↑(o&&&(2:Nat)^j):Int))):Int)) (dig g) (hd:=by simp(disch:=omega) only[v7,v5])<|ve (Ac=Ac/\Ab=Ab/\1=1/\1<=1)<|zB<|zB<|zA rfl<|vr 3 (0<1/\True)<|vs 52 (bD ((g:Int)==(s:Int))) (bD Ac) (hd:=by simp(disch:=omega) only[v8])<|veT<|vf<|zK<|zC<|zD<|zB<|zA rfl<|vrT 2<|vcl [Ae (Al (Aa L)<|Ah 0<|Ad u32D L)<|Aa L,D.clo (Fn.func 107) [] [AS [dig g]]] [Ae (Ad u32D L)<|Aa L,D.clo (Fn.func 107) [] [AS [dig g]]] (BU (by simp(disch:=omega) only[AN,ht])) (by exact hcn)<|veT<|vf<|zK<|zE<|zC<|zD<|zA rfl<|vr 2 (i6 ((j:Int)+(1:Int)))<|vnil<|zC<|⟨j+1,R,⟨by omega,hsn.symm⟩,by omega,?_⟩;refine vk 2
 obtain rfl:j=32:=by omega
 rw[<-j2]at hsu;refine zB<|zA rfl<|v0s<|veT<|zB<|vf<|zV<|zM<|zM<|zQ rfl<|zE<|zC<|zD<|zA rfl<|vr 2 (i6 ((i:Int)+(1:Int)))<|vnil<|zC<|⟨i+1,R,⟨by omega,hsu.symm⟩,by omega,?_⟩;refine vk 2
theorem shr64(m:Nat){v:Nat}(h:v<64):Bd (m:Int) (2^(min v 64))=((m>>>v:Nat):Int):=by
 rw[Cb (by omega),CC,Int.fdiv_eq_ediv_of_nonneg _ (by exact Int.pow_nonneg (by decide))];simp
section
variable {A : List (List Nat × List Rw)} (hA : RaOk A)
include hA
end
theorem zX5(a b:List Va):zJ7 a b []=rcmp a b:=zK9 a b
section
variable (L : List Rw) (x : Rw)
abbrev seCl(L:List Rw)(x:Rw):D:= .clo (.func 98) [] [.ptr [.row (L.map rowV) L.length], .ptr [rowV x], .ptr [.row [] 0]]
theorem se1_c(hL:∀y∈L,y.length<=1000000)(hx:x.length<=1000000)(i:Nat)(hi:i<L.length):Pure Am 98 [iD (i:Nat), .ptr [.row (L.map rowV) L.length], .ptr [rowV x], .ptr [.row [] 0]] [] (bD (decide (0<=rcmp (L.getD i []) x))):=by
 have hg:=zW4 L i hi;have hne:L.map rowV≠[]:=zAb;have hc:=zJu (L.getD i []) x [] _ _ 0 rfl rfl rfl (by have:=hL _ (zAf L [] i hi);omega) (by omega) (by omega);rw[zX5]at hc;generalize rcmp (L.getD i []) x=z at*;generalize L.getD i []=y at*;have hz:decide (z>=0)=decide (0<=z):=rfl;refine zG zAm mixed Tryz.func98 rfl<|vAu<|zB<|vd [1,0,2,3,4,5,6,7,8]<|vr 3 (0<1/\ix (i:Int) (Aa L:Int) (Ad rowV L≠[]))<|vp 8 (i) (Ad rowV L)<|vr 1 (0<Aa (Ah i<|Ad rowV L))<|vsh 9 hg<|vr 2 (0<1/\0<1)<|vc (hc)<|veT<|zJ<|vret (True)<|.inr rfl
theorem half_u{a b:Nat}(h:a+b<4294967296):Bd (((a+b:Nat):Int)) (2^1)=(((a+b)/2:Nat):Int):=by
 have:=shr64 (a+b) (v:=1) (by omega)
 rw[show min 1 64=1 from rfl]at this;rw[this,CC]
theorem wrapU{n:Nat}(h:n<4294967296):B8.wrap (n:Int)=(n:Int):=zCa (k:= .u64) (by simp only[inK];omega)
set_option maxHeartbeats 1000000 in
theorem sse_c(hs:Rsc L)(hb:L.length<=1000000)(hL:∀y∈L,y.length<=1000000)(hx:x.length<=1000000):Pure Am 97 [iD (L.length:Nat),seCl L x] [] (iD (cntR L x:Nat)):=by
 have hcl:=zPk L x;have hse:=λi hi=>se1_c L x hL hx i hi;have hct:=λi hi=>zTq (L:=L) x hs (i:=i) hi;generalize cntR L x=m at*;refine zG (zEh 0 λ_=>Ac) mixed Tryz.func97 rfl<|vAu<|vAe<|vB<|zAw (λ(i:Nat)(j:Nat)=>fr 26 [(1,seCl L x),(4,iD 0),(5,iD (i:Int)),(6,iD (j:Int))]) (λ(i:Nat)(j:Nat)=>[]) (λi j=>j-i) (λ(i:Nat)(j:Nat)=>i<=m/\m<=j/\j<=L.length) 0 L.length ?_ ?_ ?_
 ·exact⟨by omega,hcl,AJ _⟩
 ·refine vk 0
 rintro i j ⟨h1,h2,h3⟩;rcases Aw i j with h4|h4
 ·have hq:(i+j)/2<L.length:=by omega
  have hh:=hse _ hq;rw[hct _ hq]at hh;have w1:=half_u (a:=i) (b:=j) (by omega);have w2:=wrapU (n:=i+j) (by omega);have w3:((i:Nat):Int)+(j:Nat)=((i+j:Nat):Int):=by omega
  have w4:=wrapU (n:=(i+j)/2) (by omega);have w5:AU.wrap (((i+j)/2:Nat):Int)=(((i+j)/2:Nat):Int):=zCa (k:= .i64) (by simp only[inK];omega);have w6:AU.wrap (((i+j):Nat):Int)=(((i+j):Nat):Int):=zCa (k:= .i64) (by simp only[inK];omega);by_cases hm:m<=(i+j)/2
  ·rw[decide_eq_true hm]at hh;generalize hqq:(i+j)/2=q at*;refine zB<|vAu<|vT ((i:Int)<↑j)<|vK<|zF<|vA<|vr 5 (i6 ((i:Int)+(j:Int))/\u6 (↑(i+j):Int)/\(0:Int)<=(1:Int))<|vs 16 (Ao<|An B8<|Bd (↑(i+j):Int) ((2:Int)^1)) (Ao<|An B8 (q:Int)) (hd:=by simp(disch:=omega) only[w1])<|ve (i6 (q:Int))<|vA<|vrT 2<|vc hh<|veT<|vf<|zA rfl<|vrT 2<|vnil<|zE<|zC<|⟨i,q,⟨by omega,by omega,by omega⟩,by omega,?_⟩;refine vk 0
  rw[decide_eq_false hm]at hh;generalize hqq:(i+j)/2=q at*;refine zB<|vAu<|vT ((i:Int)<↑j)<|vK<|zF<|vA<|vr 5 (i6 ((i:Int)+(j:Int))/\u6 (↑(i+j):Int)/\(0:Int)<=(1:Int))<|vs 16 (Ao<|An B8<|Bd (↑(i+j):Int) ((2:Int)^1)) (Ao<|An B8 (q:Int)) (hd:=by simp(disch:=omega) only[w1])<|ve (i6 (q:Int))<|vA<|vrT 2<|vc hh<|veT<|vt<|zA rfl<|vr 3 (i6 (↑q+1))<|vnil<|zE<|zC<|⟨q+1,j,⟨by omega,by omega,by omega⟩,by omega,?_⟩;refine vk 0
 obtain rfl:i=m:=by omega
 refine zB<|vAu<|vF ((i:Int)<↑j)<|vZ2<|vAe<|zJ<|vret (True)<|.inr rfl
theorem zZ0(hs:Rsc L)(hb:L.length<=1000000)(hL:∀y∈L,y.length<=1000000)(hx:x.length<=1000000):Pure Am 74 [.row (L.map rowV) L.length,rowV x, .row [] 0] [] (.tup [iD (cntR L x:Nat),bD (decide (x∈L))]):=by
 have hss:=sse_c L x hs hb hL hx;have hcl:=zPk L x;have hme:=cntR_mem (x:=x) hs;rw[<-hme];by_cases h1:cntR L x<L.length
 ·rw[decide_eq_true h1,Bool.true_and];have hg:=zW4 L _ h1;have hne:L.map rowV≠[]:=zAb;have heq:=zF2 (L.getD (cntR L x) []) x _ _ rfl rfl (by have:=hL _ (zAf L [] _ h1);omega) (by omega);generalize decide (L.getD (cntR L x) []=x)=b at*;generalize L.getD (cntR L x) []=y at*;generalize cntR L x=m at*;refine zG zAm mixed Tryz.func74 rfl<|vAu<|vA<|vr 3 (0<1)<|vc (hss)<|veT<|zB<|vd [0,1,2,3,4,5,7,6,8,9,10,11,12,13,14]<|vw 9 [] [(5,Ab)] (0<1/\decide ((m:Int)<(Aa L:Int))=Ab/\0<1/\ix (m:Int) (Aa L:Int) (Ad rowV L≠[]))<|vp 21 (m) (Ad rowV L)<|vr 1 (0<Aa (Ah m<|Ad rowV L))<|vsh 22 hg<|vr 1 (0<1)<|vc (heq)<|veT<|zJ<|vret (True)<|.inr rfl
 rw[decide_eq_false h1,Bool.false_and];generalize cntR L x=m at*;refine zG zAm mixed Tryz.func74 rfl<|vAu<|vA<|vr 3 (0<1)<|vc (hss)<|veT<|zB<|vd [0,1,2,3,4,5,7,6,8,9,10,11,12,13,14]<|vew [] [(5,Ac)] (0<1/\decide ((m:Int)<(Aa L:Int))=Ac)<|zJ<|vret (True)<|.inr rfl
theorem zK6(ar:Int)(hs:Rsc L)(hb:L.length<=1000000)(hL:∀y∈L,y.length<=1000000)(hx:x.length<=1000000):Pure Am 53 [relD ar L,rowV x] [] (.tup [iD (cntR L x:Nat),bD (decide (x∈L))]):=by
 have h:=zZ0 L x hs hb hL hx;generalize cntR L x=m at*;generalize decide (x∈L)=b at*;refine zG zAm mixed Tryz.func53 rfl<|vAu<|vA<|vr 3 (True/\0<1)<|vcl [Ae (Ad rowV L)<|Aa L,Ae (zL x)<|Aa x,nl] [Ae (Ad rowV L)<|Aa L,Ae (zL x)<|Aa x,Ae [] 0] (LeL.trans (LeL.refl _)<|LeL.cons (LeD.refl _)<|LeL.cons (LeD.refl _)<|LeL.cons LeD.nil_row LeL.nil) (by exact h)<|ve (0<2/\1<2)<|zJ<|vret (True)<|.inr rfl
end
theorem lfAll_c(n:Int)(ats:List At)(h0:0<=n)(hn:n<=32)(hl:∀a∈ats,a.V.length<=2000000):Pure Am 37 [iD n, .row (ats.flatMap atC) ats.length] [] (iD (lfE n ats)):=by
 obtain⟨k,rfl⟩:∃k:Nat,n=(k:Int):=⟨n.toNat,by omega⟩;grind [lfE,ats,lfMany_c,AB,lfCheck_c]
theorem Cs.ats_v{c:Cs}(h:c.Small){m:Nat}(hm:m<=c.V.length):∀a∈c.ats m,a.V.length<=2000000:=λa ha=>by
 obtain⟨i,hi,rfl⟩:=As.1 ha;have hi:=AQ.1 hi;refine h.v _ ?_;show c.V.getD i []∈c.V;rw[Au,AC (by omega)];exact A7 _
theorem zJm(c:Cs)(h:c.Small){m:Nat}(hm:m<=c.V.length):Pure Am 11 [inpD c.n c.f c.desc c.P (c.ats m)] [] (iD (icE c.n c.f c.desc.length c.P (c.ats m))):=by
 have hv:=Cs.ats_v h hm;have hV:=h.V;exact zW2 c.n c.f c.desc c.P (c.ats m) h.d h.P (by rw[Cs.ats_len];omega) hv λh0 h1=>lfAll_c c.n _ h0 h1 hv
theorem valid_c(c:Cs)(h:c.Small):∃(m:Nat)(ok:Bool),m<=c.V.length/\(ok=Ab↔c.V.length=c.R.length/\(∀i,i<c.V.length->c.err i=0)/\icE c.n c.f c.desc.length c.P (c.ats c.V.length)=0)/\(ok=Ab->m=c.V.length)/\
  Pure Am 32 [.agg (csC c)] [] (.tup [inpD c.n c.f c.desc c.P (c.ats m),bD ok]):=by
 obtain⟨m,ok,h1,h2,h3,h4,h5⟩:=make_c c h;have hck:=zJm c h h1;cases ok
 ·refine⟨m,Ac,h1,⟨λhh=>(by cases hh),λhh=>?_⟩,λhh=>(by cases hh),?_⟩
  ·grind
  generalize c.ats m=ats at*;refine zG zBs mixed Tryz.func32 rfl<|vAu<|vA<|vr 1 (6<=6)<|vc (h5)<|ve (0<2/\1<2/\Ac=Ac/\Ab=Ab/\5=5/\5<=5)<|zB<|vd [1,2,0,3,4,5,6,7,8]<|ve (5<=5/\Ac=Ac/\Ab=Ab/\5=5/\5<=5)<|zJ<|vret (5<=5)<|.inr rfl
 have hm:=h4 rfl;obtain⟨q1,q2⟩:=h3.1 rfl;by_cases hz:icE c.n c.f c.desc.length c.P (c.ats m)=0
 ·refine⟨m,Ab,h1,⟨λ_=>⟨q1,q2,hm▸hz⟩,λ_=>rfl⟩,λ_=>hm,?_⟩;rw[hz]at hck;generalize c.ats m=ats at*;refine zG zBs mixed Tryz.func32 rfl<|vAu<|vA<|vr 1 (6<=6)<|vca [AD [iD<|Cs.n c,iD<|Cs.f c,Ae (Ad bD<|BK c)<|Aa<|BK c,Ae (Ad (λ(z:Int)=>iD z)<|Cs.P c)<|Aa<|Cs.P c,Ae (Ad zBe<|Cs.V c)<|Aa<|Cs.V c,Ae (Ad zBx<|Cs.R c)<|Aa<|Cs.R c]] (by(first|exact h5|exact hck))<|ve (0<2/\1<2/\Ac=Ac/\Ab=Ab/\5=5/\5<=5)<|zB<|vd [1,2,0,3,4,5,6,7,8]<|vr 4 (5<=5/\5<=5)<|vca [AD [iD<|Cs.n c,iD<|Cs.f c,Ae (Ad bD<|BK c)<|Aa<|BK c,Ae (Ad (λ(z:Int)=>iD z)<|Cs.P c)<|Aa<|Cs.P c,Ae (Ag atC ats)<|Aa ats]] (by(first|exact h5|exact hck))<|ve (True/\Ac=Ac/\Ab=Ab/\5=5/\5<=5)<|zJ<|vret (5<=5)<|.inr rfl
 refine⟨m,Ac,h1,⟨λhh=>(by cases hh),λhh=>absurd (hm▸hh.2.2) hz⟩,λhh=>(by cases hh),?_⟩;generalize icE c.n c.f c.desc.length c.P (c.ats m)=e at*;generalize c.ats m=ats at*;have hze:(e==0)=false:=by simpa using hz
 refine zG zBs mixed Tryz.func32 rfl<|vAu<|vA<|vr 1 (6<=6)<|vca [AD [iD<|Cs.n c,iD<|Cs.f c,Ae (Ad bD<|BK c)<|Aa<|BK c,Ae (Ad (λ(z:Int)=>iD z)<|Cs.P c)<|Aa<|Cs.P c,Ae (Ad zBe<|Cs.V c)<|Aa<|Cs.V c,Ae (Ad zBx<|Cs.R c)<|Aa<|Cs.R c]] (by(first|exact h5|exact hck))<|ve (0<2/\1<2/\Ac=Ac/\Ab=Ab/\5=5/\5<=5)<|zB<|vd [1,2,0,3,4,5,6,7,8]<|vr 4 (5<=5/\5<=5)<|vca [AD [iD<|Cs.n c,iD<|Cs.f c,Ae (Ad bD<|BK c)<|Aa<|BK c,Ae (Ad (λ(z:Int)=>iD z)<|Cs.P c)<|Aa<|Cs.P c,Ae (Ag atC ats)<|Aa ats]] (by(first|exact h5|exact hck))<|vrT 1<|vs 16 (bD (e==(0:Int))) (bD Ac)<|ve (Ac=Ac/\Ab=Ab/\5=5/\5<=5)<|zJ<|vret (5<=5)<|.inr rfl
def wckE(c:Cs)(m:Nat)(r:Rw):Int:=if icE c.n c.f c.desc.length c.P (c.ats m)≠0 then icE c.n c.f c.desc.length c.P (c.ats m)else if(r.length:Int)≠c.f then 6 else 0
theorem wchk_c(c:Cs)(h:c.Small){m:Nat}(hm:m<=c.V.length)(r:Rw)(hr:r.length<=2000000):Pure Am 33 [inpD c.n c.f c.desc c.P (c.ats m),rowV r] [] (iD (wckE c m r)):=by
 have hck:=zJm c h hm;unfold wckE;generalize icE c.n c.f c.desc.length c.P (c.ats m)=e at*;generalize c.ats m=ats at*;by_cases he:e=0
 ·subst he;rw[if_neg (by omega)];by_cases hf:(r.length:Int)=c.f
  ·rw[if_neg (by omega)];have h2:(((r.length:Nat):Int)!=c.f)=false:=by rw[hf];exact bne_self_eq_false _
   refine zG zBs mixed Tryz.func33 rfl<|vAu<|zB<|vA<|vr 1 (5<=5)<|vc (hck)<|veT<|vAe<|vf<|vK<|zB<|vA<|vr 5 (True/\0<4/\True)<|vs 15 (bD ((Aa r:Int)!=Cs.f c)) (bD Ac) (hd:=by simp(disch:=omega) only[h2])<|veT<|vf<|vK<|vAe<|zJ<|vret (True)<|.inr rfl
  rw[if_pos hf];have h2:(((r.length:Nat):Int)!=c.f)=true:=bne_iff_ne.2 hf;refine zG zBs mixed Tryz.func33 rfl<|vAu<|zB<|vA<|vr 1 (5<=5)<|vc (hck)<|veT<|vAe<|vf<|vK<|zB<|vA<|vr 5 (True/\0<4/\True)<|vs 15 (bD ((Aa r:Int)!=Cs.f c)) (bD Ab) (hd:=by simp(disch:=omega) only[h2])<|veT<|vt<|vAe<|zJ<|zH<|vret (True)<|.inr rfl
 rw[if_pos he];have h2:(e !=0)=true:=bne_iff_ne.2 he;refine zG zBs mixed Tryz.func33 rfl<|vAu<|zB<|vA<|vr 1 (5<=5)<|vc (hck)<|veT<|vA<|vrT 2<|vs 9 (bD (e !=(0:Int))) (bD Ab) (hd:=by simp(disch:=omega) only[h2])<|veT<|vt<|vAe<|zJ<|zH<|vret (True)<|.inr rfl
section
variable (n f : Int) (desc : List Bool) (P : List Int) (ats : List At) (cs : D) (r : Rw)
abbrev cs6(n f:Int)(a:List D)(b:Nat)(d:List D)(e:Nat)(g:List D)(h:Nat)(i:List D)(j:Nat):D:= .agg [iD n,iD f, .row a b, .row d e, .row g h, .row i j]
variable {a d g i : List D} {b e h j : Nat}
theorem wrong1_c(hm:Pure Am 29 [cs6 n f a b d e g h i j] [] (.tup [inpD n f desc P ats,bD Ac])):Pure Am 8 [cs6 n f a b d e g h i j,rowV r] [] (.tup [inpD n f desc P ats,iD 0,bD Ac]):=by
 refine zG zBs mixed BW rfl<|vAu<|vA<|vr 1 (6<=6)<|vc (hm)<|ve (0<2/\1<2/\Ac=Ac/\Ab=Ab/\5=5/\5<=5)<|zB<|vAe<|vt<|vA<|ve (5<=5/\Ac=Ac/\Ab=Ab/\5=5/\5<=5)<|zJ<|zH<|vret (5<=5)<|.inr rfl
theorem wrong2_c(hm:Pure Am 29 [cs6 n f a b d e g h i j] [] (.tup [inpD n f desc P ats,bD Ab]))(hfw:Pure Am 30 [cs6 n f a b d e g h i j] [] (bD Ac)):Pure Am 8 [cs6 n f a b d e g h i j,rowV r] [] (.tup [inpD n f desc P ats,iD 0,bD Ac]):=by
 refine zG zBs mixed BW rfl<|vAu<|vA<|vr 1 (6<=6)<|vc (hm)<|ve (0<2/\1<2/\Ac=Ac/\Ab=Ab/\5=5/\5<=5)<|zB<|vA<|vr 4 (6<=6)<|vc (hfw)<|veT<|vt<|vA<|ve (5<=5/\Ac=Ac/\Ab=Ab/\5=5/\5<=5)<|zJ<|zH<|vret (5<=5)<|.inr rfl
theorem wrong3_c(hm:Pure Am 29 [cs6 n f a b d e g h i j] [] (.tup [inpD n f desc P ats,bD Ab]))(hfw:Pure Am 30 [cs6 n f a b d e g h i j] [] (bD Ab))(hgr:Pure Am 31 [.row [rowV r] 1] [] (bD Ab)):Pure Am 8 [cs6 n f a b d e g h i j,rowV r] [] (.tup [inpD n f desc P ats,iD 0,bD Ac]):=by
 refine zG zBs mixed BW rfl<|vAu<|vA<|vr 1 (6<=6)<|vc (hm)<|ve (0<2/\1<2/\Ac=Ac/\Ab=Ab/\5=5/\5<=5)<|zB<|vA<|vr 4 (6<=6)<|vc (hfw)<|vr 5 ((1=1/\1<=1/\True)/\0<1/\1=1/\1<=16777216/\1<=9223372036854775807)<|vc (hgr)<|veT<|vt<|vA<|ve (5<=5/\Ac=Ac/\Ab=Ab/\5=5/\5<=5)<|zJ<|zH<|vret (5<=5)<|.inr rfl
theorem wrong4_c(k:Int)(hk:((r.length:Nat):Int)<=2000000)(hm:Pure Am 29 [cs6 n f a b d e g h i j] [] (.tup [inpD n f desc P ats,bD Ab]))(hfw:Pure Am 30 [cs6 n f a b d e g h i j] [] (bD Ab))(hgr:Pure Am 31 [.row [rowV r] 1] [] (bD Ac))(hck:Pure Am 11 [inpD n f desc P ats] [] (iD k)):Pure Am 8 [cs6 n f a b d e g h i j,rowV r] [] (.tup [inpD n f desc P ats,iD (if k≠0 then k else if(r.length:Int)≠f then 6 else 0),bD Ab]):=by
 by_cases he:k=0
 ·subst he;rw[if_neg (by omega)];by_cases hf:(r.length:Int)=f
  ·rw[if_neg (by omega)];have h2:(((r.length:Nat):Int)!=f)=false:=by rw[hf];exact bne_self_eq_false _
   refine zG zBs mixed BW rfl<|vAu<|vA<|vr 1 (6<=6)<|vc (hm)<|ve (0<2/\1<2/\Ac=Ac/\Ab=Ab/\5=5/\5<=5)<|zB<|vA<|vr 4 (6<=6)<|vc (hfw)<|vr 5 ((1=1/\1<=1/\True)/\0<1/\1=1/\1<=16777216/\1<=9223372036854775807)<|vc (hgr)<|veT<|vf<|vK<|vA<|vr 1 (5<=5)<|vc (hck)<|veT<|zB<|vA<|vr 8 (True/\True/\0<4/\True)<|vs 37 (bD ((Aa r:Int)!=f)) (bD Ac) (hd:=by simp(disch:=omega) only[h2])<|veT<|vf<|vK<|vA<|ve (5<=5/\Ac=Ac/\Ab=Ab/\5=5/\5<=5)<|zJ<|vret (5<=5)<|.inr rfl
  rw[if_pos hf];have h2:(((r.length:Nat):Int)!=f)=true:=bne_iff_ne.2 hf;refine zG zBs mixed BW rfl<|vAu<|vA<|vr 1 (6<=6)<|vc (hm)<|ve (0<2/\1<2/\Ac=Ac/\Ab=Ab/\5=5/\5<=5)<|zB<|vA<|vr 4 (6<=6)<|vc (hfw)<|vr 5 ((1=1/\1<=1/\True)/\0<1/\1=1/\1<=16777216/\1<=9223372036854775807)<|vc (hgr)<|veT<|vf<|vK<|vA<|vr 1 (5<=5)<|vc (hck)<|veT<|zB<|vA<|vr 8 (True/\True/\0<4/\True)<|vs 37 (bD ((Aa r:Int)!=f)) (bD Ab) (hd:=by simp(disch:=omega) only[h2])<|veT<|vt<|zA rfl<|veT<|vA<|ve (5<=5/\Ac=Ac/\Ab=Ab/\5=5/\5<=5)<|zJ<|vret (5<=5)<|.inr rfl
 rw[if_pos he];have h2:(k==0)=false:=beq_eq_false_iff_ne.2 he;refine zG zBs mixed BW rfl<|vAu<|vA<|vr 1 (6<=6)<|vc (hm)<|ve (0<2/\1<2/\Ac=Ac/\Ab=Ab/\5=5/\5<=5)<|zB<|vA<|vr 4 (6<=6)<|vc (hfw)<|vr 5 ((1=1/\1<=1/\True)/\0<1/\1=1/\1<=16777216/\1<=9223372036854775807)<|vc (hgr)<|veT<|vf<|vK<|vA<|vr 1 (5<=5)<|vc (hck)<|veT<|zB<|vA<|vrT 2<|vs 31 (bD (k==(0:Int))) (bD Ac) (hd:=by simp(disch:=omega) only[h2])<|veT<|vf<|vK<|vA<|ve (5<=5/\Ac=Ac/\Ab=Ab/\5=5/\5<=5)<|zJ<|vret (5<=5)<|.inr rfl
end
theorem wrong_c(c:Cs)(h:c.Small)(r:Rw)(hr:r.length<=2000000)(hs:∀v∈r,v.str.length<=2000000):∃(m:Nat)(ok:Bool)(e:Int),m<=c.V.length/\(ok=Ab->m=c.V.length/\c.V.length=c.R.length/\(∀i,i<c.V.length->c.err i=0)/\c.Few/\grtR r=Ac/\e=wckE c m r)/\Pure Am 8 [.agg (csC c),rowV r] [] (.tup [inpD c.n c.f c.desc c.P (c.ats m),iD e,bD ok]):=by
 obtain⟨m,ok,h1,_,h3,h4,h5⟩:=make_c c h;obtain⟨b,hb,hfw⟩:=few_c c h;have hgr:=great_c r hr hs;have hck:=zJm c h h1;cases ok
 ·exact⟨m,Ac,0,h1,λhh=>(by cases hh),wrong1_c _ _ _ _ _ r h5⟩
 cases b
 ·exact⟨m,Ac,0,h1,λhh=>(by cases hh),wrong2_c _ _ _ _ _ r h5 hfw⟩
 cases hg:grtR r;case true=>
  rw[hg]at hgr;exact⟨m,Ac,0,h1,λhh=>(by cases hh),wrong3_c _ _ _ _ _ r h5 hfw hgr⟩
 rw[hg]at hgr;exact⟨m,Ab,wckE c m r,h1,λ_=>⟨h4 rfl,(h3.1 rfl).1,(h3.1 rfl).2,hb rfl,rfl,rfl⟩,wrong4_c _ _ _ _ _ r _ (by omega) h5 hfw hgr hck⟩
abbrev witC(w:Nat×Rw):List D:=[iD (w.1:Nat),rowV w.2]
theorem zEj(w:Nat×Rw):(witC w).length=2:=rfl
abbrev zWi:List D:=[iD 0, .val (.slice AO 0 0)]
abbrev wiK(l:List D):Bk:=⟨l,68,2,Ab,Ac, .sh⟩
abbrev vaK(l:List D)(z:Bool):Bk:=⟨l,73,3,Ab,z, .plain⟩
abbrev ipK(x0 x1 x2 x3:D)(A:List (List Nat×List Rw)):Bk:=⟨inpA x0 x1 x2 x3 A,32,0,Ac,Ac, .plain⟩
def Twy:Par:=⟨λ_=>Ac,λ_ _=>AO,λ_=>Ac,λ_=>Ac,λt=>t==68⟩
theorem Twy_ok:zBi Am Twy:=by intro t n f h;cases h
theorem filW_kill(L:List (Nat×Rw))(n k:Nat):(filG witC zWi L n).map (zA6 k)=filG witC zWi L n:=by
 have key:∀d∈filG witC zWi L n,zA6 k d=d:=λd hd=>by
  unfold filG at hd;rcases Bv.1 hd with h|h
  ·obtain⟨w,_,hw⟩:=Bo.1 h;have hw:d=iD (w.1:Nat)\/d=rowV w.2:=by simpa using hw
   rcases hw with rfl|rfl<;>rfl
  obtain⟨l,hl,hd⟩:=CB.1 h
  have:=List.eq_of_mem_replicate hl
  subst this;have hd:d=iD 0\/d=nl0:=by simpa using hd
  rcases hd with rfl|rfl<;>rfl
 conv=>rhs;rw[<-List.map_id (filG witC zWi L n)]
 exact BH key
def wiC(C:List D)(i:Nat)(d:D):List D:=(C.set (i*2) (iD (i:Nat))).set (i*2+1) d
theorem wiC_kill{C:List D}{k:Nat}(h:C.map (zA6 k)=C)(i:Nat)(d:D):(wiC C i d).map (zA6 k)=wiC C i (zA6 k d):=by
 unfold wiC;rw[List.map_set,List.map_set,h];rfl
theorem zY2(C:List D)(i:Nat)(d e:D):(wiC C i d).set (i*2+1) e=wiC C i e:=by
 unfold wiC;rw[List.set_set]
theorem zY3{C:List D}{i:Nat}(h:i*2+1<C.length)(d:D):(wiC C i d)[i*2+1]?=Av d:=by
 unfold wiC;rw[List.getElem?_set_self (by rw[List.length_set];exact h)]
theorem wiC_hd{C:List D}{i:Nat}(h:i*2+1<C.length)(d:D):((wiC C i d).drop (i*2+1)).headD .unk=d:=by
 have h1:=zY3 h d;have h2:i*2+1<(wiC C i d).length:=by
  rcases Aw (i*2+1) (wiC C i d).length with h2|h2
  ·exact h2
  rw[CN h2]at h1;cases h1
 rw[AC h2]at h1;injection h1 with h1;rw[BP h2,h1];rfl
theorem wiC_len(C:List D)(i:Nat)(d:D):(wiC C i d).length=C.length:=by simp[wiC]
theorem filW_nil{L:List (Nat×Rw)}{n:Nat}(h:L.length<n):(filG witC zWi L n)[L.length*2+1]?=Av nl0:=by
 obtain⟨m,hm⟩:∃m,n-L.length=m+1:=⟨n-L.length-1,by omega⟩;have e:(L.flatMap witC).length=L.length*2:=zB5 zEj L;unfold filG;rw[hm,zD4,CM (by omega),e,show L.length*2+1-L.length*2=1 by omega];rfl
theorem wit_refs(L:List (Nat×Rw))(j:Nat):zBd j (L.flatMap witC)=false:=by
 induction L with
 |nil=>rfl
 |cons w L ih=>exact ih
theorem filW_refs(L:List (Nat×Rw))(n j:Nat):zBd j (filG witC zWi L n)=false:=by
 have h1:∀m,zBd j (repL m zWi)=false:=λm=>by
  induction m with
  |zero=>rfl
  |succ m ih=>rw[zD4];exact ih
 unfold filG;induction L with
 |nil=>exact h1 _
 | cons w L ih=>
  have ih:zBd j (L.flatMap witC++repL (n-(w::L).length) zWi)=false:=by
   have key:∀(X:List (Nat×Rw))(m:Nat),zBd j (X.flatMap witC++repL m zWi)=false:=λX m=>by
    induction X with
    |nil=>exact h1 m
    |cons x X ihx=>exact ihx
   exact key L _
  exact ih
theorem zK8{j:Nat}:∀{C:List D}(i:Nat){d:D},zBd j C=Ac->refs j d=Ac->zBd j (C.set i d)=Ac
 |[],i,d,_,_=>rfl
 |c::C,0,d,h,hd=>by
  simp only[zBd,Cu]at h;simp only[List.set_cons_zero,zBd,Cu];exact⟨hd,h.2⟩
 |c::C,i+1,d,h,hd=>by
  simp only[zBd,Cu]at h;simp only[List.set_cons_succ,zBd,Cu];exact⟨h.1,zK8 i h.2 hd⟩
theorem zVg{C:List D}{j:Nat}(h:zBd j C=Ac)(i:Nat){d:D}(hd:refs j d=Ac):zBd j (wiC C i d)=false:=zK8 _ (zK8 _ h rfl) hd
section
variable (n : Nat) (z1 : Int) (cs2 cs3 : List D) (m2 m3 : Nat) (A : List (List Nat × List Rw)) (r : Rw)
theorem whyNo_c(h:AtOk n A)(hr:r.length<=n)(ha:¬Ans n A r)(hck:Pure Am 33 [.agg (inpA (iD (n:Nat)) (iD z1) (.row cs2 m2) (.row cs3 m3) A),rowV r] [] (iD 0)):Pure Am 12 [.agg (inpA (iD (n:Nat)) (iD z1) (.row cs2 m2) (.row cs3 m3) A),rowV r] [] (.tup [.row [] 0,iD 9]):=by
 have hn8:=h.n8;have hre:=zD3 A h.r r (by omega);have hsa:=sat_c h hr;rw[show ansB n A r=Ac by rw[Bool.eq_false_iff];exact λhh=>ha (zSe.1 hh)]at hsa;refine zG Twy_ok mixed Tryz.func12 rfl<|zB<|zA rfl<|v0s<|veT<|zB<|zB<|zA rfl<|vr 2 (5<=5)<|vc (hck)<|veT<|zB<|zA rfl<|veT<|vf<|zK<|zC<|zD<|zB<|zB<|zA rfl<|vr 3 (True/\0<1)<|vc (hre)<|vc (hsa)<|veT<|vt<|zB<|zA rfl<|veT<|zJ<|zH<|vret (True)<|.inr rfl
set_option maxHeartbeats 8000000 in
theorem why_c(h:AtOk n A)(hr:r.length<=n)(ha:Ans n A r)(hck:Pure Am 33 [.agg (inpA (iD (n:Nat)) (iD z1) (.row cs2 m2) (.row cs3 m3) A),rowV r] [] (iD 0)):∃y,FirB n A r y/\y.length=n/\Pure Am 12 [.agg (inpA (iD (n:Nat)) (iD z1) (.row cs2 m2) (.row cs3 m3) A),rowV r] [] (.tup [.row ((witL A y).flatMap witC) A.length,iD 0]):=by
 have hn8:=h.n8;have hl5:=h.l;obtain⟨y,hy,hyn⟩:∃y,FirB n A r y/\y.length=n:=by
  have key:∀k p,FirB n A r p->n-p.length=k->∃y,FirB n A r y/\y.length=n:=λk=>by
   induction k with
   |zero=>intro p hp hk;exact⟨p,hp,by have:=hp.l2;omega⟩
   |succ k ih=>
    intro p hp hk;have hB:=h.rest hp.l2;obtain⟨x,hx,_⟩|⟨hx,_⟩:=least_c (n-p.length) (A.map (zBb p)) hB (by omega)
    ·exact ih (p++[x]) (hp.step h (by omega) hx) (by rw[AM,BJ];omega)
    exact absurd (hp.none h) hx
  exact key _ r (FirB.nil hr ha) rfl
 refine⟨y,hy,hyn,?_⟩;have huq:∀p,FirB n A r p->p.length=n->p=y:=λp hp hpn=>by
  have h1:=hp.m y hyn (by
   obtain⟨z,z1,z2,z3⟩:=hy.a;rw[hyn]at z2;rw[<-z2,AT (by omega)];exact z3) hy.t
  have h2:=hy.m p hpn (by
   obtain⟨z,z1,z2,z3⟩:=hp.a;rw[hpn]at z2;rw[<-z2,AT (by omega)];exact z3) hp.t
  rw[AT (by omega)]at h1 h2;rcases h1 with h1|h1
  ·exact h1.symm
  rcases h2 with h2|h2
  ·exact h2
  have:=(zBy p y).2.2
  omega
 have hre0:=zD3 A h.r r (by omega);have hsa0:=sat_c h hr;rw[zSe.2 ha]at hsa0;have hcl:=zNc (zL r) r.length (zAp r) (by omega);have r0:repL A.length zWi=filG witC zWi [] A.length:=zRq A.length;refine zG Twy_ok mixed Tryz.func12 rfl<|zB<|zA rfl<|v0s<|veT<|zB<|zB<|zA rfl<|vr 2 (5<=5)<|vc (hck)<|veT<|zB<|zA rfl<|veT<|vf<|zK<|zC<|zD<|zB<|zB<|zA rfl<|vr 3 (True/\0<1)<|vc (hre0)<|vc (hsa0)<|veT<|vf<|zK<|zC<|zD<|zB<|zA rfl<|vrT 1<|vn (hcl)<|veT<|zB<|zF<|zBh (λ(k:Nat)(p:Rw)(z:Bool)=>fr 95 [(2,AE 0 0),(7,Ai 1 0 (Aa p) (Aa p*3) Ab)]) (λ(k:Nat)(p:Rw)(z:Bool)=>[ipK (iD (n:Nat)) (iD z1) (.row cs2 m2) (.row cs3 m3) A,vaK (zL p) z]) (λk p z=>n-p.length) (λ(k:Nat)(p:Rw)(z:Bool)=>FirB n A r p) 0 r Ac ?_ ?_ ?_
 ·exact FirB.nil hr ha
 ·refine vk 2
 rintro k p z hp;have hpl:=hp.l2;have hpc:=zAp p;have hpt:(zL p).take (p.length*3)=zL p:=AT (by omega);rcases Aw p.length n with hpn|hpn
 ·have hB:=h.rest hp.l2;have hre:=zD3 A h.r p (by omega);have hls:=least_c (n-p.length) (A.map (zBb p)) hB (by omega);rw[Aq]at hls;have hsb:((n:Nat):Int)-(p.length:Nat)=((n-p.length:Nat):Int):=by omega
  obtain⟨x,hx,hlc⟩|⟨hx,_⟩:=hls
  ·have hst:=hp.step h hpn hx;have hap:zL (p++[x])=zL p++vaC x:=by simp[zL]
   have hal:(p++[x]).length=p.length+1:=by simp
   obtain⟨xk,xi,xs⟩:=x;refine zB<|zB<|zA rfl<|v0s<|ve (True/\0<5)<|vT ((Aa p:Int)<(n:Int))<|zK<|zC<|zD<|zF<|zB<|vd [0,2,3,5,7,1,4,6,8,9,10,11,12,13,14,15]<|vr 7 (True/\True/\0<5/\i6 ((n:Int)-(Aa p:Int)))<|vs 39 (iD ((n:Int)-(Aa p:Int))) (iD (↑(n-Aa p):Int)) (hd:=by simp(disch:=omega) only[hsb])<|vr 1 (0<1)<|vcl [Ae (Ag atN A)<|Aa A,Ae (Al (Aa p*3)<|Ah 0<|AA<|vaK (zL p) z)<|Aa p] [Ae (Ag atN A)<|Aa A,Ae (zL p)<|Aa p] (BU (by simp(disch:=omega) only[AN,hpt])) (by exact hre)<|vc (hlc)<|ve (0<2/\1<2/\Ac=Ac/\Ab=Ab/\3=3/\3<=3)<|zB<|zB<|zA rfl<|veT<|vf<|zK<|zC<|zD<|zA rfl<|vr 5 (3<=3/\((3=3/\3<=3/\True)/\0<3/\3=3/\3<=16777216/\1<=9223372036854775807)/\A9 (Ax (zL p) 73 3 Ab Ab Az)=Ab/\Aa (zL p)=Aa p*3/\Aa p*3=Aa p*3/\A3 (Ax (zL p) 73 3 Ab Ab Az)=73/\A4 (Ax (zL p) 73 3 Ab Ab Az)=3/\3=3/\0<3/\0<32/\73=73/\(Aa p+1)*32<=140737488355328/\3=3/\A_ (AI<|Ax (zL p) 73 3 Ab Ab Az)=Ac/\(Ac=Ac\/Ba (AI<|Ax (zL p) 73 3 Ab Ab Az)=Ab))<|vnil<|zE<|zC<|⟨0,p++[⟨xk,xi,xs⟩],Ab,hst,by omega,?_⟩;rw[hap,hal];refine vk 2
  exact absurd (hp.none h) hx
 obtain rfl:=huq p hp (by omega);refine zB<|zB<|zA rfl<|v0s<|ve (True/\0<5)<|vF ((Aa p:Int)<(n:Int))<|zV<|zM<|zM<|zQ rfl<|zC<|zD<|zB<|zA rfl<|ve (True/\0<1/\(0:Int)<=(Aa A:Int)/\(Aa A:Int)<=(Aa A:Int)/\(↑(32:Nat):Int)*(Aa A:Int)<=(281474976710656:Int)/\(Aa A:Int)<=(281474976710656:Int)/\0<2/\2=2)<|zB<|zB<|zA rfl<|ve (True/\0<1)<|zF<|zS (λ(i:Nat)=>fr 95 [(7,Ai 1 0 (Aa p) (Aa p*3) Ab),(10,Ai 2 0 (Aa A) (Aa A*2) Ab),(58,Ae (Ag atN A)<|Aa A),(59,iD (Aa A:Int)),(60,iD (i:Int))]) (λ(i:Nat)=>[ipK (iD (n:Nat)) (iD z1) (.row cs2 m2) (.row cs3 m3) A,vaK (zL p) z,wiK<|filG witC zWi ((witL A p).take i) A.length]) (λi=>A.length-i) (λ(i:Nat)=>i<=A.length) 0 ?_ ?_ ?_
 ·omega
 ·refine vk 3
 rintro i h1;have hWl:((witL A p).take i).length=min i A.length:=by rw[AZ,zFw]
 rcases Aw i A.length with h2|h2
 ·rw [Cb (by omega)]at hWl;have hg:=zHt zAd A i h2;have hle:=zFe zAd A i h2;have hne:=zFd zAd (by decide) A;have hin:=zAf A Af i h2;have hla:=h.lt _ hin;have hvn:=zB1 (A:=(A.getD i Af).1) ⟨h.asc _ hin,λv hv=>by have:=hla v hv;omega⟩;have hsu:=zY1 A p i h2;have hset:=zGb (z:=zWi) zEj rfl ((witL A p).take i) A.length (i,zR p (A.getD i Af).1) (by omega);have hkill:=filW_kill ((witL A p).take i) A.length;have hnil:=filW_nil (L:=(witL A p).take i) (n:=A.length) (by omega);have hfl:=zGc (L:=(witL A p).take i) (z:=zWi) (n:=A.length) zEj rfl (by omega);rw[hWl,<-hsu]at hset;rw[hWl]at hnil;clear hsu;have hset2:wiC (filG witC zWi ((witL A p).take i) A.length) i (rowV (zR p (A.getD i Af).1))=filG witC zWi ((witL A p).take (i+1)) A.length:=hset;clear hset;generalize A.getD i Af=a at*;obtain⟨V,R⟩:=a;simp only at hla hvn;have hrf:=filW_refs ((witL A p).take i) A.length;generalize filG witC zWi ((witL A p).take i) A.length=C at*;have hC1:i*2+1<C.length:=by omega
  refine zB<|zA rfl<|v0s<|veT<|zB<|vT ((i:Int)<(Aa A:Int))<|zK<|zC<|zD<|zB<|zF<|zB<|zA rfl<|vr 2 (ix (i:Int) (Aa A:Int) (Ag atN A≠[]))<|vs 63 (AS<|Ah (Ap (i:Int)*3)<|Ag atN A) (AS (Ae (Ad (λ(v:Nat)=>iD (v:Int)) V) (Aa V)::iD (Aa V:Int)::Ae (Ad rowV R) (Aa R)::Ag atN (Ah (i+1) A))) (hd:=by simp(disch:=omega) only[AB,A0,A8,hg])<|ve (3<=Aa (Ae (Ad (λ(v:Nat)=>iD (v:Int)) V) (Aa V)::iD (Aa V:Int)::Ae (Ad rowV R) (Aa R)::Ag atN (Ah (i+1) A))/\Ac=Ac/\Ab=Ab/\3=3/\3<=3)<|zB<|zA rfl<|vr 4 ((0:Int)<=(i:Int)/\(i:Int)<(Aa A:Int))<|vo0 68 2 (i*2)<|ve (True/\Bg (wiK C)=Ac/\Ab=Ab/\1=1/\i*2+1<=Aa (AA<|wiK C))<|zB<|zA rfl<|ve (True/\0<3)<|zF<|zS (λ(j:Nat)=>fr 95 [(7,Ai 1 0 (Aa p) (Aa p*3) Ab),(10,Ai 2 0 (Aa A) (Aa A*2) Ab),(11,iD (i:Int)),(58,Ae (Ag atN A)<|Aa A),(59,iD (Aa A:Int)),(60,iD (i:Int)),(71,Ae (Ad (λ(v:Nat)=>iD (v:Int)) V)<|Aa V),(72,iD (Aa V:Int)),(73,iD (j:Int))]) (λ(j:Nat)=>[ipK (iD (n:Nat)) (iD z1) (.row cs2 m2) (.row cs3 m3) A,vaK (zL p) z,wiK<|wiC C i<|.osl 4 0 j (j*3) Ab,at1 (.row (nsD V) V.length) (.row (R.map rowV) R.length) (V.length:Nat),vaK (zL<|zR p<|V.take j) Ac]) (λj=>V.length-j) (λ(j:Nat)=>j<=V.length) 0 ?_ ?_ ?_
  ·omega
  ·refine wkn (fr 95 [(7,Ai 1 0 (Aa p) (Aa p*3) Ab),(10,Ai 2 0 (Aa A) (Aa A*2) Ab),(11,iD (i:Int)),(58,Ae (Ag atN A) (Aa A)),(59,iD (Aa A:Int)),(60,iD (i:Int)),(71,Ae (Ad (λ(v:Nat)=>iD (v:Int)) V) (Aa V)),(72,iD (Aa V:Int)),(73,iD 0)]) [ipK (iD (n:Int)) (iD z1) (Ae cs2 m2) (Ae cs3 m3) A,vaK (zL p) z,Ax (AX C (i*2) (iD (i:Int))) (68:TypeId) 2 Ab Ac Kd.sh,Ax [Ae (Ad (λ(v:Nat)=>iD (v:Int)) V) (Aa V),iD (Aa V:Int),Ae (Ad rowV R) (Aa R)] 45 0 Ac Ac Az] ?_;refine(Weak.nilC (j:=2) (i:=i*2+1) (ej:=wiK (C.set (i*2) (iD (i:Nat)))) (vaK [] Ac) rfl rfl rfl (by rw[List.getElem?_set_ne (by omega)];exact hnil)).trans ?_;refine vk 5
  rintro j j1;rcases Aw j V.length with j2|j2
  ·have hx:=zAv V j j2;have hn1:nsD V≠[]:=zAb;have hvl:=hla _ (zAf V 0 j j2);have hpk:zR p (V.take (j+1))=zR p (V.take j)++[p.getD (V.getD j 0) Af]:=by
    rw[zA1 V j j2];unfold zR;rw[Bl];rfl
   have hcl2:zL (zR p (V.take (j+1)))=zL (zR p (V.take j))++vaC (p.getD (V.getD j 0) Af):=by
    rw[hpk,zNd];simp[zL]
   have hl3:(zL (zR p (V.take j))).length=j*3:=by
    unfold zR;rw[zAp,Aq,AZ,Cb (by omega)]
   generalize zR p (V.take j)=q at*;generalize V.getD j 0=v at*;have htv:=zCh p v (by omega);have hva:=zEk p (by omega);have hv3:=zDv p v (by omega);have hhd:=wiC_hd hC1 (.osl 4 0 j (j*3) Ab);have hwl:=wiC_len C i (.osl 4 0 j (j*3) Ab);refine zB<|zA rfl<|v0s<|veT<|zB<|vT ((j:Int)<(Aa V:Int))<|zK<|zC<|zD<|zB<|zF<|zB<|zA rfl<|vr 1 (ix (j:Int) (Aa V:Int) (Ad (λ(v:Nat)=>iD (v:Int)) V≠[]))<|vp 75 (j) (Ad (λ(v:Nat)=>iD (v:Int)) V)<|vr 1 (0<Aa (Ah j<|Ad (λ(v:Nat)=>iD (v:Int)) V))<|vsh 76 hx<|veT<|vd [0,1,2,3,4,5,7,8,9,6,10,11,12,13,14,15]<|vr 5 ((0:Int)<=(i:Int)/\(i:Int)<(Aa A:Int))<|vo0 81 2 (i*2)<|vr 4 (True/\(0:Int)<=(v:Int)/\(v:Int)<(Aa p:Int))<|vo0 86 1 (v*3)<|vr 1 (0<Aa (Ah (i*2+1)<|AA<|wiK<|wiC C i<|Ai 4 0 j (j*3) Ab))<|vsh 83 hhd<|vr 1 (3<=Aa (Ah (v*3)<|AA<|vaK (zL p) z))<|vs 87 (AD<|Al 3<|Ah (v*3)<|AA<|vaK (zL p) z) (AD<|vaC<|AP p v Af) (hd:=by simp(disch:=omega) only[htv])<|vr 3 (((3=3/\3<=3/\True)/\0<3/\3=3/\3<=16777216/\1<=9223372036854775807)/\(A9 (vaK (zL q) Ac)=Ab/\Aa (AA<|vaK (zL q) Ac)=j*3/\j*3=j*3/\A3 (vaK (zL q) Ac)=73/\A4 (vaK (zL q) Ac)=3/\3=3/\0<3/\0<32/\73=73/\(j+1)*32<=140737488355328/\3=3/\A_ (AI<|vaK (zL q) Ac)=Ac/\(Ac=Ac\/Ba (AI<|vaK (zL q) Ac)=Ab))/\(0:Int)<=(i:Int)/\(i:Int)<(Aa A:Int))<|vo0 90 2 (i*2)<|vr 2 (True/\Bg (Ax (Ad (zA6 4)<|wiC C i<|Ai 4 0 j (j*3) Ab) 68 2 Ab Ac Kd.sh)=Ac/\Ab=Ab/\1=1/\i*2+1+1<=Aa (Ad (zA6 4)<|wiC C i<|Ai 4 0 j (j*3) Ab))<|vnil<|zE<|zC<|zD<|zA rfl<|vr 2 (i6 ((j:Int)+(1:Int)))<|vnil<|zC<|⟨j+1,by omega,by omega,?_⟩;refine wkn (fr 95 [(7,Ai 1 0 (Aa p) (Aa p*3) Ab),(10,Ai 2 0 (Aa A) (Aa A*2) Ab),(11,iD (i:Int)),(14,iD (v:Int)),(58,Ae (Ag atN A) (Aa A)),(59,iD (Aa A:Int)),(60,iD (i:Int)),(71,Ae (Ad (λ(v:Nat)=>iD (v:Int)) V) (Aa V)),(72,iD (Aa V:Int)),(73,iD (↑(j+1):Int)),(77,Ai 2 0 (Aa A) (Aa A*2) Ab),(78,iD (i:Int)),(79,Ai 2 0 (Aa A) (Aa A*2) Ab),(80,iD (i:Int)),(81,AE 2 (i*2)),(82,AE 2 (i*2+1)),(84,Ai 1 0 (Aa p) (Aa p*3) Ab),(85,iD (v:Int)),(86,AE 1 (v*3)),(87,AD (vaC (AP p v Af))),(88,Ai 5 0 1 3 Ab),(89,Ai 4 0 (j+1) ((j+1)*3) Ab),(90,AE 2 (i*2)),(91,AE 2 (i*2+1)),(92,iD (↑(j+1):Int))]) [Ax [iD (n:Int),iD z1,Ae cs2 m2,Ae cs3 m3,Ae (Ag atN A) (Aa A)] (32:TypeId) 0 Ac Ac Az,Ax (zL p) (73:TypeId) 3 Ab z Az,Ax (AX (Ad (zA6 4) (wiC C i (Ai 4 0 j (j*3) Ab))) (i*2+1) (Ai 4 0 (j+1) ((j+1)*3) Ab)) 68 2 Ab Ac Kd.sh,Ax [Ae (nsD V) (Aa V),iD (Aa V:Int),Ae (Ad rowV R) (Aa R)] (45:TypeId) 0 Ac Ac Az,Ax (zL q++[iD (Va.kind (AP p v Af)),iD (Va.int (AP p v Af)),Ao (Value.string (bs (Va.str (AP p v Af))))]) (73:TypeId) 3 Ab Ac Az,Ax [iD (Va.kind (AP p v Af)),iD (Va.int (AP p v Af)),Ao (Value.string (bs (Va.str (AP p v Af))))] 73 3 Ab Ac Az] ?_;rw[wiC_kill (hkill 4),zY2,hcl2];refine zQc (N:=5) (st:=[ipK (iD (n:Nat)) (iD z1) (.row cs2 m2) (.row cs3 m3) A,vaK (zL p) z,wiK (wiC C i (.osl 4 0 (j+1) ((j+1)*3) Ab)),at1 (.row (nsD V) V.length) (.row (R.map rowV) R.length) (V.length:Nat),vaK (zL q++vaC (p.getD v Af)) Ac]) (bs:=[vaK (vaC (p.getD v Af)) Ac]) (1<5/\2<5/\True) rfl (λb hb=>?_) (λ_ _=>rfl) ?_ (by kernel_rfl) ⟨by decide,by decide,trivial⟩
   ·simp only[AK,Cr,or_false]at hb;rcases hb with rfl|rfl|rfl|rfl|rfl
    ·exact .inr λj _=>rfl
    ·exact .inl rfl
    ·refine .inr λk hk=>zVg (hrf k) i ?_;show(4==k)=Ac;rw[beq_eq_false_iff_ne];omega
    ·exact .inr λj _=>rfl
    exact .inl rfl
   refine vk 6
  obtain rfl:j=V.length:=by omega
  rw[Bq];refine zB<|zA rfl<|v0s<|veT<|zB<|vF ((Aa V:Int)<(Aa V:Int))<|zV<|zM<|zM<|zQ rfl<|zE<|zC<|zD<|zA rfl<|vr 2 (i6 ((i:Int)+(1:Int)))<|vnil<|zC<|⟨i+1,by omega,by omega,?_⟩;rw[<-hset2];refine wkn (fr 95 [(7,Ai 1 0 (Aa p) (Aa p*3) Ab),(10,Ai 2 0 (Aa A) (Aa A*2) Ab),(11,iD (i:Int)),(58,Ae (Ag atN A) (Aa A)),(59,iD (Aa A:Int)),(60,iD (↑(i+1):Int)),(71,Ae (Ad (λ(v:Nat)=>iD (v:Int)) V) (Aa V)),(72,iD (Aa V:Int)),(73,iD (Aa V:Int)),(74,bD (decide ((Aa V:Int)<(Aa V:Int)))),(93,iD (↑(i+1):Int))]) [ipK (iD (n:Int)) (iD z1) (Ae cs2 m2) (Ae cs3 m3) A,vaK (zL p) z,wiK (wiC C i (Ai 4 0 (Aa V) (Aa V*3) Ab)),at1 (Ae (nsD V) (Aa V)) (Ae (Ad rowV R) (Aa R)) (Aa V:Int),vaK (zL (zR p V)) Ac] ?_;have hpl2:(zR p V).length=V.length:=Aq _;have hfz:frz Ab [ipK (iD (n:Nat)) (iD z1) (.row cs2 m2) (.row cs3 m3) A,vaK (zL p) z,wiK (wiC C i (.osl 4 0 V.length (V.length*3) Ab)),at1 (.row (nsD V) V.length) (.row (R.map rowV) R.length) (V.length:Nat),vaK (zL (zR p V)) Ac] zAu (.osl 4 0 V.length (V.length*3) Ab)=Av (rowV (zR p V),[4]):=by
   rw[show zAu=8+1 from rfl,frz_osl (e:=vaK (zL (zR p V)) Ac) rfl rfl rfl];show Av (Ae (((zL (zR p V)).drop 0).take (V.length*3)) V.length,[4])=Av (Ae _ (zR p V).length,_);rw[AN,AT (by rw[zAp,hpl2];exact AJ _),hpl2]
  refine(Weak.fzCell (j:=2) (i:=i*2+1) (ej:=wiK (wiC C i (.osl 4 0 V.length (V.length*3) Ab))) (d:= .osl 4 0 V.length (V.length*3) Ab) (x:=rowV (zR p V)) (ks:=[4]) rfl rfl rfl (zY3 hC1 _) hfz (by decide)).trans ?_;show Weak Twy _ [ipK (iD (n:Nat)) (iD z1) (.row cs2 m2) (.row cs3 m3) A,vaK (zL p) z,wiK ((wiC C i (.osl 4 0 V.length (V.length*3) Ab)).set (i*2+1) (rowV (zR p V))),at1 (.row (nsD V) V.length) (.row (R.map rowV) R.length) (V.length:Nat),vaK (zL (zR p V)) Ab] _ _;rw[zY2];refine zQc (N:=3) (st:=[ipK (iD (n:Nat)) (iD z1) (.row cs2 m2) (.row cs3 m3) A,vaK (zL p) z,wiK (wiC C i (rowV (zR p V)))]) (bs:=[at1 (.row (nsD V) V.length) (.row (R.map rowV) R.length) (V.length:Nat),vaK (zL (zR p V)) Ab]) (1<3/\2<3/\True) rfl (λb hb=>?_) (λ_ _=>rfl) ?_ (by kernel_rfl) ⟨by decide,by decide,trivial⟩
  ·simp only[AK,Cr,or_false]at hb;rcases hb with rfl|rfl|rfl
   ·exact .inr λj _=>rfl
   ·exact .inl rfl
   exact .inr λk hk=>zVg (hrf k) i rfl
  refine vk 5
 obtain rfl:i=A.length:=by omega
 rw[AT (by rw[zFw];exact AJ _)];have ha:=zGd (g:=witC) (z:=zWi) (witL A p);rw[zFw]at ha;have ht:((witL A p).flatMap witC).take (A.length*2)=(witL A p).flatMap witC:=zFo zEj (witL A p) A.length (zFw A p);rw[ha];refine zB<|zA rfl<|v0s<|veT<|zB<|vF ((Aa A:Int)<(Aa A:Int))<|zV<|zM<|zM<|zQ rfl<|zC<|vnn (fr 95 [(7,Ai 1 0 (Aa p) (Aa p*3) Ab),(10,Ai 2 0 (Aa A) (Aa A*2) Ab),(58,Ae (Ag atN A)<|Aa A),(59,iD (Aa A:Int)),(60,iD (Aa A:Int)),(61,bD<|decide ((Aa A:Int)<(Aa A:Int)))]) [ipK (iD (n:Int)) (iD z1) (Ae cs2 m2) (Ae cs3 m3) A,vaK (zL p) z,wiK<|Ag witC<|witL A p]<|zB9 (Weak.unsh (k:=2) (e:=wiK ((witL A p).flatMap witC)) rfl rfl rfl<|wit_refs _) ?_;refine zB<|zA rfl<|v0s<|veT<|zJ<|zAy (True) (D.tup [Ae (Al (Aa A*2)<|Ah 0<|AA<|wiK<|Ag witC<|witL A p)<|Aa A,iD 0]) (D.tup [Ae (Ag witC<|witL A p)<|Aa A,Ao<|An AU (0:Int)]) (.inr rfl) (by simp(disch:=omega) only[AN,ht]) rfl
end
def vsD(g:Nat->Nat)(n:Nat):List D:=(Ar n).map λv=>u32D (g v)
theorem zY6(g:Nat->Nat)(n:Nat):(vsD g n).length=n:=by simp[vsD]
theorem zY7{g:Nat->Nat}{n i:Nat}(h:i<n):((vsD g n).drop i).headD .unk=u32D (g i):=by
 unfold vsD;rw[zA2 (λv=>u32D (g v)) (Ar n) 0 i (by simpa using h),Au,B7 h];rfl
theorem vsD_ne{g:Nat->Nat}{n:Nat}(h:0<n):vsD g n≠[]:=zAb (h:=by simpa using h)
theorem zFg{g g':Nat->Nat}{n:Nat}(h:∀v,v<n->g v=g' v):vsD g n=vsD g' n:=BH λv hv=>by rw[h v (AQ.1 hv)]
theorem vsD_set(g:Nat->Nat)(n i x:Nat):(vsD g n).set i (u32D x)=vsD (λv=>if v=i then x else g v) n:=by
 unfold vsD;apply List.ext_getElem?;intro u;rw[List.getElem?_set,Aq,BV];by_cases hu:u<n
 ·rw[Bp,B7 hu,Bp,B7 hu];by_cases e:i=u
  ·subst e;rw[if_pos rfl,if_pos hu];simp
  have e':¬u=i:=λh=>e h.symm;rw[if_neg e];simp[e']
 have h1:(Ar n)[u]?=none:=CN (by simpa using hu);rw[Bp,h1,Bp,h1];by_cases e:i=u
 ·rw[if_pos e,if_neg (by omega)];rfl
 rw[if_neg e];rfl
theorem vsD_0(n:Nat):repL n [.val (.int .u32 0)]=vsD (λ_=>0) n:=by
 rw[zZ5];unfold vsD;apply List.ext_getElem (by simp);intro i h1 h2;simp
theorem zY5{m:Nat}(hm:m<4294967296)(v:Nat):((((Aj 32 ((m>>>v:Nat):Int)&&&Aj 32 1).toNat:Nat):Int)==0)=!m.testBit v:=by
 have h1:=zR8 hm v;have h2:=Nat.and_le_right (n:=(Aj 32 ((m>>>v:Nat):Int)).toNat) (m:=1);have h3:(Aj 32 ((m>>>v:Nat):Int)&&&Aj 32 1).toNat<=1:=by
  rw[BitVec.toNat_and];exact h2
 generalize (Aj 32 ((m>>>v:Nat):Int)&&&Aj 32 1).toNat=b at*;rw[<-h1];have:b=0\/b=1:=by omega
 rcases this with rfl|rfl<;>rfl
theorem wbit_w0{m:Nat}(hm:m<4294967296)(v:Nat):(Ak.wrap (((Aj 32 ((m>>>v:Nat):Int)&&&Aj 32 1).toNat:Nat):Int)==0)=!m.testBit v:=by
 rw[zAs (BitVec.isLt _)];exact zY5 hm v
set_option maxHeartbeats 8000000 in
theorem comps_c(A:List (List Nat×List Rw))(h:AtW A):Pure Am 56 [.row (A.flatMap atN) A.length] [] (.row ((zDn A).map u32D) (zDn A).length):=by
 have hl5:=h.l;obtain⟨vmk,hvr⟩:∃vmk:Nat->Nat,vmk=λi=>msk (A.getD i Af).1:=⟨_,rfl⟩;have hvi:∀i,vmk i=msk (A.getD i Af).1:=λi=>by rw[hvr]
 have hv8:∀i b,(vmk i).testBit b=Ab->b<32:=λi b hb=>by
  rw[hvi,zBu,decide_eq_true_eq]at hb;rcases Aw i A.length with hi|hi
  ·have:=h.lt _ (zAf A Af i hi) b hb
   omega
  rw[Au,CN hi]at hb;cases hb
 have hvl:∀i,vmk i<4294967296:=λi=>zM1 (n:=32) (hv8 i);obtain⟨ps,hps⟩:∃ps,ps=zDn A:=⟨_,rfl⟩;have hpe:(cmps vmk A.length A.length).2=ps:=by rw[hps,hvr];rfl
 rw[<-hps];have r0:repL A.length [.val (.int .u32 0)]=vsD (λ_=>0) A.length:=vsD_0 A.length;refine zG zAm mixed Tryz.func56 rfl<|zB<|zA rfl<|v0s<|veT<|zB<|zA rfl<|vr 3 ((0:Int)<=(Aa A:Int)/\(Aa A:Int)<=(Aa A:Int)/\(↑(4:Nat):Int)*(Aa A:Int)<=(281474976710656:Int)/\(Aa A:Int)<=(281474976710656:Int)/\0<1/\1=1)<|vb 0 (Ax (repL (Ap (Aa A:Int)) [Ao<|An Ak (0:Int)]) 97 1 Ab Ac<|kdOf Ac) (Ax (vsD (λ(x:Nat)=>0)<|Aa A) 97 1 Ab Ac<|kdOf Ac) (hd:=by simp(disch:=omega) only[AB,r0])<|vrT 1<|vs 3 (Ai 0 0 (Ap (Aa A:Int)) (Ap (Aa A:Int)*1) Ab) (Ai 0 0 (Aa A) (Aa A) Ab) (hd:=by simp(disch:=omega) only[AB,Bh])<|veT<|zB<|zB<|zA rfl<|veT<|zF<|zS (λ(i:Nat)=>fr 99 [(0,Ae (Ag atN A)<|Aa A),(2,nl),(3,Ai 0 0 (Aa A) (Aa A) Ab),(18,Ae (Ag atN A)<|Aa A),(19,iD (Aa A:Int)),(20,iD (i:Int))]) (λ(i:Nat)=>[u32K<|vsD (λv=>if v<i then vmk v else 0) A.length]) (λi=>A.length-i) (λ(i:Nat)=>i<=A.length) 0 ?_ ?_ ?_
 ·omega
 ·rw[zFg (g':=λv=>if v<0 then vmk v else 0) λv _=>(if_neg (Nat.not_lt_zero v)).symm];refine vk 1
 rintro i i1;rcases Aw i A.length with i2|i2
 ·have hg:=zHt zAd A i i2;have hle:=zFe zAd A i i2;have hne:=zFd zAd (by decide) A;have hin:=zAf A Af i i2;have hla:=h.lt _ hin;have hva:=hvi i;have hvn:=zB1 (A:=(A.getD i Af).1) ⟨h.asc _ hin,λv hv=>by have:=hla v hv;omega⟩;generalize A.getD i Af=a at*;obtain⟨V,R⟩:=a;simp only at hla hva hvn;refine zB<|zA rfl<|v0s<|veT<|zB<|vT ((i:Int)<(Aa A:Int))<|zK<|zC<|zD<|zB<|zF<|zB<|zA rfl<|vr 2 (ix (i:Int) (Aa A:Int) (Ag atN A≠[]))<|vs 23 (AS<|Ah (Ap (i:Int)*3)<|Ag atN A) (AS (Ae (Ad (λ(v:Nat)=>iD (v:Int)) V) (Aa V)::iD (Aa V:Int)::Ae (Ad rowV R) (Aa R)::Ag atN (Ah (i+1) A))) (hd:=by simp(disch:=omega) only[AB,A0,A8,hg])<|ve (3<=Aa (Ae (Ad (λ(v:Nat)=>iD (v:Int)) V) (Aa V)::iD (Aa V:Int)::Ae (Ad rowV R) (Aa R)::Ag atN (Ah (i+1) A))/\Ac=Ac/\Ab=Ab/\3=3/\3<=3)<|zB<|zA rfl<|ve (True/\0<3)<|zF<|zS (λ(k:Nat)=>fr 99 [(0,Ae (Ag atN A)<|Aa A),(2,nl),(3,Ai 0 0 (Aa A) (Aa A) Ab),(4,iD (i:Int)),(18,Ae (Ag atN A)<|Aa A),(19,iD (Aa A:Int)),(20,iD (i:Int)),(26,Ae (Ad (λ(v:Nat)=>iD (v:Int)) V)<|Aa V),(27,iD (Aa V:Int)),(28,iD (k:Int))]) (λ(k:Nat)=>[u32K<|vsD (λv=>if v<i then vmk v else if v=i then msk (V.take k)else 0) A.length,at1 (.row (nsD V) V.length) (.row (R.map rowV) R.length) (V.length:Nat)]) (λk=>V.length-k) (λ(k:Nat)=>k<=V.length) 0 ?_ ?_ ?_
  ·omega
  ·rw[zFg (g':=λv=>if v<i then vmk v else if v=i then msk (V.take 0)else 0) λv _=>by
    split
    ·rfl
    split<;>rfl]
   refine vk 2
  rintro k k1;rcases Aw k V.length with k2|k2
  ·have hx:=zAv V k k2;have hn1:nsD V≠[]:=zAb;have hv:=hla _ (zAf V 0 k k2);have hm:=zWe V k k2;have hhd:=zY7 (g:=λv=>if v<i then vmk v else if v=i then msk (V.take k)else 0) i2;simp only[Nat.lt_irrefl,if_false,if_true]at hhd;have hlt:msk (V.take k)<4294967296:=zDg λv hv=>by have:=hla v (List.mem_of_mem_take hv);omega
   have hln:=zY6 (λv=>if v<i then vmk v else if v=i then msk (V.take k)else 0) A.length;have hvne:=vsD_ne (g:=λv=>if v<i then vmk v else if v=i then msk (V.take k)else 0) (n:=A.length) (by omega);have hst:=vsD_set (λv=>if v<i then vmk v else if v=i then msk (V.take k)else 0) A.length i (msk (V.take (k+1)));have hcg:=zFg (g:=λv=>if v=i then msk (V.take (k+1))else if v<i then vmk v else if v=i then msk (V.take k)else 0) (g':=λv=>if v<i then vmk v else if v=i then msk (V.take (k+1))else 0) (n:=A.length) λv _=>by
    by_cases e:v=i
    ·subst e;simp
    simp[e]
   rw[hcg]at hst;generalize (λv=>if v<i then vmk v else if v=i then msk (V.take k)else 0)=g at*;generalize V.getD k 0=v at*;have hp:=zF3 (v:=v) (by omega);have v1:=zEp (v:=v) (by omega);have v2:=zMo hlt hp;have v3:=zAs (zLe hlt hp);rw[hm]at hst;refine zB<|zA rfl<|v0s<|veT<|zB<|vT ((k:Int)<(Aa V:Int))<|zK<|zC<|zD<|zB<|zF<|zB<|zA rfl<|vr 1 (ix (k:Int) (Aa V:Int) (Ad (λ(v:Nat)=>iD (v:Int)) V≠[]))<|vp 30 (k) (Ad (λ(v:Nat)=>iD (v:Int)) V)<|vr 1 (0<Aa (Ah k<|Ad (λ(v:Nat)=>iD (v:Int)) V))<|vsh 31 hx<|veT<|vd [0,1,2,4,5,3,6,7,8]<|vr 3 ((0:Int)<=(i:Int)/\(i:Int)<(Aa A:Int))<|vo 34 0 (i)<|vr 2 ((0:Int)<=(v:Int))<|vs 37 (Ao<|An Ak<|AF Ak ((1:Int)*(2:Int)^min (Ap (v:Int)) 32)) (dig ((2:Nat)^v)) (hd:=by simp(disch:=omega) only[AB,v1])<|vr 1 (0<Aa (Ah i<|AA<|u32K<|vsD g<|Aa A))<|vsh 35 hhd<|vrT 1<|vs 38 (Ao<|An Ak<|AF Ak (↑(Ay (Aj 32 (↑(msk<|Al k V):Int)|||Aj 32 (↑((2:Nat)^v):Int))):Int)) (dig (msk (Al k V)|||(2:Nat)^v)) (hd:=by simp(disch:=omega) only[v2,v3])<|vr 1 ((0:Int)<=(i:Int)/\(i:Int)<(Aa A:Int))<|vo 39 0 (i)<|vr 1 (Bg (u32K<|vsD g<|Aa A)=Ac/\Ab=Ab/\1=1/\i+1<=Aa (AA<|u32K<|vsD g<|Aa A)/\¬0∈[])<|vnil<|zE<|zC<|zD<|zA rfl<|vr 2 (i6 ((k:Int)+(1:Int)))<|vnil<|zC<|⟨k+1,by omega,by omega,?_⟩;refine wkn (fr 99 [(0,Ae (Ag atN A) (Aa A)),(2,nl),(3,Ai 0 0 (Aa A) (Aa A) Ab),(4,iD (i:Int)),(7,iD (v:Int)),(18,Ae (Ag atN A) (Aa A)),(19,iD (Aa A:Int)),(20,iD (i:Int)),(26,Ae (Ad (λ(v:Nat)=>iD (v:Int)) V) (Aa V)),(27,iD (Aa V:Int)),(28,iD (↑(k+1):Int)),(32,Ai 0 0 (Aa A) (Aa A) Ab),(33,iD (i:Int)),(34,AE 0 i),(35,u32D (msk (Al k V))),(36,iD (v:Int)),(37,dig ((2:Nat)^v)),(38,dig (msk (Al k V)|||(2:Nat)^v)),(39,AE 0 i),(40,iD (↑(k+1):Int))]) [Ax (AX (vsD g (Aa A)) i (dig (msk (Al k V)|||(2:Nat)^v))) (97:TypeId) 1 Ab Ac Az,at1 (Ae (nsD V) (Aa V)) (Ae (Ad rowV R) (Aa R)) (Aa V:Int)] ?_;rw[show(vsD g A.length).set i (u32D (msk (V.take k)|||2^v))=vsD (λv=>if v<i then vmk v else if v=i then msk (V.take (k+1))else 0) A.length from by rw[hm];exact hst];refine vk 2
  obtain rfl:k=V.length:=by omega
  rw[Bq,<-hva];refine zB<|zA rfl<|v0s<|veT<|zB<|vF ((Aa V:Int)<(Aa V:Int))<|zV<|zM<|zM<|zQ rfl<|zE<|zC<|zD<|zA rfl<|vr 2 (i6 ((i:Int)+(1:Int)))<|vnil<|zC<|⟨i+1,by omega,by omega,?_⟩;rw[zFg (g:=λv=>if v<i then vmk v else if v=i then vmk i else 0) (g':=λv=>if v<i+1 then vmk v else 0) λv _=>by
   by_cases e:v<i
   ·simp[e,show v<i+1 by omega]
   by_cases e2:v=i
   ·subst e2;simp
   simp[e,e2,show¬v<i+1 by omega]]
  refine vk 1
 obtain rfl:i=A.length:=by omega
 rw[zFg (g:=λv=>if v<A.length then vmk v else 0) (g':=vmk) λv hv=>if_pos hv];have hln:=zY6 vmk A.length;have hpw:2^A.length<=32:=Bw (n:=2) (by omega) (show A.length<=5 by omega);refine zB<|zA rfl<|v0s<|veT<|zB<|vF ((Aa A:Int)<(Aa A:Int))<|zV<|zM<|zM<|zQ rfl<|zC<|zD<|zB<|zA rfl<|veT<|zB<|zA rfl<|ve (True/\0<1/\1=1/\0<=16777216/\0<=9223372036854775807)<|zB<|zB<|zA rfl<|veT<|zF<|zBh (λ(i:Nat)(dn:Nat)(O:List Nat)=>fr 99 [(0,Ae (Ag atN A)<|Aa A),(2,nl),(3,Ai 0 0 (Aa A) (Aa A) Ab),(8,u32D dn),(9,Ai 1 0 (Aa O) (Aa O) Ab),(44,iD (Aa A:Int)),(45,iD (i:Int))]) (λ(i:Nat)(dn:Nat)(O:List Nat)=>[u32K<|vsD vmk A.length,u32K<|O.map u32D]) (λi dn O=>A.length-i) (λ(i:Nat)(dn:Nat)(O:List Nat)=>i<=A.length/\cmps vmk A.length i=(dn,O)) 0 0 [] ?_ ?_ ?_
 ·exact⟨by omega,rfl⟩
 ·refine vk 2
 rintro i dn O ⟨i1,i2⟩;obtain⟨c1,c2,c3,c4,c5⟩:=zTs (vr:=vmk) (n:=A.length) i i1;rw[i2]at c4 c5;have c4:O.length<=i:=c4;have c5:dn<2^A.length:=c5;have hcl:(O.map u32D).length=O.length:=Aq ..
 rcases Aw i A.length with i3|i3;case inr=>
  obtain rfl:i=A.length:=by omega
  rw[i2]at hpe;have hpe:O=ps:=hpe;subst hpe;have ht:(O.map u32D).take O.length=O.map u32D:=AT (by omega);refine zB<|zA rfl<|v0s<|veT<|zB<|vF ((Aa A:Int)<(Aa A:Int))<|zV<|zM<|zM<|zQ rfl<|zC<|zD<|zB<|zA rfl<|veT<|zJ<|zAy (True) (Ae (Al (Aa O)<|Ah 0<|AA<|u32K<|Ad u32D O)<|Aa O) (Ae (Ad u32D O)<|Aa O) (.inr rfl) (by simp(disch:=omega) only[AN,ht]) rfl
 have hsu:=zR6 vmk A.length i;rw[i2]at hsu;unfold cmp1 at hsu;simp only at hsu;have w1:=zEo dn (v:=i) (by omega);have w2:=zR8 (m:=dn) (by omega) i;have w3:=bit_w (m:=dn) (by omega) i;cases hb:dn.testBit i;case true=>
  rw[hb,if_pos rfl]at hsu;rw[hb]at w2 w3;refine zB<|zA rfl<|v0s<|veT<|zB<|vT ((i:Int)<(Aa A:Int))<|zK<|zC<|zD<|zB<|zF<|zB<|zA rfl<|veT<|zB<|zB<|zA rfl<|vr 3 ((0:Int)<=(i:Int))<|vs 50 (Ao<|An Ak<|Bd (dn:Int) ((2:Int)^min (Ap (i:Int)) 32)) (dig (dn>>>i)) (hd:=by simp(disch:=omega) only[AB,w1])<|vrT 1<|vs 51 (Ao<|An Ak<|AF Ak (↑(Ay (Aj 32 (↑(dn>>>i):Int)&&&Aj 32 (1:Int))):Int)) (dig<|Ay (Aj 32 (↑(dn>>>i):Int)&&&Aj 32 (1:Int))) (hd:=by simp(disch:=omega) only[zA5])<|vrT 1<|vs 52 (bD ((↑(Ay (Aj 32 (↑(dn>>>i):Int)&&&Aj 32 (1:Int))):Int)==(1:Int))) (bD Ab) (hd:=by simp(disch:=omega) only[w2])<|veT<|vt<|zV<|zM<|zQ rfl<|zC<|zD<|zA rfl<|vr 2 (i6 ((i:Int)+(1:Int)))<|vnil<|zC<|⟨i+1,dn,O,⟨by omega,hsu⟩,by omega,?_⟩;refine vk 2
 rw[hb,if_neg (by decide)]at hsu;rw[hb]at w2 w3;obtain⟨⟨T,q1⟩,q2,q3⟩:=zXd (vr:=vmk) i3;have hQl:=zM1 q2.1;generalize zL3 vmk A.length i=Q at*;have hhd:=zY7 (g:=vmk) i3;have hvne:=vsD_ne (g:=vmk) (n:=A.length) (by omega);have v1:=zEp (v:=i) (by omega);have hvi':=hvl i;refine zB<|zA rfl<|v0s<|veT<|zB<|vT ((i:Int)<(Aa A:Int))<|zK<|zC<|zD<|zB<|zF<|zB<|zA rfl<|veT<|zB<|zB<|zA rfl<|vr 3 ((0:Int)<=(i:Int))<|vs 50 (Ao<|An Ak<|Bd (dn:Int) ((2:Int)^min (Ap (i:Int)) 32)) (dig (dn>>>i)) (hd:=by simp(disch:=omega) only[AB,w1])<|vrT 1<|vs 51 (Ao<|An Ak<|AF Ak (↑(Ay (Aj 32 (↑(dn>>>i):Int)&&&Aj 32 (1:Int))):Int)) (dig<|Ay (Aj 32 (↑(dn>>>i):Int)&&&Aj 32 (1:Int))) (hd:=by simp(disch:=omega) only[zA5])<|vrT 1<|vs 52 (bD ((↑(Ay (Aj 32 (↑(dn>>>i):Int)&&&Aj 32 (1:Int))):Int)==(1:Int))) (bD Ac) (hd:=by simp(disch:=omega) only[w2])<|veT<|vf<|zK<|zC<|zD<|zB<|vd [0,1,2,3,4,6,5,7]<|vr 2 ((0:Int)<=(i:Int))<|vs 54 (Ao<|An Ak<|AF Ak ((1:Int)*(2:Int)^min (Ap (i:Int)) 32)) (dig ((2:Nat)^i)) (hd:=by simp(disch:=omega) only[AB,v1])<|vr 3 ((0:Int)<=(i:Int)/\(i:Int)<(Aa A:Int))<|vo 57 0 (i)<|vr 2 (0<Aa (Ah i<|AA<|u32K<|vsD vmk<|Aa A))<|vsh 58 hhd<|veT<|zB<|zB<|zA rfl<|veT<|zF<|zSa (λ(k:Nat)(P:Nat)(S:Nat)(g:Bool)=>fr 99 [(0,Ae (Ag atN A)<|Aa A),(2,nl),(3,Ai 0 0 (Aa A) (Aa A) Ab),(8,u32D dn),(9,Ai 1 0 (Aa O) (Aa O) Ab),(11,u32D P),(12,u32D S),(13,bD g),(44,iD (Aa A:Int)),(45,iD (i:Int))]) (λ(k:Nat)(P:Nat)(S:Nat)(g:Bool)=>[u32K<|vsD vmk A.length,u32K<|O.map u32D]) (λk P S g=>k) (λ(k:Nat)(P:Nat)(S:Nat)(g:Bool)=>if g then CI vmk A.length P S/\crnd vmk A.length k P S=Av (Q,T)else P=Q) (2^A.length+1) (2^i) (vmk i) Ab ?_ ?_ ?_
 ·exact⟨CI.one i3,q1⟩
 ·refine vk 2
 rintro k P S g hJ;cases g;case false=>
  obtain rfl:P=Q:=hJ;have v2:=zMo (a:=dn) (b:=P) (by omega) (by omega);have v3:dn|||P<2^A.length:=Nat.or_lt_two_pow c5 hQl;have v4:=zAs (n:=dn|||P) (by omega);refine zB<|zB<|zA rfl<|v0s<|veT<|vf<|zV<|zM<|zM<|zQ rfl<|zC<|zD<|zB<|zA rfl<|vrT 3<|vs 92 (Ao<|An Ak<|AF Ak (↑(Ay (Aj 32 (dn:Int)|||Aj 32 (P:Int))):Int)) (dig (dn|||P)) (hd:=by simp(disch:=omega) only[v4,v2])<|veT<|zA rfl<|vr 5 (((1=1/\1<=1/\True)/\0<1/\1=1/\1<=16777216/\1<=9223372036854775807)/\A9 (u32K<|Ad u32D O)=Ab/\Aa (AA<|u32K<|Ad u32D O)=Aa O*1/\Aa O=Aa O*1/\A3 (u32K<|Ad u32D O)=97/\A4 (u32K<|Ad u32D O)=1/\1=1/\0<1/\0<4/\97=97/\(Aa O+1)*4<=140737488355328/\1=1/\A_ (AI<|u32K<|Ad u32D O)=Ac/\(Ac=Ac\/Ba (AI<|u32K<|Ad u32D O)=Ab))<|vs 9 (Ai 1 0 (Aa O+1) ((Aa O+1)*1) Ab) (Ai 1 0 (Aa O+1) (Aa O+1) Ab) (hd:=by simp(disch:=omega) only[Bh])<|vnil<|zE<|zC<|zD<|zA rfl<|vr 2 (i6 ((i:Int)+(1:Int)))<|vnil<|zC<|⟨i+1,dn|||P,O++[P],⟨by omega,hsu⟩,by omega,?_⟩;rw[zSr,AM,BJ];refine vk 2
 obtain⟨hC,hr⟩:CI vmk A.length P S/\crnd vmk A.length k P S=Av (Q,T):=hJ;obtain⟨k,rfl⟩:∃k',k=k'+1:=by
  cases k with
  |zero=>cases hr
  |succ k=>exact⟨k,rfl⟩
 unfold crnd at hr;refine zB<|zB<|zA rfl<|v0s<|veT<|vt<|zK<|zC<|zD<|zF<|zB<|zA rfl<|veT<|zB<|zA rfl<|veT<|zF<|zSa (λ(j:Nat)(P1:Nat)(S1:Nat)(g:Bool)=>fr 99 [(0,Ae (Ag atN A)<|Aa A),(2,nl),(3,Ai 0 0 (Aa A) (Aa A) Ab),(8,u32D dn),(9,Ai 1 0 (Aa O) (Aa O) Ab),(11,u32D P1),(12,u32D S1),(13,bD g),(44,iD (Aa A:Int)),(45,iD (i:Int)),(61,iD (Aa A:Int)),(62,iD (j:Int))]) (λ(j:Nat)(P1:Nat)(S1:Nat)(g:Bool)=>[u32K<|vsD vmk A.length,u32K<|O.map u32D]) (λj P1 S1 g=>A.length-j) (λ(j:Nat)(P1:Nat)(S1:Nat)(g:Bool)=>j<=A.length/\csts vmk j (P,S,Ac)=(P1,S1,g)) 0 P S Ac ?_ ?_ ?_
 ·exact⟨by omega,rfl⟩
 ·refine vk 2
 rintro j P1 S1 g ⟨j1,j2⟩;obtain⟨d1,_,_,_⟩:=zTl hC j j1;rw[j2]at d1;have hP1:P1<2^A.length:=zM1 d1.lt;have hS1:S1<4294967296:=zM1 (n:=32) λb hb=>by
  obtain⟨u,_,hu⟩:=(d1.s b).1 hb;exact hv8 u b hu
 rcases Aw j A.length with j3|j3
 ·have hsc:=zRy vmk j (P,S,Ac);rw[j2]at hsc;unfold cst at hsc;simp only at hsc;have w1:=zEo P1 (v:=j) (by omega);have w2:=zY5 (m:=P1) (by omega) j;have w3:=wbit_w0 (m:=P1) (by omega) j;have hhd:=zY7 (g:=vmk) j3;have hvj:=hvl j;generalize vmk j=vj at*;cases hbj:P1.testBit j;case true=>
   rw[hbj]at w2 w3;rw[if_neg (λhh=>by rw[hbj]at hh;cases hh.1)]at hsc;refine zB<|zA rfl<|v0s<|veT<|zB<|vT ((j:Int)<(Aa A:Int))<|zK<|zC<|zD<|zB<|zF<|zB<|zA rfl<|veT<|zB<|zA rfl<|vr 3 ((0:Int)<=(j:Int))<|vs 67 (Ao<|An Ak<|Bd (P1:Int) ((2:Int)^min (Ap (j:Int)) 32)) (dig (P1>>>j)) (hd:=by simp(disch:=omega) only[AB,w1])<|vrT 1<|vs 68 (Ao<|An Ak<|AF Ak (↑(Ay (Aj 32 (↑(P1>>>j):Int)&&&Aj 32 (1:Int))):Int)) (dig<|Ay (Aj 32 (↑(P1>>>j):Int)&&&Aj 32 (1:Int))) (hd:=by simp(disch:=omega) only[zA5])<|vrT 1<|vs 69 (bD ((↑(Ay (Aj 32 (↑(P1>>>j):Int)&&&Aj 32 (1:Int))):Int)==(0:Int))) (bD Ac) (hd:=by simp(disch:=omega) only[Cd,w2])<|veT<|vf<|zK<|zE<|zC<|zD<|zA rfl<|vr 2 (i6 ((j:Int)+(1:Int)))<|vnil<|zC<|⟨j+1,P1,S1,g,⟨by omega,hsc⟩,by omega,?_⟩;refine vk 2
  rw[hbj]at w2 w3;have hand:vj&&&S1<4294967296:=B6 Ct hvj;have u1:=zMf hvj hS1;have u2:=zAs hand;by_cases hq:vj&&&S1=0
  ·have u3:(((vj&&&S1:Nat):Int)!=0)=false:=by rw[hq];rfl
   rw[if_neg (λhh=>hh.2 hq)]at hsc;refine zB<|zA rfl<|v0s<|veT<|zB<|vT ((j:Int)<(Aa A:Int))<|zK<|zC<|zD<|zB<|zF<|zB<|zA rfl<|veT<|zB<|zA rfl<|vr 3 ((0:Int)<=(j:Int))<|vs 67 (Ao<|An Ak<|Bd (P1:Int) ((2:Int)^min (Ap (j:Int)) 32)) (dig (P1>>>j)) (hd:=by simp(disch:=omega) only[AB,w1])<|vrT 1<|vs 68 (Ao<|An Ak<|AF Ak (↑(Ay (Aj 32 (↑(P1>>>j):Int)&&&Aj 32 (1:Int))):Int)) (dig<|Ay (Aj 32 (↑(P1>>>j):Int)&&&Aj 32 (1:Int))) (hd:=by simp(disch:=omega) only[zA5])<|vrT 1<|vs 69 (bD ((↑(Ay (Aj 32 (↑(P1>>>j):Int)&&&Aj 32 (1:Int))):Int)==(0:Int))) (bD Ab) (hd:=by simp(disch:=omega) only[CE,w2])<|vr 4 ((0:Int)<=(j:Int)/\(j:Int)<(Aa A:Int))<|vo 73 0 (j)<|vr 1 (0<Aa (Ah j<|AA<|u32K<|vsD vmk<|Aa A))<|vsh 74 hhd<|vrT 2<|vs 76 (Ao<|An Ak<|AF Ak (↑(Ay (Aj 32 (vj:Int)&&&Aj 32 (S1:Int))):Int)) (dig (vj&&&S1)) (hd:=by simp(disch:=omega) only[u2,u1])<|vrT 1<|vs 77 (bD ((↑(vj&&&S1):Int)!=(0:Int))) (bD Ac) (hd:=by simp(disch:=omega) only[u3])<|veT<|vf<|zK<|zE<|zC<|zD<|zA rfl<|vr 2 (i6 ((j:Int)+(1:Int)))<|vnil<|zC<|⟨j+1,P1,S1,g,⟨by omega,hsc⟩,by omega,?_⟩;refine vk 2
  have u3:(((vj&&&S1:Nat):Int)!=0)=true:=by rw[bne_iff_ne];omega
  rw[if_pos ⟨hbj,hq⟩]at hsc;have hp:=zF3 (v:=j) (by omega);have t1:=zEp (v:=j) (by omega);have t2:=zMo (a:=P1) (b:=2^j) (by omega) hp;have t3:=zAs (zLe (a:=P1) (b:=2^j) (by omega) hp);have t4:=zMo hS1 hvj;have t5:=zAs (zLe hS1 hvj);refine zB<|zA rfl<|v0s<|veT<|zB<|vT ((j:Int)<(Aa A:Int))<|zK<|zC<|zD<|zB<|zF<|zB<|zA rfl<|veT<|zB<|zA rfl<|vr 3 ((0:Int)<=(j:Int))<|vs 67 (Ao<|An Ak<|Bd (P1:Int) ((2:Int)^min (Ap (j:Int)) 32)) (dig (P1>>>j)) (hd:=by simp(disch:=omega) only[AB,w1])<|vrT 1<|vs 68 (Ao<|An Ak<|AF Ak (↑(Ay (Aj 32 (↑(P1>>>j):Int)&&&Aj 32 (1:Int))):Int)) (dig<|Ay (Aj 32 (↑(P1>>>j):Int)&&&Aj 32 (1:Int))) (hd:=by simp(disch:=omega) only[zA5])<|vrT 1<|vs 69 (bD ((↑(Ay (Aj 32 (↑(P1>>>j):Int)&&&Aj 32 (1:Int))):Int)==(0:Int))) (bD Ab) (hd:=by simp(disch:=omega) only[CE,w2])<|vr 4 ((0:Int)<=(j:Int)/\(j:Int)<(Aa A:Int))<|vo 73 0 (j)<|vr 1 (0<Aa (Ah j<|AA<|u32K<|vsD vmk<|Aa A))<|vsh 74 hhd<|vrT 2<|vs 76 (Ao<|An Ak<|AF Ak (↑(Ay (Aj 32 (vj:Int)&&&Aj 32 (S1:Int))):Int)) (dig (vj&&&S1)) (hd:=by simp(disch:=omega) only[u1,u2])<|vrT 1<|vs 77 (bD ((↑(vj&&&S1):Int)!=(0:Int))) (bD Ab) (hd:=by simp(disch:=omega) only[u3])<|veT<|vt<|zB<|zA rfl<|vr 3 ((0:Int)<=(j:Int))<|vs 81 (Ao<|An Ak<|AF Ak ((1:Int)*(2:Int)^min (Ap (j:Int)) 32)) (dig ((2:Nat)^j)) (hd:=by simp(disch:=omega) only[AB,t1])<|vrT 1<|vs 82 (Ao<|An Ak<|AF Ak (↑(Ay (Aj 32 (P1:Int)|||Aj 32 (↑((2:Nat)^j):Int))):Int)) (dig (P1|||(2:Nat)^j)) (hd:=by simp(disch:=omega) only[t2,t3])<|veT<|zB<|zA rfl<|vr 4 ((0:Int)<=(j:Int)/\(j:Int)<(Aa A:Int))<|vo 86 0 (j)<|vr 1 (0<Aa (Ah j<|AA<|u32K<|vsD vmk<|Aa A))<|vsh 87 hhd<|vrT 1<|vs 88 (Ao<|An Ak<|AF Ak (↑(Ay (Aj 32 (S1:Int)|||Aj 32 (vj:Int))):Int)) (dig (S1|||vj)) (hd:=by simp(disch:=omega) only[t4,t5])<|veT<|zA rfl<|vrT 1<|vnil<|zE<|zC<|zD<|zA rfl<|vr 2 (i6 ((j:Int)+(1:Int)))<|vnil<|zC<|⟨j+1,P1|||2^j,S1|||vj,Ab,⟨by omega,hsc⟩,by omega,?_⟩;refine vk 2
 obtain rfl:j=A.length:=by omega
 rw[j2]at hr;refine zB<|zA rfl<|v0s<|veT<|zB<|vF ((Aa A:Int)<(Aa A:Int))<|zV<|zM<|zM<|zQ rfl<|zE<|zC<|⟨k,P1,S1,g,?_,by omega,?_⟩
 ·cases g
  ·have hr:Av (P1,S1)=Av (Q,T):=hr;injection hr with hr;injection hr
  exact⟨d1,hr⟩
 refine vk 2
end
end Go.Proofs.YthmfohpkimflhaaGreatDoor
