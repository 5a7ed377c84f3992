/- Texts of this claim, joined. -/
import Derived.Test.YtmfamhoopjeaiaaGreatDoorP04
set_option linter.unusedVariables false
set_option linter.unusedSimpArgs false
namespace Go.Proofs.YtmfamhoopjeaiaaGreatDoor
open _root_.List renaming length->Aa,map->Ad,flatMap->Af,drop->Ag,getD->Ao,take->Ap,mem_map->Av,range->Ay,length_map->Az,take_of_length_le->AI,length_cons->AL,drop_zero->AM,range'->AN,getElem?_eq_getElem->AR,length_append->AT,getD_eq_getElem?_getD->AX,mem_cons_self->A0,mem_cons_of_mem->A1,length_drop->A2,all_eq_true->A3,replicate->A4,headD->A6,length_take->A8,take_succ_eq_append_getElem->Bc,append_nil->Bg,mem_cons->Bi,length_filter_le->Bj,mem_filter->Bn,map_map->Bp,getElem_mem->Bq,take_length->Bt,mem_append->BA,mem_range->BB,all->BD,map_congr_left->BH,mem_of_mem_take->BI,mem_singleton->BJ,idxOf_lt_length_iff->BL,eq_nil_of_length_eq_zero->BN,mem_of_mem_drop->BP,drop_of_length_le->BQ,pairwise_map->BT,flatMap_cons->BU,any_eq_true->BV,flatMap_map->BW,cons_append->BZ,length_range'->B3,ext_getElem->B5,mem_append_left->B7,mem_append_right->B8,pairwise_lt_range->B_,mem_iff_getElem->Cb,mem_flatMap->Cc,getElem_of_mem->Ce,nodup_range->Cf,nil_append->Cg,length_nil->Ch,append_assoc->Ci,pairwise_cons->Cl,map_append->Cp,filter_congr->Cq,pairwise_iff_getElem->Cr
open _root_.Bool renaming true->Ab,false->Ac,and_eq_true->Bm,eq_iff_iff->BE,not_eq_true'->BF,not_eq_false'->BS,or_eq_true->Ca
open D renaming row->Ae,osl->Ah,own->Al,val->Ar,agg->Aw,ptr->AA,clo->AP
open _root_.Inhabited renaming default->Ai
open Bk renaming mk->Aj,kd->Au,cells->AC,ty->AJ,sz->AK,arr->AS,fz->AY
open Kd renaming plain->Ak,isMap->AO,isSh->AQ
open _root_.Int renaming toNat->Am,toNat_natCast->Bx
open _root_.Go.Proofs.Tryz renaming prog->An,func4->B6
open _root_.Option renaming some->Aq,none->AE,getD_some->Cn
open _root_.Nat renaming le_trans->As,lt_or_ge->Ax,le_mul_of_pos_right->AU,mul_le_mul_right->A7,zero_le->A9,le_refl->Bd,pow_le_pow_right->Bl,add_sub_cancel->Bw,pow_le_pow_left->BK,eq_zero_or_pos->BM,mul_assoc->BO,mul_one->BR,min_eq_left->BX,pow_mul->BY,one_le_two_pow->B9,mul_le_mul->Cd,mul_le_mul_left->Cj,lt_of_le_of_lt->Ck
open _root_.BitVec renaming ofInt->AB,toNat->AW
open IntKind renaming u32->AD,wrap->AV,i64->Bh
open Value renaming int->AF,string->AH,slice->Bs,bool->Bu
open Fa renaming A->AG,l->AZ
open _root_.ByteArray renaming mk->A5
open TypeInfo renaming desc->A_,mk->Ba
open TypeDesc renaming string->Bb
open LeL renaming refl->Bf
open Weak renaming nilC->Bo,osr->By,fzCell->BG
open _root_.Prod renaming fst->Br
open Lib renaming bitLen->Bv,compact->BC
open _root_.Array renaming toArray_toList->Co
abbrev aw_:Prop:=(1=1/\1<=1/\True)/\0<1/\1=1/\1<=16777216/\1<=9223372036854775807
abbrev ax_:Prop:=(3=3/\3<=3/\True)/\0<3/\3=3/\3<=16777216/\1<=9223372036854775807
abbrev ay_(p:Prop):Prop:=((1=1/\1<=1/\True)/\0<1/\1=1/\1<=16777216/\1<=9223372036854775807)/\p
abbrev az_:Prop:=Ac=Ac/\Ab=Ab/\3=3/\3<=3
abbrev aA_:Prop:=(3=3/\3<=6/\3=3/\6<=6/\True)/\0<3/\3=3/\6<=16777216/\2<=9223372036854775807
abbrev aB_(p:Prop):Prop:=3<=3/\((3=3/\3<=3/\True)/\0<3/\3=3/\3<=16777216/\1<=9223372036854775807)/\p
abbrev aC_:Prop:=((1=1/\1<=1/\True)/\0<1/\1=1/\1<=16777216/\1<=9223372036854775807)/\((1=1/\2<=3/\1=1/\3<=3/\True)/\Ab=Ab)/\Ac=Ac/\Ab=Ab/\3=3/\3<=3
abbrev aD_:Prop:=(True/\0<3/\3=3/\0<=16777216/\0<=9223372036854775807)/\(1=1/\1<=1/\True)/\0<1/\1=1/\1<=16777216/\1<=9223372036854775807
abbrev aE_:Prop:=(1=1/\1<=2/\1=1/\2<=2/\True)/\0<1/\1=1/\2<=16777216/\2<=9223372036854775807
abbrev aF_:Prop:=3<=3/\3<=3/\(1=1/\1<=2/\1=1/\2<=2/\True)/\0<1/\1=1/\2<=16777216/\2<=9223372036854775807
abbrev aG_:Prop:=True/\0<2
abbrev aH_:Prop:=0<2/\1<2/\Ac=Ac/\Ab=Ab/\3=3/\3<=3
abbrev aI_(p:Prop):Prop:=True/\0<2/\((1=1/\1<=1/\True)/\0<1/\1=1/\1<=16777216/\1<=9223372036854775807)/\p
abbrev aJ_:Prop:=((1=1/\1<=3/\1=1/\2<=3/\True)/\Ab=Ab)/\Ac=Ac/\Ab=Ab/\3=3/\3<=3
abbrev aK_:Prop:=True/\0<3
abbrev aL_:Prop:=3<=3/\Ac=Ac/\Ab=Ab/\3=3/\3<=3
abbrev aM_:Prop:=True/\0<2/\True/\0<1/\True
abbrev aN_(p:Prop):Prop:=True/\True/\True/\0<1/\0<1/\p
abbrev aO_(p:Prop):Prop:=True/\0<3/\p
abbrev aP_:Prop:=True/\0<1/\True
abbrev aQ_:Prop:=0<2/\1<2/\Ac=Ac/\Ab=Ab/\2=2/\2<=2
abbrev aR_:Prop:=Ab=Ab/\3=3/\3<=3
abbrev aS_:Prop:=True/\Ac=Ac/\Ab=Ab/\1=1/\3<=3
abbrev aT_:Prop:=0<2/\1<2
abbrev aU_:Prop:=Ab=Ab/\1=1/\2<=3
abbrev aV_:Prop:=Ab=Ab/\1=1/\3<=3
abbrev aW_:Prop:=True/\0<3/\True
abbrev aX_:Prop:=True/\0<1
variable{α:Type}
section
open Go.RowKit
attribute [local irreducible] seqW awp zY zZ zR Weak updS zAe retL Pure Acts rP setP setQ cP nP fr
set_option maxRecDepth 4096
theorem zRz(l:List (Fa Nat)):(l.flatMap faAc).length=l.length*3:=zHx zBf l
theorem with_succ(v:Nat)(fs:List (Fa Nat))(k:Nat)(h:k<fs.length):zFs v (fs.take (k+1))=zFs v (fs.take k)++(if v∈(fs.getD k Ai).A then[fs.getD k Ai]else[])/\zEy v (fs.take (k+1))=zEy v (fs.take k)++(if v∈(fs.getD k Ai).A then[]else[fs.getD k Ai]):=by
 grind [zBl,zFs,zEy]
theorem zGb(l:List α)(x:α):(l++[x]).length=l.length+1:=by simp
theorem zZp(l:List (Fa Nat))(f:Fa Nat):(l++[f]).flatMap faAc=l.flatMap faAc++faAc f:=by simp
section
variable{Dm:List Va}
set_option maxHeartbeats 8000000 in
theorem zZs(hD:Okv Dm)(fs:List (Fa Nat))(v:Nat)(hf:∀f∈fs,FOk rcmp Dm f)(hl:fs.length<=500)(hr:pz rz fs<=900000)(hz:pz vz fs<=4000000000000000000)(hv:∃f∈fs,v∈f.A)(hv32:v<32):
  Pure An 48 [cntD, .row (fs.flatMap faAc) fs.length,iD (v:Nat)] [] (.row ((elim rcmp Sn v fs).flatMap faAc) (elim rcmp Sn v fs).length):=by
 have hg:∀f∈fs,Gof Dm f:=λf h=>⟨hf f h,As (zMl zFi h) hr,As (zMl zNq h) hz⟩;refine zJ zDw mixed Tryz.func48 rfl<|vAu<|vAe<|zA<|vAe<|zF<|zA0 (λ(k:Nat)(a:List (Fa Nat))(b:List (Fa Nat))=>fr 65 [(0,cntD),(2,iD (v:Int)),(6,nl),(7,Ah 0 0 (Aa a) (Aa a*3) Ab),(8,Ah 1 0 (Aa b) (Aa b*3) Ab),(14,Ae (Af faAc fs)<|Aa fs),(15,iD (Aa fs:Int)),(16,iD (k:Int))]) (λ(k:Nat)(a:List (Fa Nat))(b:List (Fa Nat))=>[fsB<|a.flatMap faAc,fsB<|b.flatMap faAc]) (λk a b=>fs.length-k) (λ(k:Nat)(a:List (Fa Nat))(b:List (Fa Nat))=>k<=fs.length/\a=zFs v (fs.take k)/\b=zEy v (fs.take k)) 0 [] [] ?_ ?_ ?_
 ·exact⟨by omega,rfl,rfl⟩
 ·refine vk 0
 rintro k a b ⟨h1,ha,hb⟩;rcases Ax k fs.length with h2|h2
 ·have hmf:=zAo fs Ai k h2;have hg2:=zDo zBf fs k h2;have hle:=zHc zBf fs k h2;have hne2:=zEk zBf (by decide) fs;have hAf:=(hf _ hmf).asc;have nAf:=zCx hAf;have sA:=zRt (fs.getD k Ai).A _ rfl (by omega) hAf.2 (rwsD (fs.getD k Ai).l) (vlsD (fs.getD k Ai).l) (fs.getD k Ai).l.length (fs.getD k Ai).l.length;have hma:=zCc hAf.2;have w1:=bit_b hma v;have w2:=bit_w hma v;rw[zC7]at w1 w2;have w3:=zHe (msk (fs.getD k Ai).A) hv32;obtain⟨u1,u2⟩:=with_succ v fs k h2;rw[<-ha]at u1;rw[<-hb]at u2;have la:a.length<=500:=by rw[ha];exact As (Bj _ _) (by simp;omega)
  have lb:b.length<=500:=by rw[hb];exact As (Bj _ _) (by simp;omega)
  have ca:=zRz a;have cb:=zRz b;generalize fs.getD k Ai=f at*;focus
   refine vAu<|zA<|vT ((k:Int)<↑(Aa fs))<|vKB<|vA<|vr 2 (ix ↑k ↑(Aa fs) (Af faAc fs≠[])/\3<=Aa (Ag (k*3)<|Af faAc fs))<|vs 19 (Aw<|Ap 3<|Ag (k*3)<|Af faAc fs) (Aw<|faAc f)<|ve (az_)<|vA<|vr 1 (3<=3)<|vc sA<|vr 2 ((0:Int)<=(v:Int))<|vs 23 (Ar<|AF AD<|Int.fdiv (↑(msk<|AG f):Int) ((2:Int)^min (Am (v:Int)) 32)) (dig (msk (AG f)>>>v))<|vrT 1<|vs 24 (Ar<|AF AD<|AV AD (↑(AW (AB 32 (↑(msk (AG f)>>>v):Int)&&&AB 32 (1:Int))):Int)) (dig<|AW (AB 32 (↑(msk (AG f)>>>v):Int)&&&AB 32 (1:Int))) (hd:=by simp(disch:=omega) only[zBw])<|vrT 1<|vs 25 (bD ((↑(AW (AB 32 (↑(msk (AG f)>>>v):Int)&&&AB 32 (1:Int))):Int)==(1:Int))) (bD<|decide (v∈AG f))<|veT<|vcD (v∈AG f) (λhc=>?_)<|λhc=>?_;refine zB rfl<|vr 5 (aB_ (AS (fsB<|Af faAc a)=Ab/\Aa (AC<|fsB<|Af faAc a)=Aa a*3/\Aa a*3=Aa a*3/\AJ (fsB<|Af faAc a)=90/\AK (fsB<|Af faAc a)=3/\3=3/\0<3/\0<72/\90=90/\(Aa a+1)*72<=140737488355328/\3=3/\AO (Au<|fsB<|Af faAc a)=Ac/\(Ac=Ac\/AQ (Au<|fsB<|Af faAc a)=Ab)))<|vnil<|zD<|vN<|zB rfl<|vr 2 (i6 (↑k+1))<|vnil<|zC ?_;rotate_left;refine zB rfl<|vr 5 (aB_ (AS (fsB<|Af faAc b)=Ab/\Aa (AC<|fsB<|Af faAc b)=Aa b*3/\Aa b*3=Aa b*3/\AJ (fsB<|Af faAc b)=90/\AK (fsB<|Af faAc b)=3/\3=3/\0<3/\0<72/\90=90/\(Aa b+1)*72<=140737488355328/\3=3/\AO (Au<|fsB<|Af faAc b)=Ac/\(Ac=Ac\/AQ (Au<|fsB<|Af faAc b)=Ab)))<|vnil<|zD<|vN<|zB rfl<|vr 2 (i6 (↑k+1))<|vnil<|zC ?_;rotate_left
  ·rw[if_pos hc]at u1 u2;rw[Bg]at u2;refine⟨k+1,a++[f],b,⟨by omega,u1.symm,u2.symm⟩,by omega,?_⟩;rw[zZp,zGb];refine vk 2
  rw[if_neg hc]at u1 u2;rw[Bg]at u1;refine⟨k+1,a,b++[f],⟨by omega,u1.symm,u2.symm⟩,by omega,?_⟩;rw[zZp,zGb];refine vk 2
 rw[AI (by omega)]at ha hb;have hperm:=zEo v fs;rw[<-ha,<-hb]at hperm;have hpr:=zPa rz hperm;have hpv:=zPa vz hperm;have hmem:=λf=>hperm.mem_iff (a:=f);have hvin:∀f∈a,v∈f.A:=λf h=>by
  grind [zFs]
 have hlen:=hperm.length_eq;rw[AT]at hlen;cases a with
 |nil=>
  grind [zFs]
 | cons p ws=>
  have hel:elim rcmp Sn v fs=b++[fsum rcmp Sn v (zCm rcmp Sn p ws b)]:=by
   grind [elim]
  rw[hel];clear hel ha hb hv;have h0:((p::ws).flatMap faAc).take 3=faAc p:=rfl;have hfa:=zFq zBf (p::ws) (ws.length+1) rfl;have hfb:=zFq zBf b _ rfl;refine vAu<|zA<|vF ((k:Int)<↑(Aa fs))<|vZ2<|vA<|vr 5 (((0:Int)<=(0:Int)/\(0:Int)<(↑(Aa ws+1):Int))/\3<=Aa (Ag 0<|AC<|fsB<|Af faAc (p::ws))/\az_)<|vnil<|zC<|vnn (fr 65 [(0,cntD),(2,iD v),(6,nl),(7,Ah 0 0 (Aa (p::ws)) (Aa (p::ws)*3) Ab),(8,Ah 1 0 (Aa b) (Aa b*3) Ab),(11,Al 2 0),(14,Ae (Af faAc fs)<|Aa fs),(15,iD<|Aa fs),(16,iD k),(17,bD<|decide ((k:Int)<↑(Aa fs))),(35,Ah 0 0 (Aa ws+1) ((Aa ws+1)*3) Ab),(36,Al 0 0),(37,Aw [Ae (nsD<|AG p)<|Aa<|AG p,Ae (rwsD<|AZ p)<|Aa<|AZ p,Ae (vlsD<|AZ p)<|Aa<|AZ p])]) [fsB<|Af faAc (p::ws),fsB<|Af faAc b,Aj [Ae (nsD<|AG p)<|Aa<|AG p,Ae (rwsD<|AZ p)<|Aa<|AZ p,Ae (vlsD<|AZ p)<|Aa<|AZ p] 90 0 Ac Ac Ak] ?_;clear h1 h2 hperm;refine zBh (((By (s:=7) (k:=0) (off:=0) (n:=ws.length+1) (m:=(ws.length+1)*3) (wh:=Ab) (cs:=(p::ws).flatMap faAc) (by kernel_rfl) (by exact(show Aq (Ae ((((p::ws).flatMap faAc).drop 0).take ((ws.length+1)*3)) (ws.length+1),[0])=_ by rw[AM,hfa]))).trans (By (s:=8) (k:=1) (off:=0) (n:=b.length) (m:=b.length*3) (wh:=Ab) (cs:=b.flatMap faAc) (by kernel_rfl) (by exact(show Aq (Ae (((b.flatMap faAc).drop 0).take (b.length*3)) b.length,[1])=_ by rw[AM,hfb])))).trans<|Weak.leS (s:=7) (d':= .row ((p::ws).flatMap faAc) (ws.length+1)) (by kernel_rfl)<|LeD.osr_row 0 0 (ws.length+1) ((ws.length+1)*3) Ab<|(p::ws).flatMap faAc) ?_;have hs1:((p::ws).flatMap faAc).drop 3=ws.flatMap faAc:=rfl;have hs2:(ws.flatMap faAc).take (ws.length*3)=ws.flatMap faAc:=zFq zBf ws _ rfl;have hwl:ws.length<=500:=by simp only[AL]at hlen;omega
  refine zA<|vAs<|vr 2 ((0:Int)<=(1:Int)/\True/\True/\0<3/\1<=Aa ws+1/\Aa ws+1<=Aa ws+1/\Aa ws+1=Aa ws+1)<|vs 39 (Ae (Ap ((Aa ws+1-1)*3)<|Ag 3<|Af faAc (p::ws)) (Aa ws+1-1)) (Ae (Af faAc ws)<|Aa ws) (hd:=by simp(disch:=omega) only[Bw,hs2,hs1])<|veT<|zF ?_;have hp1:=hf p ((hmem p).1 (by simp));have hws:∀f∈ws,f∈fs:=λf h=>(hmem f).1 (B7 _ (A1 _ h));have hbs:∀f∈b,f∈fs:=λf h=>(hmem f).1 (B8 _ h);have b1:rz p*pz rz ws<=900000:=by
   rw[zPb,zCi]at hpr;exact As (AU _ (zFm zFi b)) (by omega)
  have b2:vz p*pz vz ws<=4000000000000000000:=by
   rw[zPb,zCi]at hpv;exact As (AU _ (zFm zNq b)) (by omega)
  refine zA0 (λ(t:Nat)(A:List Nat)(l:List (Rw×Nat))=>fr 65 [(0,cntD),(2,iD v),(6,nl),(7,Ae (Af faAc (p::ws)) (Aa ws+1)),(8,D.osr 1 0 (Aa b) (Aa b*3) Ab<|Af faAc b),(11,Al 2 0),(39,Ae (Af faAc ws)<|Aa ws),(40,iD<|Aa ws),(41,iD t)]) (λ(t:Nat)(A:List Nat)(l:List (Rw×Nat))=>[⟨(p::ws).flatMap faAc,90,3,Ab,Ab,.plain⟩,⟨b.flatMap faAc,90,3,Ab,Ab,.plain⟩,fB1 (.row (nsD A) A.length) (.row (rwsD l) l.length)<|.row (vlsD l) l.length]) (λt A l=>ws.length-t) (λ(t:Nat)(A:List Nat)(l:List (Rw×Nat))=>t<=ws.length/\zCm rcmp Sn ⟨A,l⟩ (ws.drop t) b=zCm rcmp Sn p ws b/\FOk rcmp Dm ⟨A,l⟩/\rz (⟨A,l⟩:Fa Nat)*pz rz (ws.drop t)<=900000/\vz (⟨A,l⟩:Fa Nat)*pz vz (ws.drop t)<=4000000000000000000/\v∈A) 0 p.A p.l ?_ ?_ ?_
  ·simp_all
  ·refine vk 3
  rintro t A l ⟨t1,t2,t3,t4,t5,t6⟩;rcases Ax t ws.length with t7|t7
  ·have hmf:=zAo ws Ai t t7;have hg2:=zDo zBf ws t t7;have hle:=zHc zBf ws t t7;have hne2:=zEk zBf (by decide) ws;have hdr:ws.drop t=ws.getD t Ai::ws.drop (t+1):=by
    simp_all
   rw[hdr]at t2 t4 t5;rw[zCi,<-BO]at t4 t5;have q1:rz (⟨A,l⟩:Fa Nat)*rz (ws.getD t Ai)<=900000:=As (AU _ (zFm zFi _)) t4;have q2:vz (⟨A,l⟩:Fa Nat)*vz (ws.getD t Ai)<=4000000000000000000:=As (AU _ (zFm zNq _)) t5;have gA:Gof Dm ⟨A,l⟩:=⟨t3,As (AU _ (zFi _)) q1,As (AU _ (zNq _)) q2⟩;have hmul:=zPn hD ⟨A,l⟩ (ws.getD t Ai) (ws.drop (t+1)++b) gA (hg _ (hws _ hmf)) (λo ho=>by
    rcases BA.1 ho with h|h
    ·exact hg _ (hws _ (BP h))
    exact hg _ (hbs _ h)) (by rw[AT,A2];simp only[AL]at hlen;omega) q1
   have r1:=zJ1 (c:=rcmp) Sn ⟨A,l⟩ (ws.getD t Ai) (ws.drop (t+1)++b);have r2:=zTu (c:=rcmp) ⟨A,l⟩ (ws.getD t Ai) (ws.drop (t+1)++b);have r3:=zHw (S:=Sn) rcw t3 (hf _ (hws _ hmf)) (ws.drop (t+1)++b);have r4:=As (A7 (pz rz (ws.drop (t+1))) r1) t4;have r5:=As (A7 (pz vz (ws.drop (t+1))) r2) t5;have r6:v∈(fmul rcmp Sn ⟨A,l⟩ (ws.getD t Ai) (ws.drop (t+1)++b)).A:=zEv.2 ⟨hv32, .inl t6⟩;rw[zCm]at t2;have hcc:=concat_c ((ws.drop (t+1)).flatMap faAc) (b.flatMap faAc) (ws.drop (t+1)).length b.length (zRz _) (zRz _) (by rw[A2];simp only[AL]at hlen;omega) (by simp only[AL]at hlen;omega) (λ_ _=>trivial);rw[<-List.flatMap_append,<-AT]at hcc;have hsl:((p::ws).flatMap faAc).drop ((t+2)*3)=(ws.drop (t+1)).flatMap faAc:=by
    rw[zP5 zBf];rfl
   have hsn:ws.length+1-(t+2)=(ws.drop (t+1)).length:=by rw[A2];omega
   have hst:=zFq zBf (ws.drop (t+1)) _ rfl;generalize ws.getD t Ai=f at*;generalize fmul rcmp Sn ⟨A,l⟩ f (ws.drop (t+1)++b)=q at*;obtain⟨A',l'⟩:=q;refine vAu<|zA<|vT ((t:Int)<↑(Aa ws))<|vKB<|vA<|vr 3 (ix ↑t ↑(Aa ws) (Af faAc ws≠[])/\3<=Aa (Ag (t*3)<|Af faAc ws))<|vs 45 (Aw<|Ap 3<|Ag (t*3)<|Af faAc ws) (Aw<|faAc f)<|ve (az_)<|vd [0,3,4,5,6,7,1,2,8,9,10,11]<|vr 5 (i6 (↑t+2)/\(0:Int)<=(↑(t+2):Int)/\True/\True/\0<3/\Am (↑(t+2):Int)<=Aa ws+1/\Aa ws+1<=Aa ws+1/\Aa ws+1=Aa ws+1)<|vs 52 (Ae (Ap ((Aa ws+1-Am (↑(t+2):Int))*3)<|Ag (Am (↑(t+2):Int)*3)<|Af faAc (p::ws)) (Aa ws+1-Am (↑(t+2):Int))) (Ae (Af faAc<|Ag (t+1) ws)<|Aa<|Ag (t+1) ws)<|vr 4 (aF_)<|vc hcc<|vc hmul<|vr 1 (AY (fB1 ((q10_ A)) ((q11_ l))<|(q12_ l))=Ac/\aR_)<|vnil<|zD<|vN<|zB rfl<|vr 2 (i6 (↑t+1))<|vnil<|zC<|⟨t+1,A',l',⟨by omega,t2,r3,r4,r5,r6⟩,by omega,?_⟩;refine vk 3
  rw[BQ t7]at t2 t4 t5;simp only[pz,List.foldr_nil,BR,zCm]at t2 t4 t5;have hsum:=sumOutF_c hD ⟨A,l⟩ ⟨t3,t4,t5⟩ v t6;rw[<-t2,zZp,zGb];have cb:=zRz b;generalize fsum rcmp Sn v ⟨A,l⟩=q at*;obtain⟨A',l'⟩:=q;have ht:(b.flatMap faAc++faAc ⟨A',l'⟩).take ((b.length+1)*3)=b.flatMap faAc++faAc ⟨A',l'⟩:=AI (by rw[AT,cb];show _+3<=_;omega);refine vAu<|zA<|vF ((t:Int)<↑(Aa ws))<|vZ2<|vA<|vr 4 (3<=3)<|vc hsum<|ve (((3=3/\3<=3/\True)/\0<3/\3=3/\3<=16777216/\1<=9223372036854775807)/\Ab=Ab/\Aa (Af faAc b)=Aa b*3/\Aa b*3=Aa b*3/\90=90/\3=3/\3=3/\0<3/\0<72/\90=90/\(Aa b+1)*72<=140737488355328/\3=3/\AO Ak=Ac/\(Ac=Ac\/AQ Ak=Ab))<|zG<|zBt (True) (Ae (Ap ((Aa b+1)*3)<|Ag 0 (Af faAc b++[Ae (nsD A')<|Aa A',Ae (rwsD l')<|Aa l',Ae (vlsD l')<|Aa l'])) (Aa b+1)) (Ae (Af faAc b++faAc (Fa.mk A' l')) (Aa b+1)) (.inr rfl) (by simp(disch:=omega) only[AM,ht]) rfl
end
end
variable{E:List Nat}{b keep:Nat}{c:Rw->Rw->Int}
section
open Go.RowKit
theorem an_bit{a:Nat}(ha:a<4294967296)(hb:b<4294967296)(i:Nat):((AB 32 (a:Int)&&&~~~AB 32 (b:Int)).toNat).testBit i=(a.testBit i&&!b.testBit i):=by
 have e:∀{c:Nat},c<4294967296->(AB 32 (c:Int)).getLsbD i=c.testBit i:=λ{c} hc=>by
  grind
 grind
theorem an_eq{a d:Nat}(ha:a<4294967296)(hb:b<4294967296)(h:∀i,d.testBit i=(a.testBit i&&!b.testBit i)):(AB 32 (a:Int)&&&~~~AB 32 (b:Int)).toNat=d:=
 Nat.eq_of_testBit_eq λi=>by rw[an_bit ha hb,h]
theorem an_keep{n:Nat}(hn:n<=32)(hk:keep<4294967296):(AB 32 ((2^n-1:Nat):Int)&&&~~~AB 32 (keep:Int)).toNat=msk ((Ay n).filter λv=>!keep.testBit v):=by
 have h2:2^n<=4294967296:=Bl (n:=2) (by omega) hn;refine an_eq (by omega) hk λi=>?_;rw[zC7,Nat.testBit_two_pow_sub_one,BE];simp
theorem an_less(hE:Asc E){v:Nat}(hv:v<32):(AB 32 ((msk E:Nat):Int)&&&~~~AB 32 ((2^v:Nat):Int)).toNat=msk (less E v):=by
 refine an_eq (zCc hE.2) (zS9 hv) λi=>?_;rw[zC7,zC7,Nat.testBit_two_pow,BE];simp only[Bm,BF,decide_eq_true_eq,decide_eq_false_iff_not,zC3];grind
theorem msk_ne(h:E≠[]):msk E≠0:=λe=>by
 cases E with
 |nil=>exact h rfl
 |cons v E=>
  have:=zC7 (v::E) v
  rw[e,Nat.zero_testBit]at this;simp at this
theorem elim_len{S:Sr α}(v:Nat)(fs:List (Fa α)):(elim c S v fs).length<=fs.length:=by
 have hp:=(zEo v fs).length_eq;unfold elim;grind
end
variable{l:List Raw}{k i:Nat}
section
open Go.RowKit
attribute [local irreducible] seqW awp zY zZ zR Weak updS zAe retL Pure Acts rP setP setQ cP nP fr
set_option maxRecDepth 4096
section
variable{Dm:List Va}
set_option maxHeartbeats 8000000 in
theorem marginal_c(hD:Okv Dm)(hDn:Dm.Nodup)(n keep:Nat)(fs:List (Fa Nat))(hn:n<=8)(hk:keep<4294967296)(hf:∀f∈fs,FOk rcmp Dm f)(hl:fs.length<=500)(hr:2*pz rz fs<=900000)(hz:2*pz vz fs<=4000000000000000000)
  (hcv:∀v,v<n->∃f∈fs,v∈f.A)(hck:Pure An 45 [iD (n:Nat),u32D keep, .row (fs.flatMap faAc) fs.length] [] (iD 0)):
  Pure An 26 [cntD,iD (n:Nat),u32D keep, .row (fs.flatMap faAc) fs.length] [] (.tup [faA (zKt popN rcmp Sn fs ((Ay n).filter λv=>!keep.testBit v)),iD 0]):=by
 have hcl:=cloneF_c (fs.flatMap faAc) fs.length (zRz fs) (by omega);have w2:=zHf (v:=n) (by omega);have h2n:2^n<=256:=Bl (n:=2) (by omega) hn;have h1n:=B9 (n:=n);have w3:((2^n:Nat):Int)-1=((2^n-1:Nat):Int):=by omega
 have w4:=zCk (n:=2^n-1) (by omega);have w5:=an_keep (n:=n) (by omega) hk;have hEa:Asc ((Ay n).filter λv=>!keep.testBit v):=⟨(B_ (n:=n)).filter _,λv hv=>by have:=(Bn.1 hv).1;simp at this;omega⟩;have hEc:∀v∈(Ay n).filter (λv=>!keep.testBit v),∃f∈fs,v∈f.A:=λv hv=>hcv v (by have:=(Bn.1 hv).1;simpa using this);generalize (Ay n).filter (λv=>!keep.testBit v)=E at*;have w6:=zCk (zCc hEa.2);refine zJ (T:=Tc) (zVd _ _ _) mixed Tryz.func26 rfl<|vAu<|zA<|vA<|vrT 3<|vc (hck)<|veT<|vAe<|vf<|vK<|vA<|vrT 1<|vc (hcl)<|veT<|zA<|vA<|vr 2 ((0:Int)<=(n:Int))<|vs 28 (Ar<|AF AD<|AV AD ((1:Int)*(2:Int)^min (Am (n:Int)) 32)) (dig ((2:Nat)^n))<|vr 1 (u3 ((↑((2:Nat)^n):Int)-(1:Int)))<|vs 29 (Ar<|AF AD ((↑((2:Nat)^n):Int)-(1:Int))) (dig ((2:Nat)^n-1))<|vrT 2<|vs 31 (Ar<|AF AD<|AV AD (↑(AW (AB 32 (↑((2:Nat)^n-1):Int)&&&~~~AB 32 (keep:Int))):Int)) (dig<|msk E)<|veT<|zF<|zA0 (λ(i:Nat)(L:List (Fa Nat))(F:List Nat)=>fr 68 [(0,cntD),(8,Al 0 0),(9,iD 0),(11,Ae (Af faAc L)<|Aa L),(12,u32D<|msk F)]) (λ(i:Nat)(L:List (Fa Nat))(F:List Nat)=>[fB1 nl nl nl]) (λi L F=>i) (λ(i:Nat)(L:List (Fa Nat))(F:List Nat)=>i=F.length/\Asc F/\(∀v∈F,∃f∈L,v∈f.A)/\(∀f∈L,FOk rcmp Dm f)/\L.length<=500/\2*pz rz L<=900000/\2*pz vz L<=4000000000000000000/\zFu popN rcmp Sn F.length L F=zFu popN rcmp Sn E.length fs E) E.length fs E ?_ ?_ ?_
 ·grind
 ·refine vk 1
 rintro i L F ⟨rfl,f1,f2,f3,f4,f5,f6,f7⟩;by_cases hF:F=[]
 ·subst hF;have hL:zFu popN rcmp Sn E.length fs E=L:=f7.symm;have hres:zKt popN rcmp Sn fs E=zCm rcmp Sn (zB8 Sn) L []:=by unfold zKt;rw[hL]
  rw[hres];have m0:msk []=0:=rfl;rw[m0];obtain⟨o,ho⟩:∃o:Nat,o=1:=⟨1,rfl⟩;refine zA<|vAu<|vf<|vZ2<|vA<|vr 3 (aD_)<|vc (cone_c o ho)<|vr 4 (aC_)<|vnil<|zC<|vnn (fr 68 [(0,cntD),(8,Al 0 0),(9,iD 0),(11,Ae (Af faAc L)<|Aa L),(12,u32D 0),(14,Al 4 0),(33,bD Ac),(45,Ah 1 0 0 0 Ab),(46,Ah 2 0 1 1 Ab),(47,D.ifc 29<|Aw []),(48,natD o),(49,Ah 3 0 1 1 Ab),(50,Aw [nl,Ah 2 0 1 1 Ab,Ah 3 0 1 1 Ab])]) [fB1 nl nl nl,Aj [] 107 3 Ab Ab Ak,Aj [Ae [] 0] 110 1 Ab Ac Ak,Aj [natD o] 50 1 Ab Ac Ak,Aj [nl,Ah 2 0 1 1 Ab,Ah 3 0 1 1 Ab] 90 0 Ac Ac Ak] ?_;clear hck hcl hcv hEa hEc w5 w6 f1 f2 f7 hL hres;refine zBh ((BG (j:=4) (i:=1) (d:= .osl 2 0 1 1 Ab) (x:= .row [.row [] 0] 1) (ks:=[2]) rfl rfl rfl rfl (by exact rfl) (by decide)).trans<|(BG (j:=4) (i:=2) (d:= .osl 3 0 1 1 Ab) (x:= .row [natD o] 1) (ks:=[3]) rfl rfl rfl rfl (by exact rfl) (by decide)).trans<|Weak.leC (j:=4) (i:=0) (d':= .row [] 0) rfl rfl rfl LeD.nil_row) ?_;refine zA<|vAu<|zF ?_;have hu:(zB8 Sn:Fa Nat)=⟨[],[([],o)]⟩:=by rw[ho];rfl
  have hU:FOk rcmp Dm (⟨[],[([],o)]⟩:Fa Nat):=hu▸zGl;have u1:rz (⟨[],[([],o)]⟩:Fa Nat)=2:=rfl;have u2:vz (⟨[],[([],o)]⟩:Fa Nat)=2:=by rw[ho];rfl
  rw[hu];refine zA0 (λ(t:Nat)(A:List Nat)(l:List (Rw×Nat))=>fr 68 [(0,cntD),(8,Al 0 0),(9,iD 0),(11,Ae (Af faAc L)<|Aa L),(14,Al 4 0),(51,Ae (Af faAc L)<|Aa L),(52,iD<|Aa L),(53,iD t)]) (λ(t:Nat)(A:List Nat)(l:List (Rw×Nat))=>[fB1 nl nl nl,⟨[],107,3,Ab,Ab,.plain⟩,⟨[.row [] 0],110,1,Ab,Ab,.plain⟩,⟨[natD o],50,1,Ab,Ab,.plain⟩,fB1 (.row (nsD A) A.length) (.row (rwsD l) l.length)<|.row (vlsD l) l.length]) (λt A l=>L.length-t) (λ(t:Nat)(A:List Nat)(l:List (Rw×Nat))=>t<=L.length/\zCm rcmp Sn ⟨A,l⟩ (L.drop t) []=zCm rcmp Sn ⟨[],[([],o)]⟩ L []/\FOk rcmp Dm ⟨A,l⟩/\rz (⟨A,l⟩:Fa Nat)*pz rz (L.drop t)<=900000/\vz (⟨A,l⟩:Fa Nat)*pz vz (L.drop t)<=4000000000000000000) 0 [] [([],o)] ?_ ?_ ?_
  ·grind
  ·refine vk 5
  rintro t A l ⟨t1,t2,t3,t4,t5⟩;rcases Ax t L.length with t7|t7
  ·have hmf:=zAo L Ai t t7;have hg2:=zDo zBf L t t7;have hle:=zHc zBf L t t7;have hne2:=zEk zBf (by decide) L;have hdr:L.drop t=L.getD t Ai::L.drop (t+1):=by
    simp_all
   rw[hdr]at t2 t4 t5;rw[zCi,<-BO]at t4 t5;have q1:rz (⟨A,l⟩:Fa Nat)*rz (L.getD t Ai)<=900000:=As (AU _ (zFm zFi _)) t4;have q2:vz (⟨A,l⟩:Fa Nat)*vz (L.getD t Ai)<=4000000000000000000:=As (AU _ (zFm zNq _)) t5;have gA:Gof Dm ⟨A,l⟩:=⟨t3,As (AU _ (zFi _)) q1,As (AU _ (zNq _)) q2⟩;have hg:∀f∈L,Gof Dm f:=λf h=>⟨f3 f h,As (zMl zFi h) (by omega),As (zMl zNq h) (by omega)⟩;have hmul:=zPn hD ⟨A,l⟩ (L.getD t Ai) (L.drop (t+1)) gA (hg _ hmf) (λo ho=>hg _ (BP ho)) (by rw[A2];omega) q1;have r1:=zJ1 (c:=rcmp) Sn ⟨A,l⟩ (L.getD t Ai) (L.drop (t+1));have r2:=zTu (c:=rcmp) ⟨A,l⟩ (L.getD t Ai) (L.drop (t+1));have r3:=zHw (S:=Sn) rcw t3 (f3 _ hmf) (L.drop (t+1));have r4:=As (A7 (pz rz (L.drop (t+1))) r1) t4;have r5:=As (A7 (pz vz (L.drop (t+1))) r2) t5;rw[zCm,Bg]at t2;have hsl:(L.flatMap faAc).drop ((t+1)*3)=(L.drop (t+1)).flatMap faAc:=zP5 zBf L (t+1);have hsn:L.length-(t+1)=(L.drop (t+1)).length:=by rw[A2]
   have hst:=zFq zBf (L.drop (t+1)) _ rfl;generalize L.getD t Ai=f at*;generalize fmul rcmp Sn ⟨A,l⟩ f (L.drop (t+1))=q at*;obtain⟨A',l'⟩:=q;refine vAu<|zA<|vT ((t:Int)<↑(Aa L))<|vKB<|vA<|vr 3 (ix ↑t ↑(Aa L) (Af faAc L≠[])/\3<=Aa (Ag (t*3)<|Af faAc L))<|vs 57 (Aw<|Ap 3<|Ag (t*3)<|Af faAc L) (Aw<|faAc f)<|ve (az_)<|vd [0,3,4,5,6,1,2,7,8]<|vr 5 (i6 (↑t+1)/\(0:Int)<=(↑(t+1):Int)/\True/\True/\0<3/\Am (↑(t+1):Int)<=Aa L/\Aa L<=Aa L/\Aa L=Aa L)<|vs 64 (Ae (Ap ((Aa L-Am (↑(t+1):Int))*3)<|Ag (Am (↑(t+1):Int)*3)<|Af faAc L) (Aa L-Am (↑(t+1):Int))) (Ae (Af faAc<|Ag (t+1) L)<|Aa<|Ag (t+1) L)<|vr 2 (3<=3/\3<=3)<|vc hmul<|vr 1 (AY (fB1 ((q10_ A)) ((q11_ l))<|(q12_ l))=Ac/\aR_)<|vnil<|zD<|vN<|zB rfl<|vr 2 (i6 (↑t+1))<|vnil<|zC<|⟨t+1,A',l',⟨by omega,t2,r3,r4,r5⟩,by omega,?_⟩;refine vk 5
  rw[BQ t7]at t2;simp only[zCm]at t2;rw[<-t2];refine vAu<|zA<|vF ((t:Int)<↑(Aa L))<|vZ2<|vA<|ve (aL_)<|zG<|vret (3<=3)<|.inr rfl
 have hm:=zHz popN L hF;have hch:=cheapest_c L F f1 hF (λf h=>(f3 f h).asc) (by omega);have hv32:=f1.2 _ hm.1;have hel:=zZs hD L (zBb popN L F) f3 f4 (by omega) (by omega) (f2 _ hm.1) hv32;have hmn:=msk_ne hF;have x1:=zHf hv32;have x2:=an_less f1 hv32;have x3:=zCk (zCc (zKw f1 (zBb popN L F)).2);have hz1:=elim_z (c:=rcmp) (S:=Sn) (z:=rz) (zJ1 Sn) (zZg Sn) (zBb popN L F) L;have hz2:=elim_z (c:=rcmp) (S:=Sn) (z:=vz) zTu (λv f=>Nat.le_of_eq (fsum_vz v f)) (zBb popN L F) L;have hlen:=elim_len (c:=rcmp) (S:=Sn) (zBb popN L F) L;have hA:=elim_A (c:=rcmp) (S:=Sn) (fs:=L) (λf h=>(f3 f h).asc.2) (zBb popN L F);have hok:=zZt (S:=Sn) rcw f3 (zBb popN L F);have hll:=zTj f1.nd hm.1;have hla:=zKw f1 (zBb popN L F);have hmg:zFu popN rcmp Sn F.length L F=zFu popN rcmp Sn (less F (zBb popN L F)).length (elim rcmp Sn (zBb popN L F) L) (less F (zBb popN L F)):=by
  rw[<-hll];rfl
 have hcm:=hm.1;generalize zBb popN L F=v at*;generalize elim rcmp Sn v L=L' at*;refine zA<|vAu<|zFr (t:=(↑(msk F):Int)!=(0:Int)) (by kernel_rfl) (by simpa using by omega)<|vK<|zF<|vA<|vrT 2<|vc hch<|veT<|vA<|vrT 3<|vc hel<|veT<|zB rfl<|vr 3 ((0:Int)<=(v:Int))<|vs 43 (Ar<|AF AD<|AV AD ((1:Int)*(2:Int)^min (Am (v:Int)) 32)) (dig ((2:Nat)^v))<|vrT 1<|vs 44 (Ar<|AF AD<|AV AD (↑(AW (AB 32 (↑(msk F):Int)&&&~~~AB 32 (↑((2:Nat)^v):Int))):Int)) (dig<|msk<|less F v)<|vrT 1<|vnil<|zD<|zC<|⟨(less F v).length,L',less F v,⟨rfl,hla,λw hw=>(hA w).2 ⟨f2 w (zC3.1 hw).1,(zC3.1 hw).2⟩,hok,by omega,by omega,by omega,by rw[<-hmg];exact f7⟩,by omega,?_⟩;refine vk 1
end
section
variable(n e:Int)(keep:Nat)(cs:List D)(m:Nat)
theorem total_c(f:Fa Nat)(hm:Pure An 26 [cntD,iD n,u32D 0, .row cs m] [] (.tup [faA f,iD 0])):Pure An 11 [cntD,iD n, .row cs m] [] (.tup [natD ((f.l.map (·.2)).headD 0),iD 0]):=by
 obtain⟨A,l⟩:=f;rcases l with _|⟨p,l⟩
 ·skip;obtain⟨z,hz⟩:∃z:Nat,z=0:=⟨0,rfl⟩;have hr:natD (([]:List (Rw×Nat)).map (·.2)|>.headD 0)=natD z:=by rw[hz];rfl
  simp only[hr];refine zJ (T:=Tc) (zVd _ _ _) mixed Tryz.func11 rfl<|vAu<|vA<|vrT 3<|vc (hm)<|ve (aH_)<|zA<|vAe<|vf<|vK<|zA<|vA<|ve (aP_)<|vt<|vA<|vrT 1<|vc (czero_c z hz)<|veT<|zG<|zE<|vret (True)<|.inr rfl
 skip;show Pure _ _ _ _ (.tup [natD p.2,iD 0]);have hx:(vlsD (p::l)).headD .unk=natD p.2:=rfl;have hne:vlsD (p::l)≠[]:=by simp
 refine zJ (T:=Tc) (zVd _ _ _) mixed Tryz.func11 rfl<|vAu<|vA<|vrT 3<|vc (hm)<|ve (aH_)<|zA<|vAe<|vf<|vK<|zA<|vA<|ve (aP_)<|vEf ((↑(Aa l+1):Int)) ((0:Int))<|vK<|vA<|ve (True/\0<1/\ix (0:Int) (↑(Aa l+1):Int) (vlsD (p::l)≠[])/\0<Aa (vlsD (p::l)))<|zG<|vret (True)<|.inr rfl
end
set_option maxHeartbeats 4000000 in
theorem rcheck_c (n : Int) (V : List Int)(R:List Rw)(W:List Int)(hV:V.length<=1000000)(hR:R.length<=1000000):
    Pure An 29 [iD n,rawD ⟨V,R,W⟩] [] (iD (chk n V R W.length)):=by
  obtain⟨m,hm⟩:∃m,m=W.length:=⟨_,rfl⟩;refine zJ zDw mixed Tryz.func29 rfl<|vAu<|zA<|vAe<|zF<|zN (λ(i:Nat)=>fr 145 [(0,iD n),(3,Al 0 0),(5,iD (i:Int))]) (λ(i:Nat)=>[rB (.row (V.map λz=>iD z) V.length) (.row (R.map rowV) R.length)<|.row (W.map λz=>iD z) W.length]) (λi=>V.length-i) (λ(i:Nat)=>i<=V.length/\∀j,j<i->zFb n V j=Ab) 0 ?_ ?_ ?_
  ·grind
  ·refine vk 1
  rintro i ⟨h1,h2⟩;rcases Ax i V.length with h3|h3
  · have hne:(V.map λz=>iD z)≠[]:=zV
    have hx:=zB0 V i h3;by_cases hs:zFb n V i=Ab
    · have hs2:=hs
      simp only[zFb,Bm,Ca,decide_eq_true_eq]at hs2;obtain⟨s1,s2,s3⟩:=hs2;rcases i with _|k
      · rw[AM]at hx
        refine zA<|vAs<|ve (aK_)<|vT ((↑(0:Nat):Int)<↑(Aa V))<|vKB<|zA<|vd [0,2,1,3,4,5,6,7,9,12,8,10,11,13,14,15,16,17,18,19,21,22,25,27,20,23,24,26,28,29,30,31,32]<|vr 5 (aO_ (ix ↑(0:Nat) ↑(Aa V) (Ad (λ(z:Int)=>iD z) V≠[])/\0<Aa (Ad (λ(z:Int)=>iD z) V)))<|vsh 22 hx<|vw 8 [] [(6,Ac)] (decide (Ao V 0 (0:Int)<0)=Ac/\True/\0<3/\ix ↑(0:Nat) ↑(Aa V) (Ad (λ(z:Int)=>iD z) V≠[])/\0<Aa (Ad (λ(z:Int)=>iD z) V)) (vsh 29 hx<|vew [] [(15,Ac)] (decide (Ao V 0 (0:Int)>=n)=Ac) (vf<|zL<|zD<|vN<|zB rfl<|vr 3 (i6 (↑(0:Nat)+1))<|vnil<|zC ?_) (by exact decide_eq_false (by omega))) ⟨(by exact decide_eq_false (by omega)),trivial,(by omega),⟨(by omega),⟨(by omega),(by assumption)⟩⟩,(by(simp;omega))⟩;refine⟨1,⟨by omega,λj hj=>?_⟩,by omega,?_⟩
        ·grind
        refine vk 1
      · have hx2:=zB0 V k (by omega)
        have s4:V.getD k 0<V.getD (k+1) 0:=by
          grind
        refine zA<|vAs<|ve (aK_)<|vT ((↑(k+1):Int)<↑(Aa V))<|vKB<|zA<|vd [0,2,1,3,4,5,6,7,9,12,8,10,11,13,14,15,16,17,18,19,21,22,25,27,20,23,24,26,28,29,30,31,32]<|vr 4 (aO_ (ix ↑(k+1) ↑(Aa V) (Ad (λ(z:Int)=>iD z) V≠[])))<|vp 21 (k+1) (Ad (λ(z:Int)=>iD z) V)<|vr 1 (0<Aa (Ag (k+1)<|Ad (λ(z:Int)=>iD z) V))<|vsh 22 hx<|vw 7 [] [(6,Ac)] (decide (Ao V (k+1) (0:Int)<0)=Ac/\True/\0<3/\ix ↑(k+1) ↑(Aa V) (Ad (λ(z:Int)=>iD z) V≠[])) (vp 28 (k+1) (Ad (λ(z:Int)=>iD z) V)<|vr 1 (0<Aa (Ag (k+1)<|Ad (λ(z:Int)=>iD z) V))<|vsh 29 hx<|vw 9 [] [(15,Ac),(18,Ab)] (decide (Ao V (k+1) (0:Int)>=n)=Ac/\decide ((↑(k+1):Int)>(0:Int))=Ab/\True/\i6 (↑(k+1)-1)) (vs 40 (iD (↑(k+1)-1)) (iD k) (hd:=by simp(disch:=omega) only[zS8])<|vr 4 (aO_ (ix ↑k ↑(Aa V) (Ad (λ(z:Int)=>iD z) V≠[])))<|vp 41 k (Ad (λ(z:Int)=>iD z) V)<|vr 1 (0<Aa (Ag k<|Ad (λ(z:Int)=>iD z) V))<|vsh 42 hx2<|vr 2 (0<3/\ix ↑(k+1) ↑(Aa V) (Ad (λ(z:Int)=>iD z) V≠[])) ?_) ⟨(by exact decide_eq_false (by omega)),(by exact decide_eq_true (by omega)),trivial,(by omega)⟩) ⟨(by exact decide_eq_false (by omega)),trivial,(by omega),⟨(by omega),⟨(by omega),(by assumption)⟩⟩⟩;refine vp 46 (k+1) (Ad (λ(z:Int)=>iD z) V)<|vr 1 (0<Aa (Ag (k+1)<|Ad (λ(z:Int)=>iD z) V))<|vsh 47 hx<|veT<|vF (Ao V k (0:Int)>=Ao V (k+1) (0:Int))<|zL<|zD<|vN<|zB rfl<|vr 3 (i6 (↑(k+1)+1))<|vnil<|zC<|⟨k+2,⟨by omega,λj hj=>?_⟩,by omega,?_⟩
        ·grind
        refine vk 1
    · have hc3:chk n V R W.length=3:=chk_v h3 (by simpa using hs)
      rw[hc3];rcases i with _|k
      · rw[AM]at hx
        focus
          refine zA<|vAs<|ve (aK_)<|vT ((↑(0:Nat):Int)<↑(Aa V))<|vKB<|zA<|vd [0,2,1,3,4,5,6,7,9,12,8,10,11,13,14,15,16,17,18,19,21,22,25,27,20,23,24,26,28,29,30,31,32]<|vr 5 (aO_ (ix ↑(0:Nat) ↑(Aa V) (Ad (λ(z:Int)=>iD z) V≠[])/\0<Aa (Ad (λ(z:Int)=>iD z) V)))<|vsh 22 hx<|vrT 2<|vspD 24 (Ao V 0 (0:Int)<0) (λhc=>?_)<|λhc=>?_;refine veT<|vt<|vAe<|zG<|zH<|zE<|zE<|zH<|zE<|vret (True)<|.inr rfl;refine vr 6 (aO_ (ix ↑(0:Nat) ↑(Aa V) (Ad (λ(z:Int)=>iD z) V≠[])/\0<Aa (Ad (λ(z:Int)=>iD z) V)))<|vsh 29 hx<|vrT 3<|vspD 33 (Ao V 0 (0:Int)>=n) (λhc=>?_)<|λhc=>?_;refine veT<|vt<|vAe<|zG<|zH<|zE<|zE<|zH<|zE<|vret (True)<|.inr rfl;refine veT<|vf<|zL<|zD<|vN<|zB rfl<|vr 3 (i6 (↑(0:Nat)+1))<|vnil<|zC ?_;rotate_left
        grind [zLk]
      · have hx2:=zB0 V k (by omega)
        focus
          refine zA<|vAs<|ve (aK_)<|vT ((↑(k+1):Int)<↑(Aa V))<|vKB<|zA<|vd [0,2,1,3,4,5,6,7,9,12,8,10,11,13,14,15,16,17,18,19,21,22,25,27,20,23,24,26,28,29,30,31,32]<|vr 4 (aO_ (ix ↑(k+1) ↑(Aa V) (Ad (λ(z:Int)=>iD z) V≠[])))<|vp 21 (k+1) (Ad (λ(z:Int)=>iD z) V)<|vr 1 (0<Aa (Ag (k+1)<|Ad (λ(z:Int)=>iD z) V))<|vsh 22 hx<|vrT 2<|vspD 24 (Ao V (k+1) (0:Int)<0) (λhc=>?_)<|λhc=>?_;refine veT<|vt<|vAe<|zG<|zH<|zE<|zE<|zH<|zE<|vret (True)<|.inr rfl;refine vr 5 (aO_ (ix ↑(k+1) ↑(Aa V) (Ad (λ(z:Int)=>iD z) V≠[])))<|vp 28 (k+1) (Ad (λ(z:Int)=>iD z) V)<|vr 1 (0<Aa (Ag (k+1)<|Ad (λ(z:Int)=>iD z) V))<|vsh 29 hx<|vrT 3<|vspD 33 (Ao V (k+1) (0:Int)>=n) (λhc=>?_)<|λhc=>?_;refine veT<|vt<|vAe<|zG<|zH<|zE<|zE<|zH<|zE<|vret (True)<|.inr rfl;refine vw 6 [] [(18,Ab)] (decide ((↑(k+1):Int)>(0:Int))=Ab/\True/\i6 (↑(k+1)-1))<|vs 40 (iD (↑(k+1)-1)) (iD k) (hd:=by simp(disch:=omega) only[zS8])<|vr 4 (aO_ (ix ↑k ↑(Aa V) (Ad (λ(z:Int)=>iD z) V≠[])))<|vp 41 k (Ad (λ(z:Int)=>iD z) V)<|vr 1 (0<Aa (Ag k<|Ad (λ(z:Int)=>iD z) V))<|vsh 42 hx2<|vr 2 (0<3/\ix ↑(k+1) ↑(Aa V) (Ad (λ(z:Int)=>iD z) V≠[]))<|vp 46 (k+1) (Ad (λ(z:Int)=>iD z) V)<|vr 1 (0<Aa (Ag (k+1)<|Ad (λ(z:Int)=>iD z) V))<|vsh 47 hx<|veT<|vcD (Ao V k (0:Int)>=Ao V (k+1) (0:Int)) (λhc=>?_)<|λhc=>?_;refine vAe<|zG<|zH<|zE<|zE<|zH<|zE<|vret (True)<|.inr rfl;refine zL<|zD<|vN<|zB rfl<|vr 3 (i6 (↑(k+1)+1))<|vnil<|zC ?_;rotate_left
        all_goals exact absurd (zLk (by omega) (by omega) (.inr (by simp only[Bw];omega))) hs
  have hv:=zGp (p:=zFb n V) (n:=V.length) λj hj=>h2 j (by omega);by_cases hlm:R.length=W.length;case neg=>
    rw[chk_l hv hlm];refine zA<|vAs<|ve (aK_)<|vF ((i:Int)<↑(Aa V))<|vZ2<|zA<|vA<|ve (aM_)<|zFr (t:=(Aa R:Int)!=(Aa W:Int)) (by kernel_rfl) (by simpa using by omega)<|vAe<|zG<|zE<|vret (True)<|.inr rfl
  refine zA<|vAs<|ve (aK_)<|vF ((i:Int)<↑(Aa V))<|vZ2<|zA<|vA<|ve (aM_)<|zGf (t:=(Aa R:Int)!=(Aa W:Int)) (by kernel_rfl) (by simpa using by omega)<|vK<|zA<|vAe<|zF<|zN (λ(i:Nat)=>fr 145 [(3,Al 0 0),(6,iD i)]) (λ(i:Nat)=>[rB (.row (V.map λz=>iD z) V.length) (.row (R.map rowV) R.length)<|.row (W.map λz=>iD z) W.length]) (λi=>R.length-i) (λ(i:Nat)=>i<=R.length/\∀j,j<i->j<R.length->decide ((R.getD j []).length=V.length)=Ab) 0 ?_ ?_ ?_
  ·grind
  ·refine vk 1
  clear h1 h2 h3 i;rintro i ⟨h1,h2⟩;rcases Ax i R.length with h3|h3
  · have hne:R.map rowV≠[]:=zV
    have hx:=zAl R i h3;have hca:=chk_a hv hlm h3;generalize hg:R.getD i []=r at*;focus
      refine zA<|vAs<|ve (aG_)<|vT ((i:Int)<↑(Aa R))<|vKB<|zA<|vd [0,2,6,1,3,4,5,7,8,9]<|vr 5 (True/\True/\0<2/\ix ↑i ↑(Aa R) (Ad rowV R≠[]))<|vp 68 i (Ad rowV R)<|vr 1 (0<Aa (Ag i<|Ad rowV R))<|vsh 69 hx<|ve (0<3/\True)<|zAk (t:=(Aa r:Int)!=(Aa V:Int)) (by kernel_rfl) (λhc=>?_)<|λhc=>?_;simp only[bne_iff_ne]at hc;refine vAe<|zG<|zH<|zE<|zE<|zH<|zE<|vre (True) (Ar<|AF Bh 6) (.inr rfl) ?_;rotate_left;simp only[bne_eq_false_iff_eq]at hc;refine zL<|zD<|vN<|zB rfl<|vr 3 (i6 (↑i+1))<|vnil<|zC ?_;rotate_left
    ·rw[hca (by omega)]
    · refine⟨i+1,⟨by omega,λj hj hjl=>?_⟩,by omega,?_⟩
      ·grind
      refine vk 1
  have ha:=zEm (p:=λx:Rw=>decide (x.length=V.length)) (d:=[]) h3 h2;have hl:∀x∈R,x.length<=1000000000:=λx hx=>by
    grind
  refine zA<|vAs<|ve (aG_)<|vF ((i:Int)<↑(Aa R))<|vZ2<|zA<|vAe<|zF<|zN (λ(i:Nat)=>fr 145 [(3,Al 0 0),(7,iD i)]) (λ(i:Nat)=>[rB (.row (V.map λz=>iD z) V.length) (.row (R.map rowV) R.length)<|.row (W.map λz=>iD z) W.length]) (λi=>R.length-i) (λ(i:Nat)=>i<=R.length/\∀j,j<i->j<R.length->(R.getD j []).all vok=Ab) 0 ?_ ?_ ?_
  ·grind
  ·refine vk 1
  clear h1 h2 h3 i;rintro i ⟨h1,h2⟩;rcases Ax i R.length with h3|h3
  · have hne:R.map rowV≠[]:=zV
    have hx:=zAl R i h3;have hco:=chk_o hv hlm ha h3;have hlr:=hl _ (zAo R [] i h3);generalize hg:R.getD i []=r at*;refine zA<|vAs<|ve (aG_)<|vT ((i:Int)<↑(Aa R))<|vKB<|vAe<|zF<|zN (λ(k:Nat)=>fr 145 [(3,Al 0 0),(7,iD i),(8,iD k)]) (λ(k:Nat)=>[rB (.row (V.map λz=>iD z) V.length) (.row (R.map rowV) R.length)<|.row (W.map λz=>iD z) W.length]) (λk=>r.length-k) (λ(k:Nat)=>k<=r.length/\∀j,j<k->j<r.length->vok (r.getD j Ai)=Ab) 0 ?_ ?_ ?_
    ·grind
    ·refine vk 1
    rintro k ⟨k1,k2⟩;rcases Ax k r.length with k3|k3
    · have hno:vok (r.getD k Ai)=Ac->r.all vok=false:=all_no vok Ai r k k3
      generalize hv2:r.getD k Ai=v at*;focus
        refine zA<|vAs<|vr 5 (True/\0<2/\ix ↑i ↑(Aa R) (Ad rowV R≠[]))<|vp 86 i (Ad rowV R)<|vr 1 (0<Aa (Ag i<|Ad rowV R))<|vsh 87 hx<|veT<|vT ((k:Int)<↑(Aa r))<|vKB<|vA<|vr 4 (True/\0<2/\ix ↑i ↑(Aa R) (Ad rowV R≠[]))<|vp 95 i (Ad rowV R)<|vr 1 (0<Aa (Ag i<|Ad rowV R))<|vsh 96 hx<|vr 3 (ix ↑k ↑(Aa r) (zM r≠[])/\3<=Aa (Ag (k*3)<|zM r)) (vs 99 (Aw<|Ap 3<|Ag (k*3)<|zM r) (Aw<|vaC v) (hd:=by simp(disch:=omega) only[zCu,hv2])<|ve (az_)<|vA<|vr 4 (aW_) ?_) ⟨⟨(by omega),⟨(by omega),(by exact zF1 _)⟩⟩,(by exact zEd _ _)⟩;refine vsp 103 (Va.kind v==(1:Int)) (λhc=>?_)<|λhc=>?_;simp only[beq_iff_eq]at hc;refine vr 3 (aP_)<|vs 106 (bD (ByteArray.toList (bs<|Va.str v)==ByteArray.toList (A5 #[]))) (bD<|List.isEmpty<|Va.str v) (hd:=by simp(disch:=omega) only[zLb,zQ5,zVs])<|vrT 2<|vsp 108 (List.isEmpty<|Va.str v) (λhc=>?_)<|λhc=>?_;refine veT<|vf<|zL<|zD<|vN<|zB rfl<|vr 3 (i6 (↑k+1))<|vnil<|zC ?_;rotate_left;refine vew [] [(12,Ac)] (True/\0<3/\True/\(Va.kind v==(2:Int))=Ac)<|vt<|vAe<|zG<|zH<|zE<|zE<|zH<|zH<|zE<|zE<|zH ?_;refine zE<|vre (True) (q13_) (.inr rfl) ?_;rotate_left;simp only[beq_eq_false_iff_ne]at hc;refine vr 9 (aW_)<|vsp 112 (Va.kind v==(2:Int)) (λhc=>?_)<|λhc=>?_;simp only[beq_iff_eq]at hc;refine vr 5 (True/\0<2/\True)<|vsp 117 (Va.int v==(0:Int)) (λhc=>?_)<|λhc=>?_;simp only[beq_iff_eq]at hc;refine ve (aX_)<|zAk (t:=!decide ((Aa (Va.str v):Int)<=(24:Int))) (by kernel_rfl) (λhc=>?_)<|λhc=>?_;simp only[BF]at hc;refine vAe<|zG<|zH<|zE<|zE<|zH<|zH<|zE<|zE<|zH<|zE<|vre (True) (q13_) (.inr rfl) ?_;rotate_left;simp only[BS]at hc;refine zL<|zD<|vN<|zB rfl<|vr 3 (i6 (↑k+1))<|vnil<|zC ?_;rotate_left;simp only[beq_eq_false_iff_ne]at hc;refine veT<|vt<|vAe<|zG<|zH<|zE<|zE<|zH<|zH<|zE<|zE<|zH ?_;refine zE<|vre (True) (q13_) (.inr rfl) ?_;rotate_left;simp only[beq_eq_false_iff_ne]at hc;refine veT<|vt<|vAe<|zG<|zH<|zE<|zE<|zH<|zH<|zE<|zE<|zH ?_;refine zE<|vre (True) (q13_) (.inr rfl) ?_;rotate_left
      · have hvk:vok v=true:=by simp[vok, *]<;>omega
        refine⟨k+1,⟨by omega,λj hj hjl=>?_⟩,by omega,?_⟩
        ·grind
        refine vk 1
      ·grind [vok]
      ·rw[hco (hno (by have hd:=hc;simp only[decide_eq_false_iff_not,decide_eq_true_eq]at hd;simp[vok, *]<;>omega))]
      · have hvk:vok v=true:=by have hd:=hc;simp only[decide_eq_false_iff_not,decide_eq_true_eq]at hd;simp[vok, *]<;>omega
        refine⟨k+1,⟨by omega,λj hj hjl=>?_⟩,by omega,?_⟩
        ·grind
        refine vk 1
      all_goals grind [vok]
    · have hra:=zEm (p:=vok) (d:=Ai) k3 k2
      refine zA<|vAs<|vr 5 (True/\0<2/\ix ↑i ↑(Aa R) (Ad rowV R≠[]))<|vp 86 i (Ad rowV R)<|vr 1 (0<Aa (Ag i<|Ad rowV R))<|vsh 87 hx<|veT<|vF ((k:Int)<↑(Aa r))<|vY2<|zD<|vN<|zB rfl<|vr 3 (i6 (↑i+1))<|vnil<|zC<|⟨i+1,⟨by omega,λj hj hjl=>?_⟩,by omega,?_⟩
      ·grind
      refine vk 1
  have ho:=zEm (p:=λx:Rw=>x.all vok) (d:=[]) h3 h2;refine zA<|vAs<|ve (aG_)<|vF ((i:Int)<↑(Aa R))<|vZ2<|zA<|vAe<|zF<|zN (λ(k:Nat)=>fr 145 [(3,Al 0 0),(10,iD (↑k+1))]) (λ(k:Nat)=>[rB (.row (V.map λz=>iD z) V.length) (.row (R.map rowV) R.length)<|.row (W.map λz=>iD z) W.length]) (λk=>R.length-k) (λ(k:Nat)=>k<=R.length/\∀j,j<=k->j<R.length->zLs R j=Ab) 0 ?_ ?_ ?_
  · exact ⟨by omega, fun j h _ => by obtain rfl:j=0:=by omega
                                     rfl⟩
  ·refine vk 1
  clear h1 h2 h3 i;rintro k ⟨h1,h2⟩;rcases Ax (k+1) R.length with h3|h3
  · have hne:R.map rowV≠[]:=zV
    have hx:=zAl R (k+1) h3;have hx0:=zAl R k (by omega);have hcs:=chk_s hv hlm ha ho h3;have hst:zLs R (k+1)=decide (rcmp (R.getD k []) (R.getD (k+1) [])<0):=by simp[zLs]
    have hcm:=rless_c (R.getD k []) (R.getD (k+1) []) _ _ rfl rfl (hl _ (zAo R [] k (by omega))) (hl _ (zAo R [] (k+1) h3));generalize R.getD (k+1) []=r at*;generalize R.getD k []=r0 at*;focus
      refine zA<|vAs<|ve (aG_)<|vT ((↑(k+1):Int)<↑(Aa R))<|vKB<|zA<|vd [0,2,3,6,8,1,4,5,7,9,10,11,12]<|vr 3 (True/\i6 (↑(k+1)-1))<|vs 135 (iD (↑(k+1)-1)) (iD k) (hd:=by simp(disch:=omega) only[zS8])<|vr 4 (True/\0<2/\ix ↑k ↑(Aa R) (Ad rowV R≠[]))<|vp 136 k (Ad rowV R)<|vr 1 (0<Aa (Ag k<|Ad rowV R))<|vsh 137 hx0<|vr 2 (0<2/\ix ↑(k+1) ↑(Aa R) (Ad rowV R≠[]))<|vp 141 (k+1) (Ad rowV R)<|vr 1 (0<Aa (Ag (k+1)<|Ad rowV R))<|vsh 142 hx<|vc hcm<|veT<|zAk (t:=!decide (rcmp r0 r<0)) (by kernel_rfl) (λhc=>?_)<|λhc=>?_;simp only[BF]at hc;refine vAe<|zG<|zH<|zE<|zE<|zH<|zE<|vre (True) (Ar<|AF Bh 16) (.inr rfl) ?_;rotate_left;simp only[BS]at hc;refine zL<|zD<|vN<|zB rfl<|vr 3 (i6 (↑(k+1)+1))<|vnil<|zC ?_;rotate_left
    ·grind
    · refine⟨k+1,⟨by omega,λj hj hjl=>?_⟩,by omega,?_⟩
      ·grind
      refine vk 1
  rw[chk_0 hv hlm ha ho (zGp λj hj=>h2 j (by omega) hj)];refine zA<|vAs<|ve (aG_)<|vF ((k:Int)+(1:Int)<(Aa R:Int))<|vZ2<|vAe<|zG<|vret (True)<|.inr rfl
abbrev natI(W:List Nat):List Int:=W.map λw:Nat=>(w:Int)
abbrev rnR(f:Rn):Raw:=⟨f.V,f.R,natI f.W⟩
theorem max0(w:Nat):(if(0:Int)>(w:Nat)then 0 else((w:Nat):Int))=(w:Nat):=by split<;>omega
theorem zYh{n:Nat}(h:n<18446744073709551616):IntKind.u64.wrap (n:Int)=(n:Int):=by grind [zDx,only,inK]
set_option maxHeartbeats 2000000 in
theorem count_c(f:Rn)(hW:f.W.length<=1000)(hw:∀w∈f.W,w<=1000000):Pure An 25 [rawD (rnR f)] [] (.agg (rnC f)):=by
 obtain⟨V,R,W⟩:=f;simp only at hW hw;have e1:rawD (rnR ⟨V,R,W⟩)= .agg [.row (V.map λz=>iD z) V.length, .row (R.map rowV) R.length, .row (nsD W) W.length]:=by
  simp_all
 rw[e1];refine zJ zDw mixed Tryz.func25 rfl<|vAu<|vA<|vr 7 (True/\0<3/\True/\0<2/\((1=1/\1<=3/\1=1/\2<=3/\True)/\Ab=Ab)/\Ac=Ac/\Ab=Ab/\3=3/\3<=3)<|vnil<|zC<|vnn (fr 31 [(1,Al 0 0),(2,Al 1 0),(3,Al 2 0),(5,Al 0 0),(6,Ae (Ad (λ(z:Int)=>iD z) V)<|Aa V),(7,Al 0 1),(8,Ae (Ad rowV R)<|Aa R),(9,Aw [Ae (Ad (λ(z:Int)=>iD z) V)<|Aa V,Ae (Ad rowV R)<|Aa R,nl])]) [Aj [Ae (Ad (λ(z:Int)=>iD z) V)<|Aa V,Ae (Ad rowV R)<|Aa R,Ae (nsD W)<|Aa W] 42 0 Ac Ac Ak,Aj [nl,nl,nl] 90 0 Ac Ac Ak,Aj [Ae (Ad (λ(z:Int)=>iD z) V)<|Aa V,Ae (Ad rowV R)<|Aa R,nl] 90 0 Ac Ac Ak]<|zBh (Bo (j:=2) (i:=2) (natB []) rfl rfl rfl rfl) ?_;refine zA<|vAu<|zF<|zN (λ(i:Nat)=>fr 31 [(1,Al 0 0),(2,Al 1 0),(3,Al 2 0),(4,iD i)]) (λ(i:Nat)=>[rB (.row (V.map λz=>iD z) V.length) (.row (R.map rowV) R.length)<|.row (nsD W) W.length,fB1 nl nl nl,fB1 (.row (V.map λz=>iD z) V.length) (.row (R.map rowV) R.length)<|.osl 3 0 i i Ab,natB<|(W.take i).map natD]) (λi=>W.length-i) (λ(i:Nat)=>i<=W.length) 0 ?_ ?_ ?_
 ·omega
 ·refine vk 4
 rintro i h1;rcases Ax i W.length with h2|h2
 ·have hne:nsD W≠[]:=zV;have hx:=zA6 W i h2;have hm:=zDy W i h2;have hb:=hw _ hm;have e0:(W.take (i+1)).map natD=(W.take i).map natD++[natD (W.getD i 0)]:=by
   grind [Bc,AR]
  have hl:((W.take i).map natD).length=i:=by simp;omega
  generalize W.getD i 0=w at*;have hof:=of_c w (by omega);have m0:=max0 w;have m1:=zYh (n:=w) (by omega);refine zA<|vAs<|ve (aX_)<|vT ((i:Int)<↑(Aa W))<|vKB<|vd [0,2,4,1,3,5,6,7,8,9,10,11,12,13]<|vr 6 (True/\True/\0<1/\0<1/\ix ↑i ↑(Aa W) (nsD W≠[]))<|vp 22 i (nsD W)<|vr 1 (0<Aa (Ag i<|nsD W))<|vsh 23 hx<|vr 2 (u6 (w:Int))<|vc hof<|vr 4 (ay_ ((AS (natB<|Ad natD<|Ap i W)=Ab/\Aa (AC<|natB<|Ad natD<|Ap i W)=i*1/\i=i*1/\AJ (natB<|Ad natD<|Ap i W)=50/\AK (natB<|Ad natD<|Ap i W)=1/\1=1/\0<1/\0<24/\50=50/\(i+1)*24<=140737488355328/\1=1/\AO (Au<|natB<|Ad natD<|Ap i W)=Ac/\(Ac=Ac\/AQ (Au<|natB<|Ad natD<|Ap i W)=Ab))/\aS_))<|vb 2 (Aj [Ae (Ad (λ(z:Int)=>iD z) V)<|Aa V,Ae (Ad rowV R)<|Aa R,Ah 3 0 (i+1) ((i+1)*1) Ab] 90 0 Ac Ac Ak) (Aj [Ae (Ad (λ(z:Int)=>iD z) V)<|Aa V,Ae (Ad rowV R)<|Aa R,Ah 3 0 (i+1) (i+1) Ab] 90 0 Ac Ac Ak)<|vnil<|zD<|vN<|zB rfl<|vr 3 (i6 (↑i+1))<|vnil<|zC<|⟨i+1,by omega,by omega,?_⟩;rw[e0];refine vk 4
 refine zA<|vAs<|ve (aX_)<|vF ((i:Int)<(Aa W:Int))<|vZ2<|vA<|ve (aL_)<|zG<|zBt (3<=3) (Aw [Ae (Ad (λ(z:Int)=>iD z) V)<|Aa V,Ae (Ad rowV R)<|Aa R,Ae (Ap i<|Ag 0<|AC<|natB<|Ad natD<|Ap i W) i]) (Aw [Ae (Ad (λ(z:Int)=>iD z) V)<|Aa V,Ae (Ad rowV R)<|Aa R,Ae (Ap i<|Ad natD<|Ap i W) i]) (.inr rfl) (by simp(disch:=omega) only[AM]) ?_ (hc:=by omega);grind [Bt,AI]
abbrev rwD(f:Rn):List D:=rawC (rnR f)
theorem zN4(f:Rn):(rwD f).length=3:=rfl
theorem len_sn(l:List α)(x:α):(l++[x]).length=l.length+1:=by simp
structure Rsm(f:Rn):Prop where
 v:f.V.length<=4
 r:f.R.length<=10
 w:f.W.length<=12
 b:∀w∈f.W,w<=1000
theorem headD_vl(l:List (Rw×Nat))(h:k<l.length):((vlsD l).drop k).headD .unk=natD (l.getD k Ai).2:=by
 simp_all
set_option maxHeartbeats 4000000 in
theorem same_c(A:List Nat)(l:List (Rw×Nat))(hA:A.length<=1000)(hl:l.length<=1000000)(hr:∀p∈l,p.1.length<=1000000000)(hv:∀p∈l,p.2<=9223372036854775807):Pure An 27 [fcD A l,rfD A l] [] (bD Ab):=by
 refine zJ zDw mixed Tryz.func27 rfl<|vAu<|zA<|vA<|vew [] [(7,Ac),(16,Ac)] (True/\0<3/\True/\0<3/\True/\((Aa A:Int)!=(Aa A:Int))=Ac/\True/\0<2/\True/\0<2/\True/\((Aa l:Int)!=(Aa l:Int))=Ac/\True/\0<1/\True/\0<1/\True)<|zGf (t:=(Aa l:Int)!=(Aa l:Int)) (by kernel_rfl) (by simp)<|vK<|zA<|vAe<|zF<|zN (λ(i:Nat)=>fr 85 [(2,Al 0 0),(3,Al 1 0),(5,iD (i:Int))]) (λ(i:Nat)=>[fB1 (.row (nsD A) A.length) (.row (rwsD l) l.length)<|.row (vlsD l) l.length,rB (.row (nsD A) A.length) (.row (rwsD l) l.length)<|.row (isD l) l.length]) (λi=>A.length-i) (λ(i:Nat)=>i<=A.length) 0 ?_ ?_ ?_
 ·omega
 ·refine vk 2
 rintro i h1;rcases Ax i A.length with h2|h2
 ·have hne:nsD A≠[]:=zV;have hx:=zA6 A i h2;refine zA<|vAs<|ve (aK_)<|vT ((i:Int)<↑(Aa A))<|vKB<|zA<|vd [0,2,5,7,1,3,4,6,8,9,10]<|vr 6 (True/\True/\0<3/\ix ↑i ↑(Aa A) (nsD A≠[]))<|vp 42 i (nsD A)<|vr 1 (0<Aa (Ag i<|nsD A))<|vsh 43 hx<|vr 2 (0<3/\ix ↑i ↑(Aa A) (nsD A≠[]))<|vp 47 i (nsD A)<|vr 1 (0<Aa (Ag i<|nsD A))<|vsh 48 hx<|veT<|zGf (t:=(↑(Ao A i 0):Int)!=(↑(Ao A i 0):Int)) (by kernel_rfl) (by simp)<|zL<|zD<|vN<|zB rfl<|vr 3 (i6 (↑i+1))<|vnil<|zC<|⟨i+1,by omega,by omega,?_⟩;refine vk 2
 refine zA<|vAs<|ve (aK_)<|vF ((i:Int)<↑(Aa A))<|vZ2<|zA<|vAe<|zF<|zN (λ(i:Nat)=>fr 85 [(2,Al 0 0),(3,Al 1 0),(6,iD i)]) (λ(i:Nat)=>[fB1 (.row (nsD A) A.length) (.row (rwsD l) l.length)<|.row (vlsD l) l.length,rB (.row (nsD A) A.length) (.row (rwsD l) l.length)<|.row (isD l) l.length]) (λi=>l.length-i) (λ(i:Nat)=>i<=l.length) 0 ?_ ?_ ?_
 ·omega
 ·refine vk 2
 clear h1 h2 i;rintro i h1;rcases Ax i l.length with h2|h2
 ·have hpm:=zAo l Ai i h2;have hx:=headD_rw l h2;have hy:=headD_vl l h2;have hz:=headD_is l h2;have hne:rwsD l≠[]:=zV (h:=by simp;omega);have hne2:vlsD l≠[]:=zV (h:=by simp;omega);have hne3:isD l≠[]:=zV (h:=by simp;omega);have hrp:=hr _ hpm;have hvp:=hv _ hpm;generalize l.getD i Ai=p at*;have hsa:=rsame_c p.1 _ rfl hrp;have hof:=of_c p.2 (by omega);have hcm:=ncmp_c p.2 p.2 (Sm.of (by omega)) (Sm.of (by omega));have e0:cmpD (p.2:Int) (p.2:Int)=0:=by rcases zD8 (p.2:Int) p.2 with h|h|h<;>omega
  rw[e0]at hcm;have m1:=zYh (n:=p.2) (by omega);refine zA<|vAs<|ve (aG_)<|vT ((i:Int)<↑(Aa l))<|vKB<|zA<|vd [0,2,5,7,1,3,4,6,8,9,10,11,12,13,15,18,20,14,16,17,19,21,22,23,24,25,26,27]<|vr 6 (True/\True/\0<2/\ix ↑i ↑(Aa l) (rwsD l≠[]))<|vp 60 i (rwsD l)<|vr 1 (0<Aa (Ag i<|rwsD l))<|vsh 61 hx<|vr 2 (0<2/\ix ↑i ↑(Aa l) (rwsD l≠[]))<|vp 65 i (rwsD l)<|vr 1 (0<Aa (Ag i<|rwsD l))<|vsh 66 hx<|vc hsa<|vr 8 (True/\True/\0<1/\ix ↑i ↑(Aa l) (vlsD l≠[]))<|vp 73 i (vlsD l)<|vr 1 (0<Aa (Ag i<|vlsD l))<|vsh 74 hy<|vr 2 (0<1/\ix ↑i ↑(Aa l) (isD l≠[]))<|vp 78 i (isD l)<|vr 1 (0<Aa (Ag i<|isD l))<|vsh 79 hz<|vr 1 (u6 (↑(Prod.snd p):Int))<|vc hof<|vc hcm<|veT<|vf<|zL<|zD<|vN<|zB rfl<|vr 3 (i6 (↑i+1))<|vnil<|zC<|⟨i+1,by omega,by omega,?_⟩;refine vk 2
 refine zA<|vAs<|ve (aG_)<|vF ((i:Int)<(Aa l:Int))<|vZ2<|vAe<|zG<|vret (True)<|.inr rfl
def fewR(f:Raw):Bool:=decide (f.R.length<=10)&&(decide (f.V.length<=4)&&(decide (f.W.length<=12)&&f.W.all λw=>decide (0<=w/\w<=1000)))
def fewP(l:List Raw):Bool:=((l.take 5).all fewR)&&decide (l.length<=4)
theorem fewP_rn(h:fewP l=Ab):l.length<=4/\∃fs:List Rn,l=fs.map rnR/\∀f∈fs,Rsm f:=by
 unfold fewP at h;rw[Bm,decide_eq_true_eq,A3]at h;refine⟨h.2,l.map λf=>⟨f.V,f.R,f.W.map Am⟩,?_,?_⟩
 ·rw[Bp];conv=>lhs;rw[<-List.map_id l]
  refine BH λf hf=>?_;have hf2:=h.1 f (by rw[AI (by omega)];exact hf);unfold fewR at hf2;simp only[Bm,decide_eq_true_eq,A3]at hf2;obtain⟨V,R,W⟩:=f;simp only[Function.comp,id];congr 1;show W=(W.map Am).map λw:Nat=>(w:Int);rw[Bp];conv=>lhs;rw[<-List.map_id W]
  grind [BH,only]
 intro f hf;obtain⟨g,hg,rfl⟩:=Av.1 hf;have hf2:=h.1 g (by rw[AI (by omega)];exact hg);unfold fewR at hf2;simp only[Bm,decide_eq_true_eq,A3]at hf2;refine⟨hf2.2.1,hf2.1,by simpa using hf2.2.2.1,λw hw=>?_⟩;grind
theorem fewP_no(h:i<l.length)(h5:i<5)(hp:fewR (l.getD i Ai)=Ac):fewP l=false:=by
 unfold fewP;have:(l.take 5).all fewR=false:=by
  rw[Bool.eq_false_iff];intro k;rw[A3]at k
  have:=k (l.getD i Ai) (by
   rw[AX,AR h];exact Cb.2 ⟨i,by rw[A8];omega,by rw[List.getElem_take];rfl⟩)
  rw[hp]at this;cases this
 rw[this];rfl
theorem fewP_yes(h:∀j,j<5->j<l.length->fewR (l.getD j Ai)=Ab):fewP l=decide (l.length<=4):=by
 grind [fewP,fewR,A3,Cb,A8,AR]
set_option maxHeartbeats 4000000 in
theorem few_c(l:List Raw):Pure An 7 [.row (l.flatMap rawC) l.length] [] (bD (fewP l)):=by
 refine zJ zDw mixed Tryz.func7 rfl<|vAu<|zA<|vAe<|zF<|zN (λ(i:Nat)=>fr 73 [(0,Ae (Af rawC l)<|Aa l),(3,iD (i:Int))]) (λ(i:Nat)=>[]) (λi=>5-i) (λ(i:Nat)=>i<=5/\i<=l.length/\∀j,j<i->fewR (l.getD j Ai)=Ab) 0 ?_ ?_ ?_
 ·grind
 ·refine vk 0
 rintro i ⟨h0,h1,h2⟩;by_cases h3:i<l.length/\i<5
 ·obtain⟨h3,h4⟩:=h3;have hg2:=zQ0 rawC_len l i h3;have hne:=zEk rawC_len (by decide) l;have hno:=fewP_no h3 h4;generalize hff:l.getD i Ai=f at*;obtain⟨V,R,W⟩:=f;by_cases hbad:R.length<=10/\V.length<=4/\W.length<=12
  ·obtain⟨b1,b2,b3⟩:=hbad;refine zA<|vAs<|vew [] [(4,Ab)] (decide ((i:Int)<↑(Aa l))=Ab)<|vT ((i:Int)<(5:Int))<|vKB<|zA<|vA<|vr 3 (ix ↑i ↑(Aa l) (Af rawC l≠[]))<|vs 17 (AA<|Ag (Am (i:Int)*3)<|Af rawC l) (AA (Ae (Ad iD V) (Aa V)::Ae (Ad rowV R) (Aa R)::Ae (Ad iD W) (Aa W)::Af rawC (Ag (i+1) l)))<|vw 8 [] [(7,Ac)] (True/\0<Aa (Ae (Ad rowV R) (Aa R)::Ae (Ad iD W) (Aa W)::Af rawC (Ag (i+1) l))/\decide ((Aa R:Int)>(10:Int))=Ac/\ix ↑i ↑(Aa l) (Af rawC l≠[]))<|vs 25 (AA<|Ag (Am (i:Int)*3)<|Af rawC l) (AA (Ae (Ad iD V) (Aa V)::Ae (Ad rowV R) (Aa R)::Ae (Ad iD W) (Aa W)::Af rawC (Ag (i+1) l)))<|vw 9 [] [(16,Ac)] (True/\0<Aa (Ae (Ad iD V) (Aa V)::Ae (Ad rowV R) (Aa R)::Ae (Ad iD W) (Aa W)::Af rawC (Ag (i+1) l))/\decide ((Aa V:Int)>(4:Int))=Ac/\ix ↑i ↑(Aa l) (Af rawC l≠[]))<|vs 34 (AA<|Ag (Am (i:Int)*3)<|Af rawC l) (AA (Ae (Ad iD V) (Aa V)::Ae (Ad rowV R) (Aa R)::Ae (Ad iD W) (Aa W)::Af rawC (Ag (i+1) l)))<|ve (True/\0<Aa (Ae (Ad iD W) (Aa W)::Af rawC (Ag (i+1) l)))<|vF ((Aa W:Int)>(12:Int))<|vK<|vAe<|zF<|zN (λ(k:Nat)=>fr 73 [(0,Ae (Af rawC l)<|Aa l),(3,iD i),(4,iD k)]) (λ(k:Nat)=>[]) (λk=>W.length-k) (λ(k:Nat)=>k<=W.length/\∀j,j<k->j<W.length->decide (0<=W.getD j 0/\W.getD j 0<=1000)=Ab) 0 ?_ ?_ ?_
   ·grind
   ·refine vk 0
   rintro k ⟨k1,k2⟩;rcases Ax k W.length with k3|k3
   ·have hneW:(W.map λz=>iD z)≠[]:=zV;have hx:=zB0 W k k3;have hbw:¬(0<=W.getD k 0/\W.getD k 0<=1000)->fewR ⟨V,R,W⟩=false:=λhb=>by
     grind [fewR,all_no]
    focus
     refine zA<|vAs<|vr 4 (ix ↑i ↑(Aa l) (Af rawC l≠[]))<|vs 43 (AA<|Ag (Am (i:Int)*3)<|Af rawC l) (AA (Ae (Ad iD V) (Aa V)::Ae (Ad rowV R) (Aa R)::Ae (Ad iD W) (Aa W)::Af rawC (Ag (i+1) l)))<|ve (True/\0<Aa (Ae (Ad iD W) (Aa W)::Af rawC (Ag (i+1) l)))<|vT ((k:Int)<↑(Aa W))<|vKB<|vA<|vr 3 (ix ↑i ↑(Aa l) (Af rawC l≠[]))<|vs 52 (AA<|Ag (Am (i:Int)*3)<|Af rawC l) (AA (Ae (Ad iD V) (Aa V)::Ae (Ad rowV R) (Aa R)::Ae (Ad iD W) (Aa W)::Af rawC (Ag (i+1) l)))<|vr 4 (True/\0<Aa (Ae (Ad iD W) (Aa W)::Af rawC (Ag (i+1) l))/\ix ↑k ↑(Aa W) (Ad iD W≠[]))<|vp 56 k (Ad iD W)<|vr 1 (0<Aa (Ag k<|Ad iD W))<|vsh 57 hx<|vrT 2<|vspD 59 (Ao W k (0:Int)<0) (λhc=>?_)<|λhc=>?_;refine veT<|vt<|vAe<|zG<|zH<|zE<|zE<|zH<|zH<|zE<|zE<|zH ?_;refine zE<|vre (True) (Ar<|Bu Ac) (.inr rfl) ?_;rotate_left;refine vr 3 (ix ↑i ↑(Aa l) (Af rawC l≠[]))<|vs 62 (AA<|Ag (Am (i:Int)*3)<|Af rawC l) (AA (Ae (Ad iD V) (Aa V)::Ae (Ad rowV R) (Aa R)::Ae (Ad iD W) (Aa W)::Af rawC (Ag (i+1) l)))<|vr 4 (True/\0<Aa (Ae (Ad iD W) (Aa W)::Af rawC (Ag (i+1) l))/\ix ↑k ↑(Aa W) (Ad iD W≠[]))<|vp 66 k (Ad iD W)<|vr 1 (0<Aa (Ag k<|Ad iD W))<|vsh 67 hx<|veT<|vcD (Ao W k (0:Int)>(1000:Int)) (λhc=>?_)<|λhc=>?_;refine vAe<|zG<|zH<|zE<|zE<|zH<|zH<|zE<|zE<|zH<|zE<|vre (True) (Ar<|Bu Ac) (.inr rfl) ?_;rotate_left;refine zL<|zD<|vN<|zB rfl<|vr 3 (i6 (↑k+1))<|vnil<|zC ?_;rotate_left
    ·grind
    ·grind
    refine⟨k+1,⟨by omega,λj hj hjl=>?_⟩,by omega,?_⟩
    ·grind
    refine vk 0
   have hw:=zEm (p:=λw:Int=>decide (0<=w/\w<=1000)) (d:=0) k3 k2;have hfr:fewR ⟨V,R,W⟩=true:=by
    grind [fewR]
   refine zA<|vAs<|vr 4 (ix ↑i ↑(Aa l) (Af rawC l≠[]))<|vs 43 (AA<|Ag (Am (i:Int)*3)<|Af rawC l) (AA (Ae (Ad iD V) (Aa V)::Ae (Ad rowV R) (Aa R)::Ae (Ad iD W) (Aa W)::Af rawC (Ag (i+1) l)))<|ve (True/\0<Aa (Ae (Ad iD W) (Aa W)::Af rawC (Ag (i+1) l)))<|vF ((k:Int)<↑(Aa W))<|vY2<|zD<|vN<|zB rfl<|vr 3 (i6 (↑i+1))<|vnil<|zC<|⟨i+1,⟨by omega,by omega,λj hj=>?_⟩,by omega,?_⟩
   ·grind
   refine vk 0
  have hfr:fewR ⟨V,R,W⟩=false:=by
   unfold fewR;grind
  rw[hno hfr];focus
   refine zA<|vAs<|vew [] [(4,Ab)] (decide ((i:Int)<↑(Aa l))=Ab)<|vT ((i:Int)<(5:Int))<|vKB<|zA<|vA<|vr 3 (ix ↑i ↑(Aa l) (Af rawC l≠[]))<|vs 17 (AA<|Ag (Am (i:Int)*3)<|Af rawC l) (AA (Ae (Ad iD V) (Aa V)::Ae (Ad rowV R) (Aa R)::Ae (Ad iD W) (Aa W)::Af rawC (Ag (i+1) l)))<|vr 5 (True/\0<Aa (Ae (Ad rowV R) (Aa R)::Ae (Ad iD W) (Aa W)::Af rawC (Ag (i+1) l)))<|vspD 22 ((Aa R:Int)>(10:Int)) (λhc=>?_)<|λhc=>?_;refine veT<|vt<|vAe<|zG<|zE<|zH<|zE<|zE<|zH<|zE<|vret (True)<|.inr rfl;refine vr 3 (ix ↑i ↑(Aa l) (Af rawC l≠[]))<|vs 25 (AA<|Ag (Am (i:Int)*3)<|Af rawC l) (AA (Ae (Ad iD V) (Aa V)::Ae (Ad rowV R) (Aa R)::Ae (Ad iD W) (Aa W)::Af rawC (Ag (i+1) l)))<|vr 6 (True/\0<Aa (Ae (Ad iD V) (Aa V)::Ae (Ad rowV R) (Aa R)::Ae (Ad iD W) (Aa W)::Af rawC (Ag (i+1) l)))<|vspD 31 ((Aa V:Int)>(4:Int)) (λhc=>?_)<|λhc=>?_;refine veT<|vt<|vAe<|zG<|zE<|zH<|zE<|zE<|zH<|zE<|vret (True)<|.inr rfl;refine vr 3 (ix ↑i ↑(Aa l) (Af rawC l≠[]))<|vs 34 (AA<|Ag (Am (i:Int)*3)<|Af rawC l) (AA (Ae (Ad iD V) (Aa V)::Ae (Ad rowV R) (Aa R)::Ae (Ad iD W) (Aa W)::Af rawC (Ag (i+1) l)))<|ve (True/\0<Aa (Ae (Ad iD W) (Aa W)::Af rawC (Ag (i+1) l)))<|vT ((Aa W:Int)>(12:Int))<|vAe<|zG<|zE<|zH<|zE<|zE<|zH<|zE<|vret (True)<|.inr rfl
 rw[fewP_yes λj j5 jl=>h2 j (by omega)];have e4:decide ((l.length:Int)<=4)=decide (l.length<=4):=by rw[decide_eq_decide];omega
 focus
  refine zA<|vAs<|vrT 5<|vspD 9 ((i:Int)<↑(Aa l)) (λhc=>?_)<|λhc=>?_;refine veT<|vF ((i:Int)<(5:Int))<|vZ2<|vA<|vrT 3<|vs 72 (bD<|decide ((Aa l:Int)<=(4:Int))) (bD<|decide (Aa l<=4))<|veT<|zG<|vret (True)<|.inr rfl;refine veT<|vf<|vZ2<|vA<|vrT 3<|vs 72 (bD<|decide ((Aa l:Int)<=(4:Int))) (bD<|decide (Aa l<=4))<|veT<|zG<|vret (True)<|.inr rfl
theorem ixI_ge(V:List Int)(v:Int):0<=ixI V v↔v∈V:=by
 grind [ixI]
set_option maxHeartbeats 4000000 in
theorem covered_c(n:Nat)(fs:List Rn)(hn:n<=1000)(hl:fs.length<=1000)(hs:∀f∈fs,f.V.length<=1000):Pure An 30 [iD (n:Nat), .row (fs.flatMap rwD) fs.length] [] (bD (covP n fs)):=by
 refine zJ zDw mixed Tryz.func30 rfl<|vAu<|zA<|vAe<|zF<|zN (λ(v:Nat)=>fr 32 [(0,iD (n:Int)),(1,Ae (Af rwD fs)<|Aa fs),(5,iD (v:Int))]) (λ(v:Nat)=>[]) (λv=>n-v) (λ(v:Nat)=>v<=n/\∀j,j<v->(fs.any λf=>decide ((j:Int)∈f.V))=Ab) 0 ?_ ?_ ?_
 ·grind
 ·refine vk 0
 rintro v ⟨h1,h2⟩;rcases Ax v n with h3|h3
 ·refine zA<|vAu<|vT ((v:Int)<(n:Int))<|vKB<|vAe<|zA<|vAe<|zF<|zN (λ(i:Nat)=>fr 32 [(0,iD (n:Int)),(1,Ae (Af rwD fs)<|Aa fs),(5,iD (v:Int)),(6,bD (List.any (Ap i fs) λ(f:Rn)=>decide ((v:Int)∈Rn.V f))),(7,iD (i:Int))]) (λ(i:Nat)=>[]) (λi=>fs.length-i) (λ(i:Nat)=>i<=fs.length) 0 ?_ ?_ ?_
  ·omega
  ·refine vk 0
  rintro i k1;rcases Ax i fs.length with k2|k2
  ·have hm:=zAo fs Ai i k2;have hg2:=zQ0 zN4 fs i k2;have hne:=zEk zN4 (by decide) fs;have hsf:=hs _ hm;have htk:((fs.take (i+1)).any λf=>decide ((v:Int)∈f.V))=(((fs.take i).any λf=>decide ((v:Int)∈f.V))||decide ((v:Int)∈(fs.getD i Ai).V)):=by
    grind [zBl]
   generalize fs.getD i Ai=f at*;obtain⟨V,R,W⟩:=f;have hix:=rindex_c V _ v rfl (by simp only at hsf;omega);have hge:=ixI_ge V v;generalize ixI V v=x at*;generalize (fs.take i).any (λf=>decide ((v:Int)∈f.V))=b at*;focus
    refine zA<|vAu<|vT ((i:Int)<↑(Aa fs))<|vKB<|zB rfl<|vrT 2<|vsp 20 (b) (λhc=>?_)<|λhc=>?_;subst hc;refine vrT 10<|vnil<|zD<|vN<|zB rfl<|vr 3 (i6 (↑i+1))<|vnil<|zC ?_;rotate_left;subst hc;refine vr 3 (ix ↑i ↑(Aa fs) (Af rwD fs≠[]))<|vs 23 (AA<|Ag (Am (i:Int)*3)<|Af rwD fs) (AA (Ae (Ad iD V) (Aa V)::Ae (Ad rowV R) (Aa R)::Ae (Ad iD<|natI W) (Aa<|natI W)::Af rwD (Ag (i+1) fs)))<|vr 3 (True/\0<Aa (Ae (Ad iD V) (Aa V)::Ae (Ad rowV R) (Aa R)::Ae (Ad iD<|natI W) (Aa<|natI W)::Af rwD (Ag (i+1) fs)))<|vc hix<|vrT 3<|vnil<|zD<|vN<|zB rfl<|vr 3 (i6 (↑i+1))<|vnil<|zC ?_;rotate_left
   ·refine⟨i+1,by omega,by omega,?_⟩;rw[htk,Bool.true_or];refine vk 0
   have hge2:decide ((v:Int)∈V)=decide (x>=0):=decide_eq_decide.2 hge.symm;refine⟨i+1,by omega,by omega,?_⟩;rw[htk,Bool.false_or,hge2];refine vk 0
  rw[AI k2];focus
   refine zA<|vAu<|vF ((i:Int)<↑(Aa fs))<|vZ2<|vAe<|zAk (t:=!List.any fs λ(f:Rn)=>decide ((v:Int)∈Rn.V f)) (by kernel_rfl) (λhc=>?_)<|λhc=>?_;simp only[BF]at hc;refine vAe<|zG<|zH<|zE<|zE<|zH<|zE<|vre (True) (Ar<|Bu Ac) (.inr rfl) ?_;rotate_left;simp only[BS]at hc;refine zL<|zD<|vN<|zB rfl<|vr 3 (i6 (↑v+1))<|vnil<|zC ?_;rotate_left
  ·grind [covP,zV8]
  refine⟨v+1,⟨by omega,λj hj=>?_⟩,by omega,?_⟩
  ·rcases Ax j v with h|h;all_goals grind
  refine vk 0
 refine zA<|vAu<|vF ((v:Int)<(n:Int))<|vZ2<|vAe<|zG<|vre (True) (Ar<|Bu Ab) (.inr rfl) ?_;grind [covP,zGp]
end
variable{fs:List Rn}{Dm:List Va}{f:Rn}
section
open Go.RowKit
def ddp:List Va->List Va
 |[]=>[]
 |a::l=>if a∈ddp l then ddp l else a::ddp l
theorem zQd:∀{l:List Va}{a:Va},a∈ddp l↔a∈l
 |[],a=>by simp[ddp]
 | b::l,a=>by
  rw[ddp];split
  ·rename_i h;rw[zQd,Bi];constructor
   ·exact .inr
   rintro(rfl|h2)
   ·exact zQd.1 h
   exact h2
  rw[Bi,Bi,zQd]
theorem zD5:∀l:List Va,(ddp l).Nodup
 |[]=>by simp[ddp]
 |b::l=>by
  rw[ddp];split
  ·exact zD5 l
  rename_i h;exact List.nodup_cons.2 ⟨h,zD5 l⟩
def domP(fs:List Rn):List Va:=ddp (fs.flatMap λf=>f.R.flatten)
theorem domP_mem(hf:f∈fs){x:Rw}(hx:x∈f.R){a:Va}(ha:a∈x):a∈domP fs:=
 zQd.2 (Cc.2 ⟨f,hf,List.mem_flatten.2 ⟨x,hx,ha⟩⟩)
theorem domP_ok(hv:∀f∈fs,∀x∈f.R,∀a∈x,Vi a)(hk:∀f∈fs,∀x∈f.R,x.all vok=Ab):Okv (domP fs):=λa ha=>by
 obtain⟨f,hf,h1⟩:=Cc.1 (zQd.1 ha);obtain⟨x,hx,h2⟩:=List.mem_flatten.1 h1;have h3:=hv f hf x hx a h2;have h4:=A3.1 (hk f hf x hx) a h2;refine⟨h4,?_⟩;obtain⟨k1,k2,k3⟩:=h3;simp only[inK]at k1 k2;refine⟨⟨k1.1,k1.2⟩,⟨k2.1,k2.2⟩,?_⟩;unfold vok at h4;split at h4
 ·have:a.str=[]:=by simpa using h4
  rw[this];simp
 split at h4
 ·simp only[Bm,decide_eq_true_eq]at h4;omega
 cases h4
def toFa(f:Rn):Fa Nat:=⟨f.V.map Am,f.R.zip f.W⟩
theorem zip_fst(R:List Rw)(W:List Nat)(h:R.length=W.length):(R.zip W).map (·.1)=R:=List.map_fst_zip (by omega)
theorem zip_snd(R:List Rw)(W:List Nat)(h:R.length=W.length):(R.zip W).map (·.2)=W:=List.map_snd_zip (by omega)
structure Tofa(Dm:List Va)(f:Rn):Prop where
 c:rnC f=faAc (toFa f)
 w:rwD f=rfAc (toFa f)
 ok:FOk rcmp Dm (toFa f)
 r:rz (toFa f)<=11
 v:vz (toFa f)<=10001
 A:f.V=intL (toFa f).A
theorem sum_le_len{l:List Nat}(h:∀w∈l,w<=b):l.sum<=l.length*b:=by
 induction l<;>grind [A0,A1,AL,Nat.succ_mul]
theorem tofa{n:Int}(hn:n<=32)(h:chkR n f=0)(hs:Rsm f)(hd:∀x∈f.R,∀a∈x,a∈Dm):Tofa Dm f:=by
 obtain⟨V,R,W⟩:=f;obtain⟨A,hA,hfit⟩:=zCj h;have hA:V=intL A:=hA;subst hA;have eA:((intL A).map λz=>iD z)=nsD A:=by simp[intL]
 have hm:R.length=W.length:=hfit.m;have z1:=zip_fst R W hm;have z2:=zip_snd R W hm;have zl:(R.zip W).length=R.length:=by rw[<-z1,Az,z1]
 have tA:(intL A).map Am=A:=zDa A;have et:toFa ⟨intL A,R,W⟩=⟨A,R.zip W⟩:=by unfold toFa;simp only[tA]
 have hR:R.length<=10:=hs.r;refine⟨?_,?_,?_,?_,?_,?_⟩
 ·grind
 ·rw[et];show[Ae ((intL A).map λz=>iD z) (intL A).length, .row (R.map rowV) R.length, .row ((natI W).map λz=>iD z) (natI W).length]=[.row (nsD A) A.length, .row (((R.zip W).map (·.1)).map rowV) (R.zip W).length, .row (nsD ((R.zip W).map (·.2))) (R.zip W).length];simp_all
 ·rw[et];have hmem:∀p∈R.zip W,p.1∈R:=λp hp=>by rw[<-z1];exact Av.2 ⟨p,hp,rfl⟩
  refine⟨⟨hfit.asc,λv hv=>by have:=hfit.lt v hv;omega⟩,λp hp=>hfit.len p.1 (hmem p hp),?_,λp hp a ha=>hd p.1 (hmem p hp) a ha⟩
  have:=hfit.srt
  rw[<-z1]at this;exact BT.1 this
 ·grind [rz,only]
 ·rw[et];unfold vz;simp only[z2];have h1:=sum_le_len (l:=W) (b:=1000) hs.b;omega
 rw[et]
theorem zQa{n:Int}(hn:n<=32)(h:errL n fs=0)(hs:∀f∈fs,Rsm f):∀f∈fs,Tofa (domP fs) f:=by grind [tofa,zCl,domP_mem]
theorem errL_dom{n:Int}(h:errL n fs=0)(hv:∀f∈fs,∀x∈f.R,∀a∈x,Vi a):Okv (domP fs):=
 domP_ok hv λf hf x hx=>by
  obtain⟨A,hA,hfit⟩:=zCj (zCl h f hf);exact hfit.vok x hx
theorem flat_c{Dm:List Va}:∀{fs:List Rn},(∀f∈fs,Tofa Dm f)->fs.flatMap rnC=(fs.map toFa).flatMap faAc/\fs.flatMap rwD=(fs.map toFa).flatMap rfAc
 |[],_=>⟨rfl,rfl⟩
 |f::fs,h=>by
  obtain⟨h1,h2⟩:=flat_c λg hg=>h g (A1 _ hg);have h3:=h f (A0 ..);constructor
  ·rw[BU,h1,h3.c];rfl
  rw[BU,h2,h3.w];rfl
theorem pz_le{α:Type}{z:α->Nat}{b:Nat}:∀{l:List α},(∀a∈l,z a<=b)->pz z l<=b^l.length
 |[],_=>by simp[pz]
 |a::l,h=>by
  rw[zCi,AL,Nat.pow_succ,Nat.mul_comm];exact Cd (pz_le λc hc=>h c (A1 _ hc)) (h a (A0 ..))
theorem sizes(hl:fs.length<=4)(h:∀f∈fs,Tofa Dm f):2*pz rz (fs.map toFa)<=900000/\2*pz vz (fs.map toFa)<=4000000000000000000:=by
 have h1:=pz_le (z:=rz) (b:=11) (l:=fs.map toFa) λa ha=>by
  obtain⟨f,hf,rfl⟩:=Av.1 ha;exact(h f hf).r
 have h2:=pz_le (z:=vz) (b:=10001) (l:=fs.map toFa) λa ha=>by
  obtain⟨f,hf,rfl⟩:=Av.1 ha;exact(h f hf).v
 rw[Az]at h1 h2;have h3:11^fs.length<=11^4:=Bl (by omega) hl;have h4:10001^fs.length<=10001^4:=Bl (by omega) hl;omega
theorem cov_fa{n:Nat}(hc:covP n fs=Ab)(h:∀f∈fs,Tofa Dm f):∀v,v<n->∃f∈fs.map toFa,v∈f.A:=λv hv=>by
 unfold covP at hc;rw[A3]at hc
 have:=hc v (by simpa using hv)
 rw[BV]at this;obtain⟨f,h1,h2⟩:=this;refine⟨toFa f,Av.2 ⟨f,h1,rfl⟩,?_⟩;rw[(h f h1).A]at h2;exact zKs.1 (by simpa using h2)
abbrev atA(f:Rn):List Nat×List Rw:=(f.V.map Am,f.R)
section
variable{n:Nat}{fs:List Rn}(hn:n ≤ 8)(hl:fs.length ≤ 4)(hs:∀ f ∈ fs, Rsm f)(h1:errL n fs = 0)(h2:covP n fs = true)
include hn hl hs h1 h2
theorem atoms_ok:AOk (mkC n (fs.map atA)) where
 n:=by show n<=32;omega
 na:=by show(fs.map atA).length<=1000;rw[Az];omega
 p:=by show 1<=50000;omega
 v :=by
  have hg:∀a,a<(fs.map atA).length->∃f∈fs,(mkC n (fs.map atA)).vs a=f.V.map Am:=λa ha=>by
   rw[Az]at ha
   refine⟨fs[a],Bq ha,?_⟩
   show((fs.map atA).getD a Ai).1=_
   rw[AX,List.getElem?_map,AR ha];rfl
  refine⟨λa ha=>?_,λa ha w hw=>?_,λv hv=>?_⟩
  ·obtain⟨f,hf,e⟩:=hg a ha
   obtain⟨A,hA,hfit⟩:=zCj (zCl h1 f hf)
   have e2:f.V.map Am=A:=by rw[hA];exact zDa A
   rw[e,e2];exact hfit.asc
  ·obtain⟨f,hf,e⟩:=hg a ha
   obtain⟨A,hA,hfit⟩:=zCj (zCl h1 f hf)
   have e2:f.V.map Am=A:=by rw[hA];exact zDa A
   rw[e,e2]at hw
   have:=hfit.lt w hw
   show w<n
   omega
  unfold covP at h2
  have h3:=A3.1 h2 v (BB.2 hv)
  obtain⟨f,hf,h4⟩:=BV.1 h3
  have h4:=of_decide_eq_true h4
  obtain⟨a,ha,rfl⟩:=Ce hf
  refine⟨a,by show a<(fs.map atA).length;rwa[Az],?_⟩
  show v∈((fs.map atA).getD a Ai).1
  rw[AX,List.getElem?_map,AR ha]
  exact Av.2 ⟨_,h4,Bx v⟩
 r:=λa ha=>by
  obtain⟨f,hf,rfl⟩:=Av.1 ha
  obtain⟨A,hA,hfit⟩:=zCj (zCl h1 f hf)
  have e2:f.V.map Am=A:=by rw[hA];exact zDa A
  refine⟨by have:=(hs f hf).r;show f.R.length<=_;omega,λr hr=>?_,hfit.srt⟩
  show r.length=(f.V.map Am).length
  rw[e2];exact hfit.len r hr
end
structure Hm{α β:Type}(S:Sr α)(S':Sr β)(g:α->β):Prop where
 add:∀a b,g (S.add a b)=S'.add (g a) (g b)
 mul:∀a b,g (S.mul a b)=S'.mul (g a) (g b)
 one:g S.one=S'.one
section
variable{α β:Type}(g:α->β)
def mpL(l:List (Rw×α)):List (Rw×β):=l.map λp=>(p.1,g p.2)
def Fa.mp(f:Fa α):Fa β:=⟨f.A,mpL g f.l⟩
variable{c:Rw->Rw->Int}{S:Sr α}{S':Sr β}{g}
end
def omin:Option Nat->Option Nat->Option Nat
 |none,y=>y
 |some x,AE=>Aq x
 |some x,Aq y=>Aq (min x y)
def oplus:Option Nat->Option Nat->Option Nat
 |some x,Aq y=>Aq (x+y)
 |_,_=>AE
def Sk:Sr (Option Nat):=⟨omin,oplus,Aq 0,
 λa=>by cases a<;>simp[oplus],
 λa b=>by cases a<;>cases b<;>simp[omin,Nat.min_comm],
 λa b d=>by cases a<;>cases b<;>cases d<;>simp[omin,Nat.min_assoc],
 λa b=>by cases a<;>cases b<;>simp[oplus,Nat.add_comm],
 λa b d=>by cases a<;>cases b<;>cases d<;>simp[oplus,Nat.add_assoc],
 λa b d=>by cases a<;>cases b<;>cases d<;>simp[oplus,omin,Nat.add_min_add_left]⟩
def Sr.prod{α β:Type}(S:Sr α)(T:Sr β):Sr (α×β):=⟨λa b=>(S.add a.1 b.1,T.add a.2 b.2),λa b=>(S.mul a.1 b.1,T.mul a.2 b.2),(S.one,T.one),
 λa=>by simp[S.om,T.om],λa b=>by simp[S.ac a.1 b.1,T.ac a.2 b.2],λa b d=>by simp[S.aa,T.aa],λa b=>by simp[S.mc a.1 b.1,T.mc a.2 b.2],λa b d=>by simp[S.ma,T.ma],λa b d=>by simp[S.dl,T.dl]⟩
def Sp:Sr (Nat×Option Nat):=Sr.prod Sn Sk
theorem hm1:Hm Sp Sn Br:=⟨λ_ _=>rfl,λ_ _=>rfl,rfl⟩
theorem hm2:Hm Sp Sk Prod.snd:=⟨λ_ _=>rfl,λ_ _=>rfl,rfl⟩
def sk(f:Fa (Option Nat)):Nat:=(f.l.map λp=>p.2.getD 0).foldr max 0
section
variable{c:Rw->Rw->Int}
def kz(f:Fa (Option Nat)):Nat:=2^sk f
def qz(f:Fa (Nat×Option Nat)):Nat:=vz (f.mp Br)*kz (f.mp Prod.snd)
end
@[irreducible] def Ez:Nat:=30000
theorem Ez_eq:Ez=30000:=by unfold Ez;rfl
def Bz:Nat:=2^Ez
theorem pow_bd{a:Nat}(h:2^a<=2^b):a<=b:=by grind [Nat.pow_le_pow_iff_right]
end
section
open Go.RowKit
attribute [local irreducible] seqW awp zY zZ zR Weak updS zAe retL Pure Acts rP setP setQ cP nP fr
set_option maxRecDepth 4096
def okC(x:Option Nat):Prop:=Sm (x.getD 0)
def okP(p:Nat×Option Nat):Prop:=Sm p.1/\okC p.2
end
section
open Go.RowKit
set_option maxRecDepth 4096
abbrev FnK:Type:=List Nat×List (Rw×(Option Nat))
section
variable(A B:List Nat)(lb:List (Rw×(Option Nat)))(ok:Rw->Bool)
variable{A B lb ok}
end
end
section
open Go.RowKit
attribute [local irreducible] seqW awp zY zZ zR Weak updS zAe retL Pure Acts rP setP setQ cP nP fr
set_option maxRecDepth 4096
structure FVK(f:FnK):Prop where
 asc:Asc f.1
 len:∀p∈f.2,p.1.length=f.1.length
 vs:∀p∈f.2,∀x∈p.1,Vs x
 sz:f.2.length<=1000000
 sm:∀p∈f.2,okC p.2
 nd:Ndk f.2
end
section
open Go.RowKit
set_option maxRecDepth 4096
structure GofK(Dm:List Va)(f:Fa (Option Nat)):Prop where
 ok:FOk rcmp Dm f
 r:rz f<=900000
 v:kz f<=Bz
section
variable{Dm:List Va}(hD:Okv Dm)
end
abbrev FnP:Type:=List Nat×List (Rw×(Nat×Option Nat))
section
variable(A B:List Nat)(lb:List (Rw×(Nat×Option Nat)))(ok:Rw->Bool)
variable{A B lb ok}
end
end
section
open Go.RowKit
attribute [local irreducible] seqW awp zY zZ zR Weak updS zAe retL Pure Acts rP setP setQ cP nP fr
set_option maxRecDepth 4096
structure FVP(f:FnP):Prop where
 asc:Asc f.1
 len:∀p∈f.2,p.1.length=f.1.length
 vs:∀p∈f.2,∀x∈p.1,Vs x
 sz:f.2.length<=1000000
 sm:∀p∈f.2,okP p.2
 nd:Ndk f.2
end
section
open Go.RowKit
set_option maxRecDepth 4096
structure GofP(Dm:List Va)(f:Fa (Nat×Option Nat)):Prop where
 ok:FOk rcmp Dm f
 r:rz f<=900000
 v:qz f<=Bz
section
variable{Dm:List Va}(hD:Okv Dm)
end
theorem Rsm.z(h:Rsm f):Rsz f:=⟨by have:=h.v;omega,by have:=h.r;omega⟩
theorem wrongP_0{n:Nat}(h:zFc n keep fs=0):n<=32/\keep>>>n=0/\errL n fs=0/\covP n fs=true:=by
 grind [zFc,Bx,only]
structure Mg(n keep:Nat)(fs:List Rn)(m:Fa Nat):Prop where
 e:m=refS rcmp Sn (refP rcmp Sn (zB8 Sn) (fs.map toFa)) ((Ay n).filter λv=>!keep.testBit v)
 ok:FOk rcmp (domP fs) m
 r:rz m<=900000
 v:vz m<=4000000000000000000
 A:∀v,v∈m.A↔v<n/\keep.testBit v=Ab
 p:Pure An 26 [cntD,iD (n:Nat),u32D keep, .row (fs.flatMap rnC) fs.length] [] (.tup [faA m,iD 0])
theorem marg_all{n:Nat}(hn:n<=8)(hk:keep<4294967296)(hl:fs.length<=4)(hs:∀f∈fs,Rsm f)(hv:∀f∈fs,∀x∈f.R,∀a∈x,Vi a)(h0:zFc n keep fs=0):∃m,Mg n keep fs m:=by
 obtain⟨_,_,h1,h2⟩:=wrongP_0 h0;have ht:=zQa (by omega) h1 hs;have hD:=errL_dom h1 hv;obtain⟨c1,c2⟩:=flat_c ht;obtain⟨s1,s2⟩:=sizes hl ht;have hcv:=cov_fa h2 ht;have hok:∀g∈fs.map toFa,FOk rcmp (domP fs) g:=λg hg=>by
  obtain⟨f,hf,rfl⟩:=Av.1 hg;exact(ht f hf).ok
 have hlt:∀g∈fs.map toFa,∀v∈g.A,v<n:=λg hg v hgv=>by
  obtain⟨f,hf,rfl⟩:=Av.1 hg;obtain⟨A,hA,hfit⟩:=zCj (zCl h1 f hf);have e:=(ht f hf).A;have:(v:Int)∈f.V:=by rw[e];exact zKs.2 hgv
  rw[hA]at this
  have:=hfit.lt v (zKs.1 this)
  omega
 have hck:=checkAll_c n keep fs hn hk (by omega) λf hf=>(hs f hf).z;rw[h0,c1]at hck;have hln:(fs.map toFa).length=fs.length:=by simp
 have hEn:((Ay n).filter λv=>!keep.testBit v).Nodup:=Cf.filter _;have hEc:∀v∈(Ay n).filter (λv=>!keep.testBit v),∃f∈fs.map toFa,v∈f.A:=λv h=>hcv v (by have:=(Bn.1 h).1;simpa using this);have hm:=marginal_c hD (zD5 _) n keep (fs.map toFa) hn hk hok (by omega) s1 s2 hcv (by rw[hln];exact hck);have he:=zTf (pop:=popN) (S:=Sn) rcw (zD5 _) hEn (.refl _) hok hEc;have hA:=margP_A (pop:=popN) (S:=Sn) rcw (zD5 _) hEn hok hEc;rw[hln]at hm;rw[<-c1]at hm;have z1:=refP_z (S:=Sn) (z:=rz) (zJ1 (c:=rcmp) Sn) (fs.map toFa) (zB8 Sn);have z2:=refP_z (S:=Sn) (z:=vz) (zTu (c:=rcmp)) (fs.map toFa) (zB8 Sn);have z3:=refS_z (S:=Sn) (z:=rz) (zZg (c:=rcmp) Sn) ((Ay n).filter λv=>!keep.testBit v) (refP rcmp Sn (zB8 Sn) (fs.map toFa));have z4:=refS_z (S:=Sn) (z:=vz) (λv f=>Nat.le_of_eq (fsum_vz (c:=rcmp) v f)) ((Ay n).filter λv=>!keep.testBit v) (refP rcmp Sn (zB8 Sn) (fs.map toFa));have h8:rz (zB8 Sn)=2:=rfl;have h9:vz (zB8 Sn)=2:=rfl;rw[h8]at z1;rw[h9]at z2;rw[he]at hm hA;refine⟨_,rfl,?_,by omega,by omega,λv=>?_,hm
  ⟩
 all_goals grind [zS2,rcw,zS3,zGl]
end
section
open Go.RowKit
attribute [local irreducible] seqW awp zY zZ zR Weak updS zAe retL Pure Acts rP setP setQ cP nP fr
set_option maxRecDepth 4096
abbrev exV(n:Int):Va:=⟨1,n,[]⟩
theorem zM0(n:Int):Pure An 28 [iD n] [] (.agg [iD 1,iD n,strD []]):=by
 refine zJ zDw mixed Tryz.func28 rfl<|vAu<|vA<|ve (aJ_)<|zG<|vret (3<=3)<|.inr rfl
abbrev exA(o:Nat):Rn:=⟨[0,1],[[exV 1,exV 1],[exV 1,exV 2]],[o,o]⟩
abbrev exB(o:Nat):Rn:=⟨[1,2],[[exV 1,exV 5],[exV 2,exV 5],[exV 2,exV 6]],[o,o,o]⟩
abbrev exF(o:Nat):List Rn:=[exA o,exB o]
abbrev zQ1(a b:Int):D:= .row [iD 1,iD a,strD [],iD 1,iD b,strD []] 2
abbrev exDA:D:= .agg [.row [iD 0,iD 1] 2, .row [zQ1 1 1,zQ1 1 2] 2, .row [iD 1,iD 1] 2]
abbrev exDB:D:= .agg [.row [iD 1,iD 2] 2, .row [zQ1 1 5,zQ1 2 5,zQ1 2 6] 3, .row [iD 1,iD 1,iD 1] 3]
def Te:Par:=⟨λ_=>Ac,λ_ _=>AE,λ_=>Ac,λ_=>Ac,λt=>t==110⟩
theorem Te_ok:zBg An Te:=by intro t n f h;cases h
theorem example_c:Pure An 24 [] [] (.tup [exDA,exDB]):=by
 refine zJ Te_ok mixed Tryz.func24 rfl<|vAu<|vA<|vr 1 (aE_)<|vc (zM0 1)<|vc (zM0 1)<|vr 1 (aA_)<|vc (zM0 1)<|vc (zM0 2)<|ve (((3=3/\3<=6/\3=3/\6<=6/\True)/\0<3/\3=3/\6<=16777216/\2<=9223372036854775807)/\((1=1/\1<=2/\1=1/\2<=2/\True)/\0<1/\1=1/\2<=16777216/\2<=9223372036854775807)/\((1=1/\1<=2/\1=1/\2<=2/\True)/\0<1/\1=1/\2<=16777216/\2<=9223372036854775807)/\((1=1/\1<=3/\1=1/\2<=3/\1=1/\3<=3/\True)/\Ab=Ab)/\Ac=Ac/\Ab=Ab/\3=3/\3<=3)<|zA<|zDc [0,1,2,3,4,5,6,7,8,9,10,11,12,13] [(14,[(1,8),(4,9),(7,10),(10,11),(11,12),(12,13),(13,100000)],[15])] rfl ?_;refine vr 2 (3<=3/\(1=1/\1<=2/\1=1/\2<=2/\True)/\0<1/\1=1/\2<=16777216/\2<=9223372036854775807)<|vc (zM0 1)<|vc (zM0 5)<|vr 1 (aA_)<|vc (zM0 2)<|vc (zM0 5)<|vr 1 (aA_)<|vc (zM0 2)<|vc (zM0 6)<|vr 4 (((3=3/\3<=6/\3=3/\6<=6/\True)/\0<3/\3=3/\6<=16777216/\2<=9223372036854775807)/\((1=1/\1<=3/\1=1/\2<=3/\1=1/\3<=3/\True)/\0<1/\1=1/\3<=16777216/\3<=9223372036854775807)/\((1=1/\1<=3/\1=1/\2<=3/\1=1/\3<=3/\True)/\0<1/\1=1/\3<=16777216/\3<=9223372036854775807)/\(1=1/\1<=3/\1=1/\2<=3/\1=1/\3<=3/\True)/\Ab=Ab)<|vnil<|zFt rfl rfl (by kernel_rfl)<|vr 1 (az_)<|vnil ?_;refine st_late (C:=((1=1/\1<=2/\1=1/\2<=2/\True)/\0<1/\1=1/\2<=16777216/\2<=9223372036854775807)/\Aq (Ah 8 0 2 2 Ab)=Aq (Ah 8 0 2 2 Ab)/\eqDL [iD 1,iD 2] [iD 1,iD 2]/\3=3/\1=1/\Ab=Ab/\Ak=Ak/\((3=3/\3<=6/\3=3/\6<=6/\True)/\0<3/\3=3/\6<=16777216/\2<=9223372036854775807)/\Aq (Ah 9 0 2 6 Ab)=Aq (Ah 9 0 2 6 Ab)/\eqDL [iD 1,iD 1,Ar (AH (bs [])),iD 1,iD 5,Ar (AH (bs []))] [iD 1,iD 1,Ar (AH (bs [])),iD 1,iD 5,Ar (AH (bs []))]/\107=107/\3=3/\Ab=Ab/\Ak=Ak/\((3=3/\3<=6/\3=3/\6<=6/\True)/\0<3/\3=3/\6<=16777216/\2<=9223372036854775807)/\Aq (Ah 10 0 2 6 Ab)=Aq (Ah 10 0 2 6 Ab)/\eqDL [iD 1,iD 2,Ar (AH (bs [])),iD 1,iD 5,Ar (AH (bs []))] [iD 1,iD 2,Ar (AH (bs [])),iD 1,iD 5,Ar (AH (bs []))]/\107=107/\3=3/\Ab=Ab/\Ak=Ak/\((3=3/\3<=6/\3=3/\6<=6/\True)/\0<3/\3=3/\6<=16777216/\2<=9223372036854775807)/\Aq (Ah 11 0 2 6 Ab)=Aq (Ah 11 0 2 6 Ab)/\eqDL [iD 1,iD 2,Ar (AH (bs [])),iD 1,iD 6,Ar (AH (bs []))] [iD 1,iD 2,Ar (AH (bs [])),iD 1,iD 6,Ar (AH (bs []))]/\107=107/\3=3/\Ab=Ab/\Ak=Ak/\((1=1/\1<=3/\1=1/\2<=3/\1=1/\3<=3/\True)/\0<1/\1=1/\3<=16777216/\3<=9223372036854775807)/\Aq (Ah 12 0 3 3 Ab)=Aq (Ah 12 0 3 3 Ab)/\eqDL [Ah 9 0 2 6 Ab,Ah 10 0 2 6 Ab,Ah 11 0 2 6 Ab] [Ah 9 0 2 6 Ab,Ah 10 0 2 6 Ab,Ah 11 0 2 6 Ab]/\110=110/\1=1/\Ab=Ab/\Kd.sh=Kd.sh/\((1=1/\1<=3/\1=1/\2<=3/\1=1/\3<=3/\True)/\0<1/\1=1/\3<=16777216/\3<=9223372036854775807)/\Aq (Ah 13 0 3 3 Ab)=Aq (Ah 13 0 3 3 Ab)/\eqDL [iD 1,iD 1,iD 1] [iD 1,iD 1,iD 1]/\3=3/\1=1/\Ab=Ab/\Ak=Ak/\((1=1/\1<=3/\1=1/\2<=3/\1=1/\3<=3/\True)/\Ab=Ab)/\Aq (Aw [Ah 8 0 2 2 Ab,Ah 12 0 3 3 Ab,Ah 13 0 3 3 Ab])=Aq (Aw [Ah 8 0 2 2 Ab,Ah 12 0 3 3 Ab,Ah 13 0 3 3 Ab])) (by kernel_rfl) ⟨⟨⟨(by kernel_rfl),⟨(by omega),⟨(by kernel_rfl),⟨(by omega),trivial⟩⟩⟩⟩,(by omega)⟩,(by kernel_rfl),rfl,(by kernel_rfl),(by kernel_rfl),(by kernel_rfl),(by kernel_rfl),⟨⟨(by kernel_rfl),⟨(by omega),⟨(by kernel_rfl),⟨(by omega),trivial⟩⟩⟩⟩,(by omega)⟩,(by kernel_rfl),rfl,(by kernel_rfl),(by kernel_rfl),(by kernel_rfl),(by kernel_rfl),⟨⟨(by kernel_rfl),⟨(by omega),⟨(by kernel_rfl),⟨(by omega),trivial⟩⟩⟩⟩,(by omega)⟩,(by kernel_rfl),rfl,(by kernel_rfl),(by kernel_rfl),(by kernel_rfl),(by kernel_rfl),⟨⟨(by kernel_rfl),⟨(by omega),⟨(by kernel_rfl),⟨(by omega),trivial⟩⟩⟩⟩,(by omega)⟩,(by kernel_rfl),rfl,(by kernel_rfl),(by kernel_rfl),(by kernel_rfl),(by kernel_rfl),⟨⟨(by kernel_rfl),⟨(by omega),⟨(by kernel_rfl),⟨(by omega),⟨(by kernel_rfl),⟨(by omega),trivial⟩⟩⟩⟩⟩⟩,(by omega)⟩,(by kernel_rfl),rfl,(by kernel_rfl),(by kernel_rfl),(by kernel_rfl),(by kernel_rfl),⟨⟨(by kernel_rfl),⟨(by omega),⟨(by kernel_rfl),⟨(by omega),⟨(by kernel_rfl),⟨(by omega),trivial⟩⟩⟩⟩⟩⟩,(by omega)⟩,(by kernel_rfl),rfl,(by kernel_rfl),(by kernel_rfl),(by kernel_rfl),(by kernel_rfl),⟨⟨(by kernel_rfl),⟨(by omega),⟨(by kernel_rfl),⟨(by omega),⟨(by kernel_rfl),⟨(by omega),trivial⟩⟩⟩⟩⟩⟩,(by kernel_rfl)⟩,(by kernel_rfl)⟩ (by kernel_rfl) ?_;refine vr 1 (az_)<|vnil<|zFh<|vN<|zG<|vret (3<=3/\3<=3)<|.inr rfl
abbrev exCA(o:Nat):List D:=[.row [iD 0,iD 1] 2, .row [zQ1 1 1,zQ1 1 2] 2, .row [natD o,natD o] 2]
abbrev exCB(o:Nat):List D:=[.row [iD 1,iD 2] 2, .row [zQ1 1 5,zQ1 2 5,zQ1 2 6] 3, .row [natD o,natD o,natD o] 3]
theorem cntA_c(o:Nat)(ho:o=1):Pure An 25 [exDA] [] (.agg (exCA o)):=by
 have h:=count_c (exA o) (by simp) (by simp[ho]);have e:rawD (rnR (exA o))=exDA:=by subst ho;rfl
 rw[e]at h;exact h
theorem cntB_c(o:Nat)(ho:o=1):Pure An 25 [exDB] [] (.agg (exCB o)):=by
 have h:=count_c (exB o) (by simp) (by simp[ho]);have e:rawD (rnR (exB o))=exDB:=by subst ho;rfl
 rw[e]at h;exact h
theorem exF_s(o:Nat)(ho:o=1):∀f∈exF o,Rsm f:=by
 subst ho;intro f hf;rcases Bi.1 hf with rfl|hf
 ·exact⟨by decide,by decide,by decide,by decide⟩
 rcases Bi.1 hf with rfl|hf
 ·exact⟨by decide,by decide,by decide,by decide⟩
 cases hf
theorem exF_v(o:Nat)(ho:o=1):∀f∈exF o,∀x∈f.R,∀a∈x,Vi a:=by
 simp_all [inK,Vi,exV,only,exF,Bi,List.not_mem_nil]
theorem exM(o t:Nat)(ho:o=1)(ht:t=2):Pure An 26 [cntD,iD 3,u32D 4, .row (exCA o++exCB o) 2] [] (.tup [.agg [.row [iD 2] 1, .row [.row [iD 1,iD 5,strD []] 1, .row [iD 1,iD 6,strD []] 1] 2, .row [natD t,natD o] 2],iD 0]):=by
 obtain⟨m,h⟩:=marg_all (n:=3) (keep:=4) (fs:=exF o) (by decide) (by decide) (by simp) (exF_s o ho) (exF_v o ho) (by subst ho;kernel_rfl);have e:m=⟨[2],[([exV 5],t),([exV 6],o)]⟩:=by rw[h.e];subst ho ht;kernel_rfl
 have hp:=h.p;rw[e]at hp;exact hp
theorem exM0(o t:Nat)(ho:o=1)(ht:t=3):Pure An 26 [cntD,iD 3,u32D 0, .row (exCA o++exCB o) 2] [] (.tup [faA ⟨[],[([],t)]⟩,iD 0]):=by
 obtain⟨m,h⟩:=marg_all (n:=3) (keep:=0) (fs:=exF o) (by decide) (by decide) (by simp) (exF_s o ho) (exF_v o ho) (by subst ho;kernel_rfl);have e:m=⟨[],[([],t)]⟩:=by rw[h.e];subst ho ht;kernel_rfl
 have hp:=h.p;rw[e]at hp;exact hp
theorem exT(o t:Nat)(ho:o=1)(ht:t=3):Pure An 11 [cntD,iD 3, .row (exCA o++exCB o) 2] [] (.tup [natD t,iD 0]):=total_c _ _ _ _ (exM0 o t ho ht)
theorem exS(o t:Nat)(ho:o=1)(ht:t=2):Pure An 27 [.agg [.row [iD 2] 1, .row [.row [iD 1,iD 5,strD []] 1, .row [iD 1,iD 6,strD []] 1] 2, .row [natD t,natD o] 2], .agg [.row [iD 2] 1, .row [.row [iD 1,iD 5,strD []] 1, .row [iD 1,iD 6,strD []] 1] 2, .row [iD 2,iD 1] 2]] [] (bD Ab):=by
 have h:=same_c [2] [([exV 5],t),([exV 6],o)] (by simp) (by simp) (by simp) (by subst ho ht;decide);have e:isD [([exV 5],t),([exV 6],o)]=[iD 2,iD 1]:=by subst ho ht;rfl
 unfold rfD rfC at h;rw[e]at h;exact h
set_option maxHeartbeats 4000000 in
theorem zQo:Pure An 6 [] [] (bD Ab):=by
 obtain⟨o,ho⟩:∃o:Nat,o=1:=⟨1,rfl⟩;obtain⟨t,ht⟩:∃o:Nat,o=2:=⟨2,rfl⟩;obtain⟨u,hu⟩:∃o:Nat,o=3:=⟨3,rfl⟩;have hof:=of_c u (by omega);have e3:Ar (.int .u64 (u:Int))= .val (.int .u64 3):=by rw[hu];rfl
 rw[e3]at hof;have hcm:=ncmp_c u u (Sm.of (by omega)) (Sm.of (by omega));have e0:cmpD (u:Int) (u:Int)=0:=by rcases zD8 (u:Int) u with h|h|h<;>omega
 rw[e0]at hcm;have h1:=cntA_c o ho;have h2:=cntB_c o ho;have h3:=exM o t ho ht;have h4:=exT o u ho hu;have h5:=exS o t ho ht;refine zJ zDw mixed Tryz.func6 rfl<|vAu<|vA<|vc (example_c)<|ve (0<2/\1<2/\(Ac=Ac/\Ab=Ab/\3=3/\3<=3)/\Ac=Ac/\Ab=Ab/\3=3/\3<=3)<|zA<|vd [0,1,2,3,4,5,6,7,8,9,10,11,12]<|vr 3 ((True/\Ab=Ab)/\3<=3)<|vc (h1)<|vr 1 (3<=3)<|vc (h2)<|vr 1 (aA_)<|vc (h4)<|ve (aT_)<|zA<|vd [0,1,2,3,4,5,6,7,8,9,10,11,12,13]<|vr 3 ((True/\Ab=Ab)/\3<=3)<|vc (h1)<|vr 1 (3<=3)<|vc (h2)<|vr 1 (aA_)<|vc (h3)<|ve (aH_)<|zA<|vd [0,1,2,3,4,5,6,7,8,9,10,11,12,13,14,15,16,17,18,19,20,21,22,23,24]<|vr 8 (True/\True)<|vc (hof)<|vc (hcm)<|vr 5 (True/\3<=3/\(1=1/\1<=1/\True)/\0<1/\1=1/\1<=16777216/\1<=9223372036854775807)<|vc (zM0 5)<|vr 1 (ax_)<|vc (zM0 6)<|vr 4 (((3=3/\3<=3/\True)/\0<3/\3=3/\3<=16777216/\1<=9223372036854775807)/\((1=1/\1<=2/\1=1/\2<=2/\True)/\0<1/\1=1/\2<=16777216/\2<=9223372036854775807)/\((1=1/\1<=2/\1=1/\2<=2/\True)/\0<1/\1=1/\2<=16777216/\2<=9223372036854775807)/\(1=1/\1<=3/\1=1/\2<=3/\1=1/\3<=3/\True)/\Ab=Ab)<|vc (h5)<|veT<|zG<|vret (True)<|.inr rfl
end
variable{β:Type}
section
open Go.RowKit
set_option maxRecDepth 4096
section
variable{α β γ:Type}(g:α->β)
theorem mp_ok{f:Fa α}(h:FOk c Dm f):FOk c Dm (f.mp g):=
 ⟨h.asc,λp hp=>by obtain⟨q,hq,rfl⟩:=Av.1 hp;exact h.len q hq,BT.2 h.srt,λp hp=>by obtain⟨q,hq,rfl⟩:=Av.1 hp;exact h.dom q hq⟩
theorem mp_rz(f:Fa α):rz (f.mp g)=rz f:=by
 grind [rz,Fa.mp,mpL,Az]
end
theorem rn_len{n:Int}(h:chkR n f=0):f.R.length=f.W.length:=by
 obtain⟨A,hA,hfit⟩:=zCj h;exact hfit.m
theorem cells_mp(h:Tofa Dm f)(hl:f.R.length=f.W.length)(g:Nat->β)(V:β->List D):[Ae (f.V.map λz=>iD z) f.V.length, .row (f.R.map rowV) f.R.length, .row (f.W.flatMap λx=>V (g x)) f.W.length]=[.row (nsD ((toFa f).mp g).A) ((toFa f).mp g).A.length, .row ((((toFa f).mp g).l.map (·.1)).map rowV) ((toFa f).mp g).l.length, .row ((((toFa f).mp g).l.map (·.2)).flatMap V) ((toFa f).mp g).l.length]:=by
 have hc:=h.c;have h1:Ae (f.V.map λz=>iD z) f.V.length= .row (nsD (toFa f).A) (toFa f).A.length:=(List.cons.inj hc).1;have e1:(((toFa f).mp g).l.map (·.1))=f.R:=by
  show Ad _ (Ad _ (f.R.zip f.W))=_;rw[Bp];exact zip_fst f.R f.W hl
 have e2:(((toFa f).mp g).l.map (·.2))=f.W.map g:=by
  show Ad _ (Ad _ (f.R.zip f.W))=_;conv=>rhs;rw[<-zip_snd f.R f.W hl]
  simp_all
 have e3:((toFa f).mp g).l.length=f.W.length:=by rw[<-Az (f:=λp:Rw×β=>p.2),e2,Az]
 rw[e1,e2,e3,BW,hl,h1];rfl
@[irreducible] def Mz:Nat:=1000
section
variable{n:Nat}{fs:List Rn}(hn:n ≤ 8)(hl:fs.length ≤ 4)(hs:∀ f ∈ fs, Rsm f)(hv:∀ f ∈ fs, ∀ x ∈ f.R, ∀ a ∈ x, Vi a)(h0:zFc n 0 fs = 0)
include hn hl hs hv h0
end
end
section
open Go.RowKit
abbrev intD(z:Int):D:= .val (.int .i64 z)
abbrev zAd(l:List Int):D:= .row (l.map intD) l.length
abbrev whyD(w:List (List Int)):D:= .row (w.map zAd) w.length
end
variable{a b w:List (List Int)}
section
open Go.RowKit
set_option maxRecDepth 4096
theorem setG_take{c:α->α->Int}(d0:α){l:List α}(h:i<l.length):setG c (l.take (i+1))=putG c (l.getD i d0) (setG c (l.take i)) false:=by
 grind [Bc,setG,AR]
theorem zNf(l:List Int)(k:Nat)(h:k<l.length):((l.map intD).drop k).headD .unk=intD (l.getD k 0):=zCe intD l 0 k h
theorem put_lenT{α:Type}{c:α->α->Int}(n:α):∀l:List α,(putG c n l Ab).length<=l.length
 |[]=>by simp[putG]
 |z::l=>by
  have:=put_lenT (c:=c) n l
  simp only[putG,AT,AL,Bool.not_true,Bool.false_and,Bool.false_eq_true,if_false,Cg,Bool.true_or];split<;>simp<;>omega
theorem put_len{α:Type}{c:α->α->Int}(n:α):∀l:List α,(putG c n l Ac).length<=l.length+1
 |[]=>by simp[putG]
 |y::l=>by
  have h2:=put_lenT (c:=c) n l;have h3:=put_len (c:=c) n l;simp only[putG,AT,AL];grind
theorem zSt{α:Type}{c:α->α->Int}(l:List α):∀i,i<=l.length->(setG c (l.take i)).length<=i
 |0,_=>by simp[setG]
 |i+1,h=>by
  have h1:i<l.length:=by omega
  rw[setG_take (l[i]) h1]
  have:=put_len (c:=c) (l.getD i l[i]) (setG c (l.take i))
  have:=zSt (c:=c) l i (by omega)
  omega
theorem lcmp_drop{a b:List Int}(ha:i<a.length)(hb:i<b.length):lcmp (a.drop i) (b.drop i)=if a.getD i 0<b.getD i 0 then-1 else if b.getD i 0<a.getD i 0 then 1 else lcmp (a.drop (i+1)) (b.drop (i+1)):=by
 grind [List.drop_eq_getElem_cons,lcmp]
theorem lcmp_end{a b:List Int}(h:i=a.length\/i=b.length)(h1:i<=a.length)(h2:i<=b.length):lcmp (a.drop i) (b.drop i)=if a.length<b.length then-1 else if b.length<a.length then 1 else 0:=by
 have e1:=A2 (i:=i) (l:=a);have e2:=A2 (i:=i) (l:=b);generalize a.drop i=X at*;generalize b.drop i=Y at*;match X,Y,e1,e2 with
 |[],[],e1,e2=>simp only[lcmp,Ch]at*;rw[if_neg (by omega),if_neg (by omega)]
 |[],y::Y,e1,e2=>simp only[lcmp,Ch,AL]at*;rw[if_pos (by omega)]
 |x::X,[],e1,e2=>simp only[lcmp,Ch,AL]at*;rw[if_neg (by omega),if_pos (by omega)]
 |x::X,y::Y,e1,e2=>simp only[AL]at*;omega
theorem zK7(w:List (List Int))(k:Nat)(h:k<w.length):((w.map zAd).drop k).headD .unk=zAd (w.getD k []):=zCe zAd w [] k h
def Short(k:Nat)(w:List (List Int)):Prop:=∀s∈w,s.length<=k
theorem Short.get(h:Short k w)(i:Nat):(w.getD i []).length<=k:=by
 rw[AX];cases hi:w[i]? with
 |none=>simp
 |some x=>simpa using h x (List.mem_of_getElem? hi)
theorem zN0(h:Short k w):Short k (w.map (setG icmp)):=λs hs=>by
 obtain⟨t,ht,rfl⟩:=Av.1 hs
 have:=zSt (c:=icmp) t t.length (Bd _)
 rw[Bt]at this;exact As this (h t ht)
theorem zQ9(h:Short k w):Short k (wset w):=λs hs=>by
 rw[wset,zEh lcmp_cm]at hs;exact zN0 h s hs
theorem zM5(w:List (List Int)):(wset w).length<=w.length:=by
 have:=zSt (c:=lcmp) (w.map (setG icmp)) w.length (by simp)
 rwa[AI (by simp)]at this
theorem set_len'(l:List Int):(setG icmp l).length<=l.length:=by
 have:=zSt (c:=icmp) l l.length (Bd _)
 rwa[Bt]at this
theorem short_app(ha:Short k a)(hb:Short k b):Short k (a++b):=λs hs=>by
 rcases BA.1 hs with h|h
 ·exact ha s h
 exact hb s h
def zB4(a b:List (List Int))(i j:Nat):List (List Int):=zLq (a.take i) b++(b.take j).map λy=>a.getD i []++y
theorem prodT_succ(a b:List (List Int))(i j:Nat)(h:j<b.length):zB4 a b i (j+1)=zB4 a b i j++[a.getD i []++b.getD j []]:=by
 grind [AR,zB4,Bc,Ci]
theorem prodT_next(a b:List (List Int))(i:Nat)(h:i<a.length):zB4 a b i b.length=zB4 a b (i+1) 0:=by
 grind [AR,zB4,Bt,zLq,Bc]
theorem zPd(a b:List (List Int))(i j:Nat)(hi:i<=a.length)(hj:j<=b.length):(zB4 a b i j).length=i*b.length+j:=by
 rw[zB4,AT,Az,A8,BX hj,zLq,List.length_flatMap];simp only[Az];rw[List.map_const',List.sum_replicate_nat,A8,BX hi]
theorem short_prod{l:Nat}(ha:Short k a)(hb:Short l b)(i j:Nat):Short (k+l) (zB4 a b i j):=λs hs=>by
 rcases BA.1 hs with h|h
 ·rw[zLq,Cc]at h;obtain⟨x,hx,h⟩:=h;obtain⟨y,hy,rfl⟩:=Av.1 h;have h1:=ha x (BI hx);have h2:=hb y hy;rw[AT];omega
 obtain⟨y,hy,rfl⟩:=Av.1 h;have h1:=ha.get i;have h2:=hb y (BI hy);rw[AT];omega
theorem mul_le{n m:Nat}(h:i<=n):i*m<=n*m:=A7 m h
end
variable{s:List Int}
section
open Go.RowKit
def NrW(w:List (List Int)):Prop:=wset w=w/\∀s∈w,∀x∈s,0<=x/\x<64
def Wh:Type:={w:List (List Int)//NrW w}
theorem zSb{z:List Int}:z∈wset w↔∃s∈w,setG icmp s=z:=by
 grind [wset,zEh,lcmp_cm]
theorem nrw_wset(h:∀s∈w,∀x∈s,0<=x/\x<64):NrW (wset w):=⟨wset_idem w,λs hs x hx=>by
 obtain⟨t,ht,rfl⟩:=zSb.1 hs;exact h t ht x ((zEh zHu t x).1 hx)⟩
theorem nrm_s(a:Wh)(h:s∈a.1):setG icmp s=s:=by
 have h2:=zVh a.1;rw[a.2.1]at h2;exact h2 s h
theorem zY3(a:Wh):AscW lcmp a.1:=a.2.1▸wset_asc a.1
theorem wext{a b:Wh}(h:∀z,z∈a.1↔z∈b.1):a=b:=Subtype.ext (zLc lcmp_cm (zY3 a) (zY3 b) h)
theorem zWj{z:List Int}:z∈zLq a b↔∃x∈a,∃y∈b,x++y=z:=by
 grind [zLq]
def Wh.add(a b:Wh):Wh:=⟨wset (a.1++b.1),nrw_wset λs hs=>by
 rcases BA.1 hs with h|h
 ·exact a.2.2 s h
 exact b.2.2 s h⟩
def Wh.mul(a b:Wh):Wh:=⟨wset (zLq a.1 b.1),nrw_wset λs hs x hx=>by
 obtain⟨y,hy,z,hz,rfl⟩:=zWj.1 hs
 rcases BA.1 hx with h|h
 ·exact a.2.2 y hy x h
 exact b.2.2 z hz x h⟩
def w0:Wh:=⟨[],rfl,λs hs=>by cases hs⟩
def w1:Wh:=⟨[[]],rfl,λs hs x hx=>by
 rw[BJ.1 hs]at hx;cases hx⟩
def g1(x:Nat):Wh:=⟨[[((x%64:Nat):Int)]],rfl,λs hs y hy=>by
 rw[BJ.1 hs]at hy
 rw[BJ.1 hy]
 omega⟩
theorem zEb{a b:Wh}{z:List Int}:z∈(a.add b).1↔z∈a.1\/z∈b.1:=by
 show z∈wset (a.1++b.1)↔_;rw[zSb];constructor
 ·grind [nrm_s]
 rintro(h|h)
 ·exact⟨z,B7 _ h,nrm_s a h⟩
 exact⟨z,B8 _ h,nrm_s b h⟩
theorem zEa{a b:Wh}{z:List Int}:z∈(a.mul b).1↔∃x∈a.1,∃y∈b.1,setG icmp (x++y)=z:=by
 show z∈wset (zLq a.1 b.1)↔_;grind [zSb,zWj]
theorem set_l(x y:List Int):setG icmp (setG icmp x++y)=setG icmp (x++y):=by grind [zH6,zHu,zEh]
theorem set_r(x y:List Int):setG icmp (x++setG icmp y)=setG icmp (x++y):=by grind [zH6,zHu,zEh]
theorem set_comm(x y:List Int):setG icmp (x++y)=setG icmp (y++x):=by grind [zH6,zHu]
def Sw:Sr Wh:=⟨Wh.add,Wh.mul,w1,
 λa=>wext λz=>by
  rw[zEa]
  constructor
  ·rintro⟨x,hx,y,hy,rfl⟩
   rw[BJ.1 hx,Cg,nrm_s a hy];exact hy
  exact λh=>⟨[],BJ.2 rfl,z,h,nrm_s a h⟩,
 λa b=>wext λz=>by rw[zEb,zEb,Or.comm],
 λa b d=>wext λz=>by rw[zEb,zEb,zEb,zEb,or_assoc],
 λa b=>wext λz=>by
  rw[zEa,zEa]
  constructor
  ·rintro⟨x,hx,y,hy,rfl⟩
   exact⟨y,hy,x,hx,set_comm y x⟩
  rintro⟨x,hx,y,hy,rfl⟩
  exact⟨y,hy,x,hx,set_comm y x⟩,
 λa b d=>wext λz=>by
  rw[zEa,zEa]
  constructor
  ·rintro⟨x,hx,y,hy,rfl⟩
   obtain⟨u,hu,v,hv,rfl⟩:=zEa.1 hx
   refine⟨u,hu,setG icmp (v++y),zEa.2 ⟨v,hv,y,hy,rfl⟩,?_⟩
   rw[set_l,set_r,Ci]
  rintro⟨x,hx,y,hy,rfl⟩
  obtain⟨u,hu,v,hv,rfl⟩:=zEa.1 hy
  refine⟨setG icmp (x++u),zEa.2 ⟨x,hx,u,hu,rfl⟩,v,hv,?_⟩
  rw[set_l,set_r,Ci],
 λa b d=>wext λz=>by
  rw[zEa,zEb,zEa,zEa]
  constructor
  ·rintro⟨x,hx,y,hy,rfl⟩
   rcases zEb.1 hy with h|h
   ·exact .inl ⟨x,hx,y,h,rfl⟩
   exact .inr ⟨x,hx,y,h,rfl⟩
  rintro(⟨x,hx,y,hy,rfl⟩|⟨x,hx,y,hy,rfl⟩)
  ·exact⟨x,hx,y,zEb.2 (.inl hy),rfl⟩
  exact⟨x,hx,y,zEb.2 (.inr hy),rfl⟩⟩
abbrev Wh.n(w:Wh):Nat:=w.1.length
theorem add_n(a b:Wh):(Sw.add a b).n<=a.n+b.n:=by
 have:=zM5 (a.1++b.1)
 rw[AT]at this;exact this
theorem prodL_len(a b:List (List Int)):(zLq a b).length=a.length*b.length:=by
 have h:=zPd a b a.length 0 (Bd _) (A9 _);grind [zB4,Bt]
theorem mul_n(a b:Wh):(Sw.mul a b).n<=a.n*b.n:=by
 have:=zM5 (zLq a.1 b.1)
 rw[prodL_len]at this;exact this
section
variable{α:Type}{c:Rw->Rw->Int}{w:α->Nat}{f:α->α->α}(h:∀ a b, w (f a b) ≤ w a + w b)
def wsum(w:α->Nat)(l:List (Rw×α)):Nat:=(l.map λp=>w p.2).sum
theorem zF0(p:Rw×α)(l:List (Rw×α)):wsum w (p::l)=w p.2+wsum w l:=rfl
theorem wsum_app(l m:List (Rw×α)):wsum w (l++m)=wsum w l+wsum w m:=by
 grind [wsum]
include h in
theorem putP_wt(r:Rw)(v:α):∀l:List (Rw×α),wsum w (putP c f r v l)<=wsum w l+w v
 |[]=>by show w v+0<=0+w v;omega
 |(s,u)::l=>by
  have ih:=putP_wt r v l;grind [putP,zF0,only]
include h in
theorem acc_wt:∀L l:List (Rw×α),wsum w (acc c f l L)<=wsum w l+wsum w L
 |[],l=>Bd _
 |p::L,l=>by
  have h1:=acc_wt L (putP c f p.1 p.2 l);grind [putP_wt,wsum,acc,putP,zF0]
include h in
theorem addT_wt(r:Rw)(v:α):∀l:List (Rw×α),wsum w (addT f r v l)<=wsum w l+w v
 |[]=>by show w v+0<=0+w v;omega
 |(s,u)::l=>by
  have ih:=addT_wt r v l;grind [addT,zF0,only]
include h in
theorem sumT_wt:∀L l:List (Rw×α),wsum w (sumT f l L)<=wsum w l+wsum w L
 |[],l=>Bd _
 |p::L,l=>by
  have h1:=sumT_wt L (addT f p.1 p.2 l);grind [addT_wt,wsum,sumT,addT,zF0]
theorem zNp(q:Rw×α->Bool)(l:List (Rw×α)):wsum w (l.filter q)<=wsum w l:=by
 simp_all [wsum,zJe,Rw]
theorem wsum_take(i:Nat):∀l:List (Rw×α),wsum w (l.take i)<=wsum w l:=by
 grind [List.take_append_drop,wsum_app]
theorem wsum_mem{p:Rw×α}{l:List (Rw×α)}(h:p∈l):w p.2<=wsum w l:=by
 exact zRl (Av.2 ⟨p,h,rfl⟩)
theorem prods_wt{m:α->α->α}(hm:∀a b,w (m a b)<=w a*w b)(A B:List Nat)(lb:List (Rw×α)):∀la:List (Rw×α),wsum w (zB9 m A la B lb)<=wsum w la*wsum w lb
 |[]=>by show 0<=_;omega
 | p::la=>by
  have h1:=prods_wt hm A B lb la;have h2:∀l:List (Rw×α),wsum w ((l.filter λq=>mt A p.1 B q.1).map λq=>(mg A p.1 B q.1,m p.2 q.2))<=w p.2*wsum w l:=by
   intro l;have k1:=Cj (w p.2) (zNp (w:=w) (λq=>mt A p.1 B q.1) l);refine As ?_ k1;generalize l.filter (λq=>mt A p.1 B q.1)=l';induction l' with
   |nil=>exact A9 _
   |cons q l' ih=>
    grind [zF0,Nat.mul_add,only]
  have h3:=h2 lb;rw[zF0,Nat.add_mul];grind [zB9,wsum_app]
end
def cw(f:Fa Wh):Nat:=wsum Wh.n f.l
@[irreducible] def Kw:Nat:=2200
theorem Kw_eq:Kw=2200:=by unfold Kw;rfl
def wz(f:Fa Wh):Nat:=(max 1 (cw f))^Kw
theorem zNo(f:Fa Wh):1<=wz f:=Nat.pow_pos (by omega)
section
variable{c:Rw->Rw->Int}
theorem fmul_cw(f g:Fa Wh)(os:List (Fa Wh)):cw (fmul c Sw f g os)<=cw f*cw g:=by
 refine As (acc_wt (c:=c) add_n _ _) ?_;refine As (Nat.add_le_add_left (zNp _ _) _) ?_;have h:=prods_wt (w:=Wh.n) mul_n f.A g.A g.l f.l;show 0+wsum Wh.n (zB9 Sw.mul f.A f.l g.A g.l)<=_;rw[Nat.zero_add];exact h
theorem zTt(f g:Fa Wh)(os:List (Fa Wh)):wz (fmul c Sw f g os)<=wz f*wz g:=by
 unfold wz;rw[<-Nat.mul_pow];refine BK ?_ _;have h1:=fmul_cw (c:=c) f g os;have h2:cw f*cw g<=max 1 (cw f)*max 1 (cw g):=Cd (Nat.le_max_right _ _) (Nat.le_max_right _ _);have h3:1*1<=max 1 (cw f)*max 1 (cw g):=Cd (Nat.le_max_left _ _) (Nat.le_max_left _ _);grind
theorem fsum_wz(v:Nat)(f:Fa Wh):wz (fsum c Sw v f)<=wz f:=by
 unfold wz;refine BK ?_ _;have h1:cw (fsum c Sw v f)<=cw f:=by
  refine As (acc_wt (c:=c) add_n _ _) ?_;show 0+wsum Wh.n (zJn f.A v f.l)<=_;rw[Nat.zero_add];unfold cw wsum zJn;rw[Bp];exact Bd _
 omega
end
def okW(w:Wh):Prop:=w.n<16384
theorem cw_bd{f:Fa Wh}(h:wz f<=Bz):cw f<16384:=by
 apply Classical.byContradiction;intro hn;have h0:2^14=16384:=by decide
 have h1:2^14<=max 1 (cw f):=by omega
 have h2:(2^14)^Kw<=2^Ez:=As (BK h1 Kw) h;grind [BY,pow_bd,Kw_eq,Ez_eq]
theorem wz_ok{f:Fa Wh}(h:wz f<=Bz):∀p∈f.l,okW p.2:=λp hp=>Ck (wsum_mem (w:=Wh.n) hp) (cw_bd h)
theorem sum_okW{f:Fa Wh}(h:wz f<=Bz)(φ:Rw->Rw)(i:Nat):∀x∈(sumT Sw.add [] ((f.l.map λp=>(φ p.1,p.2)).take i)).map (·.2),okW x:=λx hx=>by
 obtain⟨p,hp,rfl⟩:=Av.1 hx;have h1:=wsum_mem (w:=Wh.n) hp;have h2:=sumT_wt (w:=Wh.n) add_n ((f.l.map λp=>(φ p.1,p.2)).take i) [];have h3:=wsum_take (w:=Wh.n) i (f.l.map λp=>(φ p.1,p.2));have h4:wsum Wh.n (f.l.map λp=>(φ p.1,p.2))=cw f:=by
  unfold cw wsum;rw[Bp];rfl
 have h5:wsum Wh.n ([]:List (Rw×Wh))=0:=rfl;have h6:=cw_bd h;show p.2.n<16384;omega
theorem zadW(w:Wh):Sw.add w0 w=w:=wext λz=>by
 show z∈(w0.add w).1↔_;rw[zEb];exact⟨λh=>h.resolve_left (λk=>by cases k), .inr⟩
theorem zokW:okW w0:=by show 0<16384;omega
theorem wz_one{f:Fa Wh}(h:cw f<=1):wz f<=2:=by
 simp_all [wz,cw,Nat.one_pow]
def rnId(o:Nat)(f:Rn):Rn:=⟨f.V,f.R,AN o f.R.length⟩
def idF:Nat->List Rn->List Rn
 |_,[]=>[]
 |o,f::fs=>rnId o f::idF (o+f.R.length) fs
def ofs:List Rn->Nat
 |[]=>0
 |f::fs=>f.R.length+ofs fs
theorem zP0:∀(fs:List Rn)(o:Nat),(idF o fs).length=fs.length
 |[],o=>rfl
 |f::fs,o=>by rw[idF,AL,AL,zP0 fs]
theorem idF_snoc(f:Rn):∀(fs:List Rn)(o:Nat),idF o (fs++[f])=idF o fs++[rnId (o+ofs fs) f]
 |[],o=>rfl
 |g::fs,o=>by
  rw[BZ,idF,idF_snoc f fs,idF,ofs,<-Nat.add_assoc];rfl
theorem ofs_le(hs:∀f∈fs,Rsm f):ofs fs<=fs.length*10:=by
 induction fs with
 |nil=>exact A9 _
 |cons f fs ih=>
  have h1:=(hs f (A0 ..)).r;grind [A1,ofs,AL]
theorem ofs_snoc(f:Rn):∀fs:List Rn,ofs (fs++[f])=ofs fs+f.R.length
 |[]=>by show f.R.length+0=0+f.R.length;omega
 |g::fs=>by
  rw[BZ,ofs,ofs,ofs_snoc f fs];omega
theorem zZe{g:Rn}:∀{fs:List Rn}{o:Nat},g∈idF o fs->∃f∈fs,∃k,g=rnId k f/\k+f.R.length<=o+ofs fs
 |[],o,h=>by cases h
 | f::fs,o,h=>by
  rcases Bi.1 h with rfl|h
  ·grind [A0,ofs]
  obtain⟨f',hf,k,e,hk⟩:=zZe h;grind [A1,ofs]
theorem chk_id{n:Int}(o:Nat)(h3:chkR n f=0):chkR n (rnId o f)=0:=by
 grind [zCj,chkR,rnId,chk,AN,B3]
theorem zT0{n:Int}:∀{fs:List Rn}{o:Nat},errL n fs=0->errL n (idF o fs)=0
 |[],_,_=>rfl
 | f::fs,o,h=>by
  have h3:=zCl h f (A0 ..);have h4:=chk_id o h3;have h5:errL n fs=0:=by
   rw[errL,if_neg (by rw[h3];exact λk=>k rfl)]at h;exact h
  show(if chkR n (rnId o f)≠0 then _ else errL n (idF (o+f.R.length) fs))=0;rw[if_neg (by rw[h4];exact λk=>k rfl)];exact zT0 h5
theorem zV2(hs:∀f∈fs,Rsm f)(hl:fs.length<=4):∀f∈idF 0 fs,Rsm f:=λf hf=>by
 obtain⟨g,hg,k,rfl,hk⟩:=zZe hf;have h:=hs g hg;have ho:=ofs_le hs;refine⟨h.v,h.r,?_,λw hw=>?_⟩
 ·show(AN k g.R.length).length<=_;rw[B3];have:=h.r;omega
 have:=(List.mem_range'_1.1 hw).2
 omega
theorem any_ids(p:Rn->Bool)(hp:∀o f,p (rnId o f)=p f):∀(fs:List Rn)(o:Nat),(idF o fs).any p=fs.any p
 |[],o=>rfl
 |f::fs,o=>by rw[idF,List.any_cons,List.any_cons,any_ids p hp fs,hp]
theorem zVi{n:Nat}(hn:n<=8)(h1:errL n fs=0)(h2:covP n fs=Ab):zFc n 0 (idF 0 fs)=0/\covP n (idF 0 fs)=true:=by
 have e:covP n (idF 0 fs)=covP n fs:=by
  unfold covP;congr 1;funext v;exact any_ids _ (λo f=>rfl) fs 0
 grind [zFc,Bx,zT0]
theorem kv_ids:∀(R:List Rw)(o:Nat)(r:Rw),kv (mpL g1 (R.zip (AN o R.length))) r=if r∈R then Aq (g1 (o+R.idxOf r))else AE
 |[],o,r=>by simp[kv,mpL]
 |x::R,o,r=>by
  have ih:=kv_ids R (o+1) r;grind [AL,List.range'_succ,List.zip_cons_cons,g1,kv,mpL,AN,A0,List.idxOf_cons_self]
def idL(σ:Nat->Va):Nat->List Rn->List Int
 |_,[]=>[]
 |o,f::fs=>((o+f.R.idxOf ((f.V.map Am).map σ):Nat):Int)::idL σ (o+f.R.length) fs
theorem idL_len(σ:Nat->Va):∀(fs:List Rn)(o:Nat),(idL σ o fs).length=fs.length
 |[],o=>rfl
 |f::fs,o=>by rw[idL,AL,AL,idL_len σ fs]
section
variable{σ:Nat->Va}
theorem idL_ge:∀{fs:List Rn}{o:Nat},(∀f∈fs,(f.V.map Am).map σ∈f.R)->∀x∈idL σ o fs,(o:Int)<=x/\x<((o+ofs fs:Nat):Int)
 |[],o,_,x,hx=>by cases hx
 | f::fs,o,h,x,hx=>by
  have h1:=BL.2 (h f (A0 ..));rcases Bi.1 hx with rfl|hx
  ·rw[ofs];omega
  have:=idL_ge (λg hg=>h g (A1 _ hg)) x hx
  rw[ofs];omega
theorem idL_asc:∀{fs:List Rn}{o:Nat},(∀f∈fs,(f.V.map Am).map σ∈f.R)->AscW icmp (idL σ o fs)
 |[],o,_=>List.Pairwise.nil
 |f::fs,o,h=>by
  have h1:=BL.2 (h f (A0 ..));have h2:=λg hg=>h g (A1 _ hg);unfold AscW;rw[idL,Cl];refine⟨λx hx=>?_,idL_asc h2⟩
  have:=idL_ge h2 x hx
  grind [icmp]
theorem wset_one(h:AscW icmp s):wset [s]=[s]:=by
 unfold wset;rw[List.map_singleton,zGn zHu h];exact zGn lcmp_cm (List.pairwise_singleton ..)
theorem proF_ids:∀(fs:List Rn)(o:Nat),o+ofs fs<=64->(∀f∈fs,(f.V.map Am).map σ∈f.R)->∃w:Wh,w.1=[idL σ o fs]/\proF Sw (((idF o fs).map toFa).map (Fa.mp g1)) σ=Aq w
 |[],o,_,_=>⟨w1,rfl,rfl⟩
 | f::fs,o,ho,h=>by
  rw[ofs]at ho;have h1:=h f (A0 ..);have h1':=BL.2 h1;have h2:=λg hg=>h g (A1 _ hg);obtain⟨w,hw,hp⟩:=proF_ids fs (o+f.R.length) (by omega) h2;refine⟨(g1 (o+f.R.idxOf ((f.V.map Am).map σ))).mul w,?_,?_⟩
  ·show wset (zLq [[_]] w.1)=_;rw[hw];show wset [[_]++idL σ (o+f.R.length) fs]=_;have e:((((o+f.R.idxOf ((f.V.map Am).map σ))%64:Nat):Int))=((o+f.R.idxOf ((f.V.map Am).map σ):Nat):Int):=by rw[Nat.mod_eq_of_lt (by omega)]
   rw[e];exact wset_one (idL_asc (σ:=σ) (fs:=f::fs) (o:=o) h)
  show omul Sw.mul (kv (mpL g1 (f.R.zip (AN o f.R.length))) ((f.V.map Am).map σ)) (proF Sw (((idF (o+f.R.length) fs).map toFa).map (Fa.mp g1)) σ)=_;rw[hp,kv_ids,if_pos h1];rfl
theorem zWk:∀(fs:List Rn)(o:Nat),¬(∀f∈fs,(f.V.map Am).map σ∈f.R)->proF Sw (((idF o fs).map toFa).map (Fa.mp g1)) σ=AE
 |[],o,h=>absurd (λf hf=>by cases hf) h
 |f::fs,o,h=>by
  show omul Sw.mul (kv (mpL g1 (f.R.zip (AN o f.R.length))) ((f.V.map Am).map σ)) (proF Sw (((idF (o+f.R.length) fs).map toFa).map (Fa.mp g1)) σ)=_;rw[kv_ids];by_cases h1:(f.V.map Am).map σ∈f.R
  ·rw[if_pos h1,zWk fs _ (λk=>h λg hg=>by
    rcases Bi.1 hg with rfl|hg
    ·exact h1
    exact k g hg)];rfl
  rw[if_neg h1];rfl
end
theorem idL_inj{σ τ:Nat->Va}:∀{fs:List Rn}{o:Nat},(∀f∈fs,(f.V.map Am).map σ∈f.R)->(∀f∈fs,(f.V.map Am).map τ∈f.R)->idL σ o fs=idL τ o fs->∀f∈fs,(f.V.map Am).map σ=(f.V.map Am).map τ
 |[],o,_,_,_,f,hf=>by cases hf
 | g::fs,o,h,k,e,f,hf=>by
  rw[idL,idL,List.cons.injEq]at e;rcases Bi.1 hf with rfl|hf
  ·have h1:=BL.2 (h f (A0 ..));have e2:f.R.idxOf ((f.V.map Am).map σ)=f.R.idxOf ((f.V.map Am).map τ):=by omega
   have g1:=List.getElem_idxOf h1;grind
  exact idL_inj (λg hg=>h g (A1 _ hg)) (λg hg=>k g (A1 _ hg)) e.2 f hf
def inV(s:List Int)(l:List (Rw×Wh)):Prop:=∃p∈l,s∈p.2.1
theorem zG1{p:Rw×Wh}{l:List (Rw×Wh)}:inV s (p::l)↔s∈p.2.1\/inV s l:=by
 grind [inV,only]
theorem putP_inV{c:Rw->Rw->Int}{s:List Int}(r:Rw)(v:Wh):∀l:List (Rw×Wh),inV s (putP c Sw.add r v l)↔s∈v.1\/inV s l
 |[]=>by rw[putP,zG1]
 | (x,u)::l=>by
  have ih:=putP_inV (c:=c) (s:=s) r v l;unfold putP;split
  ·grind [zG1]
  split
  ·rw[zG1,zG1]
   have:=zEb (a:=u) (b:=v) (z:=s)
   constructor
   ·rintro(h|h)
    ·rcases this.1 h with h|h;all_goals grind
    exact .inr (.inr h)
   rintro(h|h|h)
   ·exact .inl (this.2 (.inr h))
   ·exact .inl (this.2 (.inl h))
   exact .inr h
  rw[zG1]
theorem acc_inV{c:Rw->Rw->Int}{s:List Int}:∀(L l:List (Rw×Wh)),inV s (acc c Sw.add l L)↔inV s L\/inV s l
 | [],l=>by
  constructor
  ·exact .inr
  rintro(⟨p,hp,_⟩|h)
  ·cases hp
  exact h
 |p::L,l=>by
  have h1:=acc_inV (c:=c) (s:=s) L (putP c Sw.add p.1 p.2 l);grind [inV,acc,Sw,putP,putP_inV,zG1]
theorem fsum_inV(v:Nat)(f:Fa Wh):inV s (fsum c Sw v f).l↔inV s f.l:=by
 show inV s (acc c Sw.add [] (zJn f.A v f.l))↔_;rw[acc_inV];constructor
 ·rintro(⟨p,hp,h⟩|⟨p,hp,_⟩)
  ·obtain⟨q,hq,rfl⟩:=Av.1 hp;exact⟨q,hq,h⟩
  cases hp
 rintro⟨p,hp,h⟩;exact .inl ⟨_,Av.2 ⟨p,hp,rfl⟩,h⟩
theorem refS_inV(vs:List Nat):∀f:Fa Wh,inV s (refS rcmp Sw f vs).l↔inV s f.l:=by
 induction vs with
 |nil=>exact λf=> .rfl
 |cons v vs ih=>
  intro f;show inV s (refS rcmp Sw (fsum rcmp Sw v f) vs).l↔_;rw[ih,fsum_inV]
theorem one_rowW{m:Fa Wh}(h:FOk rcmp Dm m)(hA:m.A=[])(s:List Int):s∈((m.l.map (·.2)).headD w0).1↔inV s m.l:=by
 have hk:=h;match hm:m.l with
 |[]=>exact⟨λh=>(by cases h),λ⟨p,hp,_⟩=>(by cases hp)⟩
 |[a]=>
  rw[zG1];exact⟨.inl,λh=>h.resolve_right λ⟨p,hp,_⟩=>(by cases hp)⟩
 |a::b::l=>
  have ha:=hk.len a (by rw[hm];simp);have hb:=hk.len b (by rw[hm];simp);have hs:=hk.srt;rw[hm]at hs
  have:=(Cl.1 hs).1 b (by simp)
  rw[hA]at ha hb;have e1:=List.length_eq_zero_iff.1 ha;have e2:=List.length_eq_zero_iff.1 hb;rw[e1,e2]at this;exact absurd this (rcw.irr [])
section
variable{n:Nat}{fs:List Rn}(hn:n ≤ 8)(hl:fs.length ≤ 4)(hs:∀ f ∈ fs, Rsm f)(h1:errL n fs = 0)(h2:covP n fs = true)
include hn hl hs h1 h2
theorem total_wit{T:Wh}(hT:T=((zKt popN rcmp Sw (((idF 0 fs).map toFa).map (Fa.mp g1)) ((Ay n).filter λv=>!(0:Nat).testBit v)).l.map (·.2)).headD w0):T.1.length=(jn (mkC n (fs.map atA))).length/\∀s∈T.1,s.length=fs.length:=by
 have hE:=zT0 (o:=0) h1;have hS:=zV2 hs hl;obtain⟨hW,hC⟩:=zVi hn h1 h2;have ht:=zQa (by omega) hE hS;have hcv:=cov_fa hC ht;have hok:∀g∈((idF 0 fs).map toFa).map (Fa.mp g1),FOk rcmp (domP (idF 0 fs)) g:=λg hg=>by
  obtain⟨b,hb,rfl⟩:=Av.1 hg;obtain⟨f,hf,rfl⟩:=Av.1 hb;exact mp_ok _ (ht f hf).ok
 have hcv':∀v,v<n->∃f∈((idF 0 fs).map toFa).map (Fa.mp g1),v∈f.A:=λv hv=>by
  obtain⟨f,hf,h3⟩:=hcv v hv;exact⟨_,Av.2 ⟨f,hf,rfl⟩,h3⟩
 have hlt:∀g∈((idF 0 fs).map toFa).map (Fa.mp g1),∀v∈g.A,v<n:=λg hg v hgv=>by
  obtain⟨b,hb,rfl⟩:=Av.1 hg;obtain⟨f,hf,rfl⟩:=Av.1 hb;obtain⟨A,hA,hfit⟩:=zCj (zCl hE f hf);have e:=(ht f hf).A;have:(v:Int)∈f.V:=by rw[e];exact zKs.2 hgv
  rw[hA]at this
  have:=hfit.lt v (zKs.1 this)
  omega
 have hEn:((Ay n).filter λv=>!(0:Nat).testBit v).Nodup:=Cf.filter _;have hEm:∀v,v∈(Ay n).filter (λv=>!(0:Nat).testBit v)↔v<n:=λv=>by simp
 have hEc:∀v∈(Ay n).filter (λv=>!(0:Nat).testBit v),∃f∈((idF 0 fs).map toFa).map (Fa.mp g1),v∈f.A:=λv h=>hcv' v ((hEm v).1 h);rw[zTf (pop:=popN) (S:=Sw) rcw (zD5 _) hEn (.refl _) hok hEc]at hT;have hP:=zS3 (S:=Sw) rcw (((idF 0 fs).map toFa).map (Fa.mp g1)) (zB8 Sw) zGl hok;have hPA:∀v,v∈(refP rcmp Sw (zB8 Sw) (((idF 0 fs).map toFa).map (Fa.mp g1))).A↔v<n:=λv=>by
  grind [refP_A,rcmp,Sw,zB8]
 have hPd:=λσ=>zS4 (S:=Sw) rcw σ (((idF 0 fs).map toFa).map (Fa.mp g1)) (zB8 Sw) zGl hok;have hm:=zS2 (S:=Sw) rcw ((Ay n).filter λv=>!(0:Nat).testBit v) _ hP;have hmA:=refS_A (c:=rcmp) (S:=Sw) ((Ay n).filter λv=>!(0:Nat).testBit v) (refP rcmp Sw (zB8 Sw) (((idF 0 fs).map toFa).map (Fa.mp g1)));have hmz:(refS rcmp Sw (refP rcmp Sw (zB8 Sw) (((idF 0 fs).map toFa).map (Fa.mp g1))) ((Ay n).filter λv=>!(0:Nat).testBit v)).A=[]:=by
  simp_all [List.eq_nil_iff_forall_not_mem]
 have hTm:∀s,s∈T.1↔inV s (refP rcmp Sw (zB8 Sw) (((idF 0 fs).map toFa).map (Fa.mp g1))).l:=λs=>by
  grind [one_rowW,refS_inV]
 have hTa:=zY3 T;clear hm hmA hmz hT;generalize refP rcmp Sw (zB8 Sw) (((idF 0 fs).map toFa).map (Fa.mp g1))=P at*;have ePA:P.A=Ay n:=Asc.ext hP.asc ⟨B_,λv hv=>by have:=BB.1 hv;omega⟩ λv=>by rw[hPA,BB]
 have ho:0+ofs fs<=64:=by have:=ofs_le hs;omega
 have hrow:∀y:Rw,y.length=n->(∀w,kv P.l y=Aq w->(∀f∈fs,(f.V.map Am).map (λv=>y.getD v Ai)∈f.R)/\w.1=[idL (λv=>y.getD v Ai) 0 fs])/\((∀f∈fs,(f.V.map Am).map (λv=>y.getD v Ai)∈f.R)->∃w,kv P.l y=Aq w):=λy hy=>by
  have h3:=hPd λv=>y.getD v Ai;unfold den at h3;rw[ePA]at h3;have e:(Ay n).map (λv=>y.getD v Ai)=y:=by
   apply B5 (by simp[hy]);grind
  rw[e]at h3;have h3:kv P.l y=omul Sw.mul (Aq w1) (proF Sw (((idF 0 fs).map toFa).map (Fa.mp g1)) λv=>y.getD v Ai):=h3;by_cases hg:∀f∈fs,(f.V.map Am).map (λv=>y.getD v Ai)∈f.R
  ·obtain⟨w,hw,hp⟩:=proF_ids fs 0 ho hg;rw[hp]at h3;have h3:kv P.l y=Aq (Sw.mul w1 w):=h3;rw[show Sw.mul w1 w=w from Sw.om w]at h3;grind
  rw[zWk fs 0 hg]at h3;have h3:kv P.l y=none:=h3;grind
 have hnd:=hP.ndk rcw;have hone:∀p∈P.l,p.1.length=n/\(∀f∈fs,(f.V.map Am).map (λv=>p.1.getD v Ai)∈f.R)/\p.2.1=[idL (λv=>p.1.getD v Ai) 0 fs]:=λp hp=>by
  have h3:=hP.len p hp;rw[ePA,List.length_range]at h3;have h4:=(zE6 hnd (r:=p.1) (u:=p.2)).2 hp;grind
 obtain⟨j1,j2⟩:=jn_spec (atoms_ok hn hl hs h1 h2);have hjn:(jn (mkC n (fs.map atA))).Nodup:=j1.imp λh e=>by rw[e]at h;exact rcw.irr _ h
 have hat:∀(f:Rn)(y:Rw)(a:Nat)(h:a<fs.length),fs[a]=f->prj (mkC n (fs.map atA)).vs a 0 y=(f.V.map Am).map (λv=>y.getD v Ai)/\((mkC n (fs.map atA)).A.getD a Ai).2=f.R:=λf y a h e=>by
  have e2:(fs.map atA).getD a Ai=atA f:=by
   grind
  constructor
  ·unfold prj;show(((fs.map atA).getD a Ai).1.filter _).map _=_;rw[e2,List.filter_eq_self.2 λw _=>decide_eq_true (A9 w)]
  show((fs.map atA).getD a Ai).2=_;rw[e2]
 have hkey:∀y,y∈jn (mkC n (fs.map atA))↔y.length=n/\∀f∈fs,(f.V.map Am).map (λv=>y.getD v Ai)∈f.R:=λy=>by
  rw[j2];constructor
  ·rintro⟨h3,h4⟩;refine⟨h3,λf hf=>?_⟩;obtain⟨a,ha,e⟩:=Ce hf;obtain⟨e1,e2⟩:=hat f y a ha e;have h6:=h4 a (by show a<(fs.map atA).length;rwa[Az]);rwa[e1,e2]at h6
  rintro⟨h3,h5⟩;refine⟨h3,λa ha=>?_⟩;have ha:a<fs.length:=by have ha:a<(fs.map atA).length:=ha;rwa[Az]at ha
  obtain⟨e1,e2⟩:=hat fs[a] y a ha rfl;grind
 have hmem:∀s,s∈T.1↔s∈(jn (mkC n (fs.map atA))).map λy=>idL (λv=>y.getD v Ai) 0 fs:=λs=>by
  rw[hTm,Av];constructor
  ·rintro⟨p,hp,hsp⟩;grind
  rintro⟨y,hy,rfl⟩;obtain⟨h3,h4⟩:=(hkey y).1 hy;obtain⟨w,hw⟩:=(hrow y h3).2 h4;obtain⟨_,h6⟩:=(hrow y h3).1 w hw;refine⟨(y,w),(zE6 hnd).1 hw,?_⟩;grind
 have hndT:T.1.Nodup:=hTa.imp λ{a b} h e=>by
  grind [zTk]
 have hndj:((jn (mkC n (fs.map atA))).map λy=>idL (λv=>y.getD v Ai) 0 fs).Nodup:=by
  unfold List.Nodup;rw[BT];refine hjn.imp_of_mem λ{a b} ha hb hab e=>hab ?_;obtain⟨a1,a2⟩:=(hkey a).1 ha;obtain⟨b1,b2⟩:=(hkey b).1 hb;have hi:=idL_inj a2 b2 e;refine B5 (by rw[a1,b1]) λv hv1 hv2=>?_;unfold covP at h2;have h3:=A3.1 h2 v (BB.2 (by omega));obtain⟨f,hf,h4⟩:=BV.1 h3;grind [Am,Bx,List.map_inj_left,AR]
 have hpm:=(List.perm_ext_iff_of_nodup hndT hndj).2 hmem;refine⟨by rw[hpm.length_eq,Az],λs hs=>?_⟩;grind [idL_len]
end
end
section
open Go.RowKit
attribute [local irreducible] seqW awp zY zZ zR Weak updS zAe retL Pure Acts rP setP setQ cP nP fr
set_option maxRecDepth 4096
def Sb:Sr Bool:=⟨or,and,Ab,by decide,by decide,by decide,by decide,by decide,by decide⟩
def g0(n:Nat):Bool:=decide (0<n)
theorem hmB:Hm Sn Sb g0 where
 add a b:=by
  show decide (0<a+b)=(decide (0<a)||decide (0<b))
  rw[<-Bool.decide_or,decide_eq_decide];omega
 mul a b:=by
  show decide (0<a*b)=(decide (0<a)&&decide (0<b))
  rw[<-Bool.decide_and,decide_eq_decide]
  constructor
  ·intro h
   exact⟨Nat.pos_of_mul_pos_right h,Nat.pos_of_mul_pos_left h⟩
  intro h
  exact Nat.mul_pos h.1 h.2
 one:=rfl
def bz(f:Fa Bool):Nat:=1
def okB(_:Bool):Prop:=True
end
section
open Go.RowKit
set_option maxRecDepth 4096
abbrev FnB:Type:=List Nat×List (Rw×Bool)
section
variable(A B:List Nat)(lb:List (Rw×Bool))(ok:Rw->Bool)
variable{A B lb ok}
end
end
section
open Go.RowKit
attribute [local irreducible] seqW awp zY zZ zR Weak updS zAe retL Pure Acts rP setP setQ cP nP fr
set_option maxRecDepth 4096
structure FVB(f:FnB):Prop where
 asc:Asc f.1
 len:∀p∈f.2,p.1.length=f.1.length
 vs:∀p∈f.2,∀x∈p.1,Vs x
 sz:f.2.length<=1000000
 sm:∀p∈f.2,okB p.2
 nd:Ndk f.2
end
section
open Go.RowKit
set_option maxRecDepth 4096
structure GofB(Dm:List Va)(f:Fa Bool):Prop where
 ok:FOk rcmp Dm f
 r:rz f<=900000
 v:bz f<=Bz
section
variable{Dm:List Va}(hD:Okv Dm)
end
end
section
open Go.RowKit
abbrev toAt(a:List Nat×List Rw):At:=⟨a.1.map λv:Nat=>(v:Int),(a.1.length:Nat),a.2⟩
theorem toAt_fl(A:List (List Nat×List Rw)):(A.map toAt).flatMap atC=A.flatMap atN:=by
 rw[BW];refine congrArg (λf=>Af f A) (funext λa=>?_);simp_all
theorem vok_at{n:Nat}{A:List (List Nat×List Rw)}(h:Vok n A.length λi=>(A.getD i Ai).1):∀a∈A,a.1.Pairwise (· <·)/\∀v∈a.1,v<n:=λa ha=>by
 obtain⟨i,hi,rfl⟩:=Ce ha;have h1:=h.asc i hi;have h2:=h.lt i hi;simp only[AX,AR hi,Cn]at h1 h2;exact⟨h1,h2⟩
theorem atE_ok{n:Nat}{a:List Nat×List Rw}(h1:a.1.Pairwise (· <·))(h2:∀v∈a.1,v<n):atE (n:Nat) (toAt a)=0:=by
 have ha:ascB (toAt a).V=true:=by
  unfold ascB;rw[A3];intro i hi;have hi:i<a.1.length:=by
   grind
  unfold aStep;rcases BM i with h0|h0
  ·grind
  have h3:=Cr.1 h1 (i-1) i (by omega) hi (by omega);grind
 simp_all [toAt,inB,A3,Av,atE,Az]
theorem check_ok(n:Nat)(A:List (List Nat×List Rw))(hn:n<=32)(hA:A.length<=32)(hV:Vok n A.length λi=>(A.getD i Ai).1):Pure An 39 [iD (n:Nat), .row (A.flatMap atN) A.length] [] (iD 0):=by
 have hv:=vok_at hV;have h:=lfCheck_c n (A.map toAt) hn (by rwa[Az]) (λa ha=>by
  obtain⟨b,hb,rfl⟩:=Av.1 ha;obtain⟨h1,h2⟩:=hv b hb;show(b.1.map λv:Nat=>(v:Int)).length<=_;rw[Az]
  have:=zNl (n:=n) 0 h1 λw hw=>⟨A9 _,h2 w hw⟩
  omega)
 rw[toAt_fl,Az]at h;have h0:atL (n:Nat) (A.map toAt)=0:=atL_0 λj hj=>by
  rw[Az]at hj;have e:(A.map toAt).getD j Ai=toAt A[j]:=by
   grind
  grind [Bq,atE_ok]
 have hu:(useP n (A.map toAt) []).contains Ac=false:=by
  rw[Bool.eq_false_iff];intro hc;rw[List.contains_iff_mem]at hc;unfold useP at hc;obtain⟨v,hv1,hv2⟩:=Av.1 hc;obtain⟨i,hi,hm⟩:=hV.cov v (BB.1 hv1);rw[Bool.or_eq_false_iff]at hv2;have h3:=List.any_eq_false.1 hv2.1 (toAt A[i]) (Av.2 ⟨A[i],Bq hi,rfl⟩);grind
 grind
end
section
open Go.RowKit
attribute [local irreducible] seqW awp zY zZ zR Weak updS zAe retL Pure Acts rP setP setQ cP nP fr
set_option maxRecDepth 4096
abbrev afC(f:Rn):List D:=[.row (f.V.map λz=>iD z) f.V.length,iD (f.V.length:Nat), .row (f.R.map rowV) f.R.length]
theorem zVb(f:Rn):(afC f).length=3:=rfl
end
section
open Go.RowKit
set_option maxRecDepth 4096
theorem fmS(f:α->β)(l:List α):(l.flatMap λx=>[f x])=l.map f:=by
 induction l<;>grind
section
variable{n:Nat}{fs:List Rn}(hn:n ≤ 8)(hl:fs.length ≤ 4)(hs:∀ f ∈ fs, Rsm f)(hv:∀ f ∈ fs, ∀ x ∈ f.R, ∀ a ∈ x, Vi a)(h0:zFc n 0 fs = 0)
include hn hl hs hv h0
end
theorem cost_ok:∀a,a<5->∀n,n<9->(a+1)*cE a 18 n+1<=big:=by decide+kernel
abbrev cntJ(n:Nat)(fs:List Rn):Nat:=(jn (mkC n (fs.map atA))).length
theorem ats_af{n:Int}:∀{fs:List Rn},errL n fs=0->fs.flatMap afC=(fs.map atA).flatMap atN
 |[],_=>rfl
 | f::fs,h=>by
  have h3:=zCl h f (A0 ..);obtain⟨A,hA,hfit⟩:=zCj h3;have h5:errL n fs=0:=by
   grind [errL]
  have e:afC f=atN (atA f):=by
   simp_all
  rw[BU,ats_af h5,e];rfl
section
variable{n:Nat}{fs:List Rn}(hn:n ≤ 8)(hl:fs.length ≤ 4)(hs:∀ f ∈ fs, Rsm f)(h1:errL n fs = 0)(h2:covP n fs = true)
include hn hl hs h1 h2
theorem cntL_c(hj:cntJ n fs<18446744073709551615):∃z:Nat,Pure An 19 [iD (n:Nat), .row (fs.flatMap afC) fs.length] [] (.tup [natD (cntJ n fs),iD (z:Nat),iD 0]):=by
 have hao:=atoms_ok hn hl hs h1 h2;have hA:(fs.map atA).length<=4:=by rw[Az];exact hl
 obtain⟨z,hz⟩:=lcount_c hao 18 (λa ha=>by
  obtain⟨f,hf,rfl⟩:=Av.1 ha
  have:=(hs f hf).r
  show f.R.length+n<=18;omega) hj (cost_ok _ (by omega) n (by omega)) (check_ok n _ (by omega) (by omega) hao.v)
 refine⟨z,?_⟩;rw[ats_af h1];grind
end
section
variable{n:Nat}{fs:List Rn}(hn:n ≤ 8)(hl:fs.length ≤ 4)(hs:∀ f ∈ fs, Rsm f)(hv:∀ f ∈ fs, ∀ x ∈ f.R, ∀ a ∈ x, Vi a)(h1:errL n fs = 0)(h2:covP n fs = true)
include hn hl hs hv h1 h2
end
end
variable{e:Bk}{wh:Bool}{f:FuncId}{rows:List (List Int)}{st:List Bk}{zs:List Int}
section
open Go.RowKit Go.Sort Go.Lib Go.Shelf
section
variable{P:Program}{st:List Bk}
theorem acts_rowP{n:Nat}{ds':List D}(he:st[k]?=Aq e)(ha:e.arr=Ab)(hkd:e.kd= .plain)(hf:e.fz=Ac)(hlen:e.cells.length=n)(hl':ds'.length=n)(hpos:0<n)
  (h:∀(I:Im) b c w us,ImB I w->(∀j,¬I b j)->RelL I w noB e.cells us->(∃cur t,w.heap[b]?=Aq (.cells cur t (0,0)))->(∀j,j<n->w.cell? ⟨b,0+j,AE⟩=Aq (us.getD j undef))->(∀j,j<n->w.frozen? ⟨b,0+j,AE⟩=Ac)->n<=c->Calls P f #[.slice (Aq ⟨b,0,AE⟩) n c] w λx w'=>x= .returned (.tuple #[])/\∃vs q os,w'=grow ((w.drewN q).setCells b 0 vs) os/\RelL I w noB ds' vs):
  Acts P f [.osl k 0 n n wh] st [] (.val (.tuple #[])) (st.set k {e with cells:=ds'}):=by
 intro β I w xs hr hsr hinj hfz hdom hi hg;simp only[RelT]at hr;obtain⟨v,ys,rfl,hr,rfl⟩:=hr;simp only[Rel]at hr;rcases hr with⟨e0,_,rfl⟩|⟨e0,_,_,a,c,rfl,_⟩|⟨b,c,cap,hb,rfl,k1,k2,k3⟩
 ·omega
 ·omega
 have hs0:Sim β I w ([]:List D) st ({tmps:=#[],defers:=[]}:Act).tmps.toList:=⟨by simp only[RelT],hsr,hinj,hfz,hdom,hi,hg⟩;have hni:e.kd.isMap=false:=by rw[hkd];rfl
 have hnob:e.nob=true:=by unfold Bk.nob;rw[hkd,ha];rfl
 obtain⟨e',he',ho⟩:=hs0.sr k b c hb;rw[he]at he';cases he';obtain⟨cur,c1,c2,c3,c4⟩:=ho.c hni;rw[hnob]at c3;simp only[if_true]at c3;have hno:∀j,¬I b j:=λj hij=>by
  have:=(hs0.fz k b c j e hb he hij).1
  rw[hf]at this;cases this
 have hlc:(cur.take e.cells.length).length=n:=by rw[<-c3.length];exact hlen
 have hcell:∀j,j<n->w.cell? ⟨b,0+j,AE⟩=Aq ((cur.take e.cells.length).getD j undef)/\w.frozen? ⟨b,0+j,AE⟩=false:=λj hj=>by
  have hlt:j<cur.length:=by rw[A8]at hlc;omega
  refine⟨?_,frozen_of_row w b (0+j) cur.toArray e.ty c1⟩;rw[AX,List.getElem?_take,if_pos (by omega),AR hlt];simp[World.cell?,c1,hlt]
 refine(h I b cap w (cur.take e.cells.length) hs0.imb hno c3 ⟨_,_,c1⟩ (λj hj=>(hcell j hj).1) (λj hj=>(hcell j hj).2) k1).mono ?_;rintro x w' ⟨rfl,vs,q,os,rfl,hvs⟩;have hvs':RelL (fixI I β st []) (w.drewN q) (if e.nob then noB else β) ds' vs:=by
  rw[hnob];simp only[if_true];exact RelL.mono ((Fix.drew I w q).trans (zAv [])) _ _ (BeLe.refl _) _ _ hvs
 obtain⟨s1,s2,s3⟩:=(hs0.drew q).put (off:=0) (cs:=ds') (vs:=vs) (ks:=[]) hb he hf hni (by simp) hvs' (by omega) AE undef;have hset2:setAt e.cells 0 ds'=ds':=zHi e.cells ds' [] (by omega);rw[hset2]at s1;have s4:=s1.grow os;exact⟨_,β,_,rfl,s4.imb,(Stp.drew β _ w q).trans (s2.trans (Stp.grow s1.imb β os)),λ_ _ _ h=>h,s4.sr,s4.inj,s4.fz,s4.dom,by simp only[Rel]⟩
theorem acts_row0(h0:∀a c w,Calls P f #[.slice a 0 c] w λx w'=>x= .returned (.tuple #[])/\w'=w):Acts P f [.osl k 0 0 0 wh] st [] (.val (.tuple #[])) st:=by
 intro β I w xs hr hsr hinj hfz hdom hi hg;simp only[RelT]at hr;obtain⟨v,ys,rfl,hr,rfl⟩:=hr;have:∃a c,v= .slice a 0 c:=by
  simp only[Rel]at hr;grind
 obtain⟨a,c,rfl⟩:=this;refine(h0 a c w).mono ?_;rintro x w' ⟨rfl,rfl⟩;exact⟨_,β,I,rfl,hi,Stp.refl _ _ _,λ_ _ _ h=>h,hsr,hinj,hfz,hdom,by simp only[Rel]⟩
end
def zDf{α:Type}(c:α->α->Int)(l:List α):List α:=l.mergeSort λa b=>decide (c a b<=0)
section
variable{α:Type}{c:α->α->Int}
theorem zEp(l:List α):(zDf c l).Perm l:=List.mergeSort_perm _ _
theorem Cm.le_tr(hc:Cm c){a b d:α}(h:c a b<=0)(k:c b d<=0):c a d<=0:=by
 by_cases e1:c a b=0
 ·rw[(hc.eq a b).1 e1];exact k
 by_cases e2:c b d=0
 ·rw[<-(hc.eq b d).1 e2];exact h
 have:=hc.tr a b d (by omega) (by omega);omega
theorem zMi(hc:Cm c)(l:List α):(zDf c l).Pairwise λa b=>¬c b a<0:=by
 have:=List.pairwise_mergeSort (le:=λa b=>decide (c a b<=0)) (λa b d h k=>by
  simp only[decide_eq_true_eq]at*;exact hc.le_tr h k) (λa b=>by
  have:=hc.neg a b
  simp only[Ca,decide_eq_true_eq];omega) l
 refine this.imp λ{a b} h=>?_
 have:=hc.neg a b
 grind
theorem sortC_uniq(hc:Cm c){l m:List α}(hp:m.Perm l)(hs:m.Pairwise λa b=>¬c b a<0):m=zDf c l:=by
 refine List.Perm.eq_of_pairwise (le:=λa b=>¬c b a<0) (λa b _ _ h k=>?_) hs (zMi hc l) (hp.trans (zEp l).symm)
 have:=hc.neg a b
 exact(hc.eq a b).1 (by omega)
theorem ddG_sort[DecidableEq α](hc:Cm c)(l:List α):ddG (zDf c l)=setG c l:=by
 rw[ddG_sorted hc (zMi hc l)];grind [zH6,zEp]
end
theorem zV1(l:List Int):zDf icmp l=l.mergeSort λx y=>decide (x<=y):=by
 grind [zDf,icmp]
theorem zPz(zs:List Int):zs.map intD=(zs.map (AF .i64)).map .val:=by simp
theorem sort_ints{n:Nat}(he:st[k]?=Aq e)(ha:e.arr=Ab)(hkd:e.kd= .plain)(hf:e.fz=Ac)(hc:e.cells=zs.map intD)(hn:zs.length=n)(hb:n<=1000000000):
  Acts An 249 [.osl k 0 n n wh] st [] (.val (.tuple #[])) (st.set k {e with cells:=(zDf icmp zs).map intD}):=by
 have hsl:(zDf icmp zs).length=n:=by rw[(zEp zs).length_eq,hn]
 rcases BM n with h0|hpos
 ·subst h0;obtain rfl:zs=[]:=BN hn;have e1:({e with cells:=(zDf icmp []).map intD}:Bk)=e:=by
   rw[show(zDf icmp ([]:List Int))=[] by rw[zV1];simp,<-hc]
  rw[e1];have e2:st.set k e=st:=by
   apply List.ext_getElem?;grind
  grind [acts_row0,Tryz.slices_Sort_int_none]
 refine acts_rowP he ha hkd hf (by rw[hc,Az,hn]) (by rw[Az,hsl]) hpos ?_;intro I b c w us hi hno hr hcur hcell hfr hcap;rw[hc,zPz]at hr;obtain rfl:=zKl hr;have hH:Holds (AF .i64) w b 0 zs.toArray:=λj hj=>by
  grind
 have hblk:b<w.heap.size:=by
  grind
 have:=Tryz.slices_Sort_int b 0 c zs w hH hblk (by omega)
 rw[hn]at this;refine this.mono ?_;rintro x w' ⟨rfl,q,os,rfl⟩;refine⟨rfl,(zDf icmp zs).map (AF .i64),q,os,?_,?_⟩
 ·rw[<-zV1,putRow_eq_setCells (AF .i64) w b 0 zs.toArray (zDf icmp zs) q hH (by simp[hsl,hn])]
 rw[zPz];exact zD0 λv hv=>by obtain⟨z,_,rfl⟩:=Av.1 hv;rfl
theorem ltL_swo(rows:List (List Int)):SWO (ltOf λx y:{z//z<rows.length}=>lcmp (rows.getD x.1 []) (rows.getD y.1 [])):=by
 refine⟨λx=>?_,λx y z h1 h2=>?_,λx y z h1 h2=>?_⟩
 ·have:=(zTk (rows.getD x.1 []) (rows.getD x.1 [])).2 rfl
  simp only[ltOf,this];decide
 ·simp only[ltOf,decide_eq_true_eq]at*;exact zY8 _ _ _ h1 h2
 simp only[ltOf,decide_eq_false_iff_not]at*;have g1:=zKz (rows.getD x.1 []) (rows.getD y.1 []);have g2:=zKz (rows.getD y.1 []) (rows.getD z.1 []);have g3:=zKz (rows.getD x.1 []) (rows.getD z.1 [])
 have:=lcmp_cm.le_tr (a:=rows.getD z.1 []) (b:=rows.getD y.1 []) (d:=rows.getD x.1 []) (by omega) (by omega)
 omega
theorem pdq_lists{n lim:Nat}{g:FuncId}{caps caps':List D}{ks:List Nat}(he:st[k]?=Aq e)(ha:e.arr=Ab)(hkd:e.kd= .plain)(hf:e.fz=Ac)(hc:e.cells=rows.map zAd)(hn:rows.length=n)(hb:n<=1000000000)(hpos:0<n)(hlim:lim<4611686018427387904)
  (hfr:frz Ab st zAz (.clo (.func g) [] caps)=Aq (.clo (.func g) [] caps',ks))(hnk:k∉ks)(eg:∀args w,(callFunc g args).run An w= .ok (.enter g args) w)
  (hcmp:∀x∈rows,∀y∈rows,Pure An g (zAd x::zAd y::caps') [] (iD (lcmp x y))):
  Acts An 258 [.osl k 0 n n wh, .val (.int .i64 (0:Nat)), .val (.int .i64 n), .val (.int .i64 lim), .clo (.func g) [] caps] st [] (.val (.tuple #[])) ((zA3 st ks).set k {e with cells:=(zDf lcmp rows).map zAd}):=by
 have hsl:(zDf lcmp rows).length=n:=by rw[(zEp rows).length_eq,hn]
 refine zMd (us3:=[.int .i64 0, .int .i64 n, .int .i64 lim]) he ha hkd hf (by rw[hc,Az,hn]) (by rw[Az,hsl]) hpos hfr hnk ?_;intro I b c w us cb hi hgl hno hcb hr hcur hcell hfz hcap;rw[hc]at hr;have hul:us.length=n:=by rw[zSz hr,Az,hn]
 let α:={z//z<rows.length};let xs:List α:=(Ay rows.length).attach.map λz=>⟨z.1,BB.1 z.2⟩;let enc:α->Value:=λx=>us.getD x.1 undef;have hxl:xs.length=n:=by
  grind
 have hxat:∀j (hj:j<xs.length),(xs[j]'hj).1=j:=λj hj=>by
  grind
 have hus:us=xs.map enc:=by
  grind [B5,Az,AR]
 have hrel:∀x:α,Rel I w noB (zAd (rows.getD x.1 [])) (enc x)/\(enc x).oneCell'=true:=λx=>by
  have h1:(rows.map zAd)[x.1]?=Aq (zAd (rows.getD x.1 [])):=by
   grind
  obtain⟨v,h2,h3,h4⟩:=zS0 hr h1;grind
 obtain⟨x0,hx0⟩:∃x0,xs[0]?=Aq x0:=⟨xs[0]'(by omega),AR (by omega)⟩
 haveI:Inhabited α:=⟨x0⟩;have hH:Holds enc w b 0 xs.toArray:=λj hj=>by
  grind
 obtain⟨cur,t,hcur⟩:=hcur;have hblk:b<w.heap.size:=by
  grind
 have hone:OneCell enc:=λx=>by
  grind
 have hworld:∀(m:Nat)(os:Array Obj)(ys:List α),ys.length=n->sortWorld enc w b 0 m ys.toArray os=grow ((w.drewN m).setCells b 0 (ys.map enc)) os:=λm os ys hy=>by
  unfold sortWorld;rw[putRow_eq_setCells enc w b 0 xs.toArray ys m hH (by simp[hy,hxl])]
 have hfix:∀(m:Nat)(os:Array Obj)(dk:Array α),dk.size=n->Fix I w I (sortWorld enc w b 0 m dk os)/\w.heap.size<=(sortWorld enc w b 0 m dk os).heap.size:=λm os dk hd=>by
  have e1:=hworld m os dk.toList (by simpa using hd);simp only[Co]at e1;rw[e1];obtain⟨s1,s2,s3,s4,s5,s6⟩:=zDg b t (dk.toList.map enc) 0 (w.drewN m) cur.toList (by simpa using hcur);refine⟨λb' o' hb'=>?_,?_⟩
  ·have hne:b'≠b:=λe=>hno o' (e▸hb');have hlt:=hi b' o' hb';refine⟨hb',λv hv=>?_,λks vs hm=>?_⟩
   ·simp only[World.cell?]at hv⊢;rw[zC0 _ os (by rw[s3];exact hlt),s2 b' hne];exact hv
   refine hm.of_heap ?_;rw[zC0 _ os (by rw[s3];exact hlt),s2 b' hne];rfl
  simp_all
 have hmr:∀x:α,rows.getD x.1 []∈rows:=λx=>by
  grind
 have hcmp:CmpLays1 An g cb.toArray enc (λx y:α=>lcmp (rows.getD x.1 []) (rows.getD y.1 [])) b 0 xs.toArray.size w:=by
  intro m os dk hd x y;have hd':dk.size=n:=by simpa[hxl]using hd
  obtain⟨hfx,hsz⟩:=hfix m os dk hd';have hr2:RelT I (sortWorld enc w b 0 m dk os) noB (zAd (rows.getD x.1 [])::zAd (rows.getD y.1 [])::caps') (enc x::enc y::cb):=by
   simp only[RelT];exact⟨_,_,rfl,Rel.mono hfx noB noB (BeLe.refl _) _ _ (hrel x).1,_,_,rfl,Rel.mono hfx noB noB (BeLe.refl _) _ _ (hrel y).1,RelT.mono hfx noB noB (BeLe.refl _) _ _ hcb⟩
  have e1:(#[enc x,enc y]++cb.toArray)=(enc x::enc y::cb).toArray:=by apply Array.ext';simp
  rw[e1];refine(hcmp _ (hmr x) _ (hmr y) I _ _ hr2 (λb o h=>Nat.lt_of_lt_of_le (hi b o h) hsz) (hgl.mono hfx)).mono ?_;rintro e' w' ⟨v,I',γ,rfl,hx,_,_,_,_,_,_,_,_,hv,_⟩;simp only[Rel]at hv;simp_all [zTy]
 have hsz:xs.toArray.size=n:=by simp[hxl]
 have main:=Any.pdqsortCmpFunc_all Tryz.laysRow258 enc (λx y:α=>lcmp (rows.getD x.1 []) (rows.getD y.1 [])) g cb.toArray (ltL_swo rows) b 0 c xs.toArray w eg hcmp ⟨hone,hH,hblk⟩ (n+1) 0 n lim xs.toArray w (by omega) rfl (SW.start hH) (A9 _) (by omega) (by omega) hlim (.inl rfl);rw[hsz]at main;refine main.mono ?_;rintro x w' ⟨rfl,q,os,rfl⟩;obtain⟨hp,hso⟩:=pdq_sorts (ltOf λx y:α=>lcmp (rows.getD x.1 []) (rows.getD y.1 [])) (ltL_swo rows) xs.toArray 0 n lim Ab Ab (A9 _) (by omega) (.inl rfl);generalize pdq (ltOf λx y:α=>lcmp (rows.getD x.1 []) (rows.getD y.1 [])) xs.toArray 0 n lim Ab Ab=d' at*;have hd':d'.size=n:=by rw[hp.1,hsz]
 have hperm:d'.toList.Perm xs:=by
  have:=hp.2.2
  grind [Array.extract_size]
 have hrows:xs.map (λx=>rows.getD x.1 [])=rows:=by
  apply B5 (by rw[Az,hxl,hn]);grind
 have hl2:d'.toList.map (λx=>rows.getD x.1 [])=zDf lcmp rows:=by
  refine sortC_uniq lcmp_cm ?_ ?_
  ·grind
  rw[BT,Cr];intro i j hi' hj' hij;have hi2:i<d'.size:=by simpa using hi'
  have hj2:j<d'.size:=by simpa using hj'
  have:=hso i j (A9 _) hij (by omega)
  rw[getElem!_pos d' j hj2,getElem!_pos d' i hi2]at this;simpa[ltOf]using this
 refine⟨rfl,d'.toList.map enc,q,os,?_,?_⟩
 ·simp_all
 rw[<-hl2];have:∀(l:List α),RelL I w noB ((l.map λx=>rows.getD x.1 []).map zAd) (l.map enc):=by
  intro l;induction l with
  |nil=>simp only[List.map_nil,RelL]
  |cons x l ih=>
   simp only[List.map_cons,RelL];grind
 exact this _
end
variable{p:Nat}
section
open Go.RowKit
attribute [local irreducible] seqW awp zY zZ zR Weak updS zAe retL Pure Acts rP setP setQ cP nP fr
set_option maxRecDepth 4096
theorem zP3{l:List α}(d:α)(h:i<l.length):l.getD i d=l[i]:=by grind
theorem zSg{a b:List α}(d:α)(ha:i<a.length)(hb:i<b.length)(h:a.take i=b.take i)(k:a.getD i d=b.getD i d):a.take (i+1)=b.take (i+1):=by
 grind [Bc,zP3]
theorem cint_cY(a b:Int):Pure An 34 [intD a,intD b] [] (intD (Lib.compareInt a b)):=
 zC6 (us:=[.int .i64 a, .int .i64 b]) (λw=>(Tryz.cmp_Compare_int a b w).mono λe w' h=>⟨h.1,h.2.symm⟩)
set_option maxHeartbeats 1000000 in
theorem scmp_cY(a b:List Int)(n m:Nat)(hn:a.length=n)(hm:b.length=m)(ha:n<=1000000000)(hb:m<=1000000000):Pure An 252 [.row (a.map intD) n, .row (b.map intD) m] [] (intD (lcmp a b)):=by
 subst hn hm;refine zJ zCg mixed Tryz.func252 rfl<|vAu<|zA<|vAe<|zF<|zN (λ(i:Nat)=>fr 36 [(0,zAd a),(1,zAd b),(9,zAd a),(10,iD (Aa a:Int)),(11,iD (i:Int))]) (λi=>[]) (λi=>a.length-i) (λi=>i<=a.length/\i<=b.length/\lcmp (a.drop i) (b.drop i)=lcmp a b) 0 ?_ ?_ ?_
 ·grind
 ·refine vk 0
 rintro i ⟨k1,k2,k3⟩;rcases Ax i a.length with h1|h1
 ·have x1:=zNf a i h1;have n1:a.map intD≠[]:=zV;rcases Ax i b.length with h2|h2
  ·have x2:=zNf b i h2;have n2:b.map intD≠[]:=zV;have hl:=lcmp_drop h1 h2;rw[k3]at hl;generalize a.getD i 0=x at*;generalize b.getD i 0=y at*;have hci:=cint_cY x y;unfold Lib.compareInt at hci;by_cases h3:x<y
   ·rw[if_pos h3]at hl;have e:(if x<y then-1 else if x>y then(1:Int)else 0)=-1:=if_pos h3;rw[e]at hci;refine vAu<|zA<|vT ((i:Int)<↑(Aa a))<|vKB<|vA<|vr 2 (ix ↑i ↑(Aa a) (Ad intD a≠[]))<|vp 14 i (Ad intD a)<|vr 1 (0<Aa (Ag i<|Ad intD a))<|vsh 15 x1<|veT<|zA<|vAe<|vF ((i:Int)>=(Aa b:Int))<|vK<|vA<|vr 3 (ix ↑i ↑(Aa b) (Ad intD b≠[]))<|vp 22 i (Ad intD b)<|vr 1 (0<Aa (Ag i<|Ad intD b))<|vsh 23 x2<|veT<|vA<|vrT 2<|vc hci<|veT<|vAe<|vt<|vAe<|zG<|zH<|zE<|zE<|zH<|zE<|vre (True) (q0_) (.inr rfl) ?_;rw[hl]
   by_cases h4:y<x
   ·rw[if_neg h3,if_pos h4]at hl;have e:(if x<y then-1 else if x>y then(1:Int)else 0)=1:=by rw[if_neg h3,if_pos h4]
    rw[e]at hci;refine vAu<|zA<|vT ((i:Int)<↑(Aa a))<|vKB<|vA<|vr 2 (ix ↑i ↑(Aa a) (Ad intD a≠[]))<|vp 14 i (Ad intD a)<|vr 1 (0<Aa (Ag i<|Ad intD a))<|vsh 15 x1<|veT<|zA<|vAe<|vF ((i:Int)>=(Aa b:Int))<|vK<|vA<|vr 3 (ix ↑i ↑(Aa b) (Ad intD b≠[]))<|vp 22 i (Ad intD b)<|vr 1 (0<Aa (Ag i<|Ad intD b))<|vsh 23 x2<|veT<|vA<|vrT 2<|vc hci<|veT<|vAe<|vt<|vAe<|zG<|zH<|zE<|zE<|zH<|zE<|vre (True) (q1_) (.inr rfl) ?_;rw[hl]
   rw[if_neg h3,if_neg h4]at hl;have e:(if x<y then-1 else if x>y then(1:Int)else 0)=0:=by rw[if_neg h3,if_neg h4]
   rw[e]at hci;refine vAu<|zA<|vT ((i:Int)<↑(Aa a))<|vKB<|vA<|vr 2 (ix ↑i ↑(Aa a) (Ad intD a≠[]))<|vp 14 i (Ad intD a)<|vr 1 (0<Aa (Ag i<|Ad intD a))<|vsh 15 x1<|veT<|zA<|vAe<|vF ((i:Int)>=(Aa b:Int))<|vK<|vA<|vr 3 (ix ↑i ↑(Aa b) (Ad intD b≠[]))<|vp 22 i (Ad intD b)<|vr 1 (0<Aa (Ag i<|Ad intD b))<|vsh 23 x2<|veT<|vA<|vrT 2<|vc hci<|veT<|vAe<|vf<|zL<|zD<|vN<|zB rfl<|vr 2 (i6 (↑i+1))<|vnil<|zC<|⟨i+1,⟨by omega,by omega,hl.symm⟩,by omega,?_⟩;refine vk 0
  have hl:=lcmp_end (a:=a) (b:=b) (i:=i) (.inr (by omega)) k1 k2;rw[k3,if_neg (by omega),if_pos (by omega)]at hl;rw[hl];refine vAu<|zA<|vT ((i:Int)<↑(Aa a))<|vKB<|vA<|vr 2 (ix ↑i ↑(Aa a) (Ad intD a≠[]))<|vp 14 i (Ad intD a)<|vr 1 (0<Aa (Ag i<|Ad intD a))<|vsh 15 x1<|veT<|zA<|vAe<|vT ((i:Int)>=(Aa b:Int))<|vAe<|zG<|zE<|zH<|zE<|zE<|zH<|zE<|vret (True)<|.inr rfl
 have hl:=lcmp_end (a:=a) (b:=b) (i:=i) (.inl (by omega)) k1 k2;rw[k3]at hl;rcases Ax a.length b.length with h2|h2
 ·rw[if_pos h2]at hl;rw[hl];refine vAu<|zA<|vF ((i:Int)<↑(Aa a))<|vZ2<|zA<|vAe<|vT ((Aa a:Int)<↑(Aa b))<|vAe<|zG<|zE<|vret (True)<|.inr rfl
 rw[if_neg (by omega),if_neg (by omega)]at hl;rw[hl];refine vAu<|zA<|vF ((i:Int)<↑(Aa a))<|vZ2<|zA<|vAe<|vF ((Aa a:Int)<↑(Aa b))<|vK<|vAe<|zG<|vret (True)<|.inr rfl
set_option maxHeartbeats 1000000 in
theorem zHj(a b:List Int)(n m:Nat)(hn:a.length=n)(hm:b.length=m)(ha:n<=1000000000)(hb:m<=1000000000):Pure An 254 [.row (a.map intD) n, .row (b.map intD) m] [] (bD (decide (a=b))):=by
 subst hn hm;refine zJ zCg mixed Tryz.func254 rfl ?_;focus
  refine vAu<|zA<|vAe<|zAk (t:=(Aa a:Int)!=(Aa b:Int)) (by kernel_rfl) (λhc=>?_)<|λhc=>?_;simp only[bne_iff_ne]at hc;refine vAe<|zG<|zE<|vre (True) (Ar<|Bu Ac) (.inr rfl) ?_;rotate_left;simp only[bne_eq_false_iff_eq]at hc;refine vK<|zA<|vAe<|zF ?_;rotate_left
 ·congr 2;grind
 refine zN (λ(i:Nat)=>fr 26 [(0,zAd a),(1,zAd b),(12,iD<|Aa a),(13,iD i)]) (λi=>[]) (λi=>a.length-i) (λi=>i<=a.length/\a.take i=b.take i) 0 ?_ ?_ ?_
 ·grind
 ·refine vk 0
 rintro i ⟨k1,k2⟩;focus
  refine vAu<|zA<|vcD ((i:Int)<↑(Aa a)) (λhc=>?_)<|λhc=>?_;refine vKB<|vAe<|zA<|vd [0,1,2,4,5,6,3,7,8]<|vr 3 (ix ↑i ↑(Aa a) (Ad intD a≠[])) (vp 18 i (Ad intD a)<|vr 3 (ix ↑i ↑(Aa b) (Ad intD b≠[])) (vp 22 i (Ad intD b) ?_) ⟨(by omega),⟨(by omega),(by exact zV)⟩⟩) ⟨(by omega),⟨(by omega),(by exact zV)⟩⟩;refine vr 1 (0<Aa (Ag i<|Ad intD a))<|vs 19 (A6 (Ag i<|Ad intD a) Uk) (intD<|Ao a i (0:Int)) (hd:=by simp(disch:=omega) only[zNf])<|vr 1 (0<Aa (Ag i<|Ad intD b))<|vs 23 (A6 (Ag i<|Ad intD b) Uk) (intD<|Ao b i (0:Int)) (hd:=by simp(disch:=omega) only[zNf])<|veT<|zAk (t:=Ao a i (0:Int)!=Ao b i (0:Int)) (by kernel_rfl) (λhc=>?_)<|λhc=>?_;simp only[bne_iff_ne]at hc;refine vAe<|zG<|zH<|zE<|zE<|zH<|zE<|vre (True) (Ar<|Bu Ac) (.inr rfl) ?_;rotate_left;simp only[bne_eq_false_iff_eq]at hc;refine zL<|zD<|vN<|zB rfl<|vr 2 (i6 (↑i+1))<|vnil<|zC ?_;rotate_left;refine vZ2<|vAe<|zG<|vre (True) (Ar<|Bu Ab) (.inr rfl) ?_;rotate_left
 ·congr 2;grind
 ·refine⟨i+1,⟨by omega,?_⟩,by omega,?_⟩
  ·grind [zSg]
  refine vk 0
 grind
def TkY:Par:=⟨λf=>f==258||f==268||f==249||f==250||f==251||f==253,λ_ _=>AE,λk=>k==0,λ_=>Ac,λ_=>Ac⟩
theorem zSa:zBg An TkY:=by intro t n f h;cases h
theorem zRp{st:Bk}:∀k,k<[st].length->TkY.keep k=true:=λk hk=>by
 obtain rfl:k=0:=by simpa using hk
 rfl
abbrev zJt(l:List (List Int)):Bk:=⟨l.map zAd,39,1,Ab,Ac, .plain⟩
theorem zK6:∀k,1<=k->TkY.keep k=false:=λk hk=>by show(k==0)=Ac;simp;omega
set_option maxHeartbeats 1000000 in
theorem zZc(l:List (List Int))(wh:Bool):Acts An 268 [.osl 0 0 0 0 wh, .val (.int .i64 0), .val (.int .i64 0), .clo (.func 252) [] []] [zJt l] [] (.tup []) [zJt l]:=by
 refine zS zSa mixed Tryz.func268 rfl zRp<|vAs<|ve (i6 ((0:Int)+(1:Int)))<|zF<|zN (λ(i:Nat)=>fr 53 [(0,Ah 0 0 0 0 wh),(1,iD 0),(2,iD 0),(3,AP (Fn.func (252:FuncId)) [] []),(8,iD 1)]) (λ(i:Nat)=>[zJt l]) (λ(i:Nat)=>0) (λ(i:Nat)=>True) 0 ?_ ?_ ?_
 ·trivial
 ·refine vk 1 ?_;exact zK6
 rintro i-
 refine zA<|vAu<|vf<|vY2<|zT (True) [] (.inl rfl) ?_;exact⟨by kernel_rfl,by kernel_rfl⟩
set_option maxHeartbeats 1000000 in
theorem pdq0Y(l:List (List Int))(wh:Bool)(lim:Int):Acts An 258 [.osl 0 0 0 0 wh, .val (.int .i64 0), .val (.int .i64 0), .val (.int .i64 lim), .clo (.func 252) [] []] [zJt l] [] (.tup []) [zJt l]:=by
 refine zS zSa mixed Tryz.func258 rfl zRp<|vAu<|vAe<|zF<|zN (λ(i:Nat)=>fr 148 [(0,Ah 0 0 0 0 wh),(1,iD 0),(2,iD 0),(3,iD lim),(4,AP (Fn.func (252:FuncId)) [] []),(10,bD Ab),(11,bD Ab)]) (λ(i:Nat)=>[zJt l]) (λ(i:Nat)=>0) (λ(i:Nat)=>True) 0 ?_ ?_ ?_
 ·trivial
 ·refine vk 1 ?_;exact zK6
 rintro i-
 refine zF<|vAs<|ve (i6 ((0:Int)-(0:Int)))<|zA<|vAe<|vt<|vA<|vrT 4<|vnt [zJt l]<|zAi [] [] [Ah 0 0 0 0 wh,iD 0,iD 0,AP (Fn.func 252) [] []] [Ah 0 0 0 0 wh,iD 0,iD 0,AP (Fn.func 252) [] []] (Bf _) (by exact zZc _ _) ?_;refine v0s<|veT<|zG<|zE<|zH<|zE<|zH ?_;refine zT (True) [] (.inr rfl) ?_;exact⟨by kernel_rfl,by kernel_rfl⟩
set_option maxHeartbeats 1000000 in
theorem zYp(l:List (List Int))(n:Nat)(wh:Bool)(hn:l.length=n)(hb:n<=1000000000)(hs:Short 1000000000 l):Acts An 251 [.osl 0 0 n n wh, .clo (.func 252) [] []] [zJt l] [] (.tup []) [zJt (zDf lcmp l)]:=by
 subst hn;have hlim:Bv l.length<4611686018427387904:=Ck (Lib.bitLen_le l.length 62 (by omega) (by omega)) (by omega);rcases BM l.length with h0|hpos
 ·obtain rfl:l=[]:=BN h0;refine zS zSa mixed Tryz.func251 rfl zRp<|vAu<|zB rfl<|vr 4 (u6 (↑(0:Nat):Int))<|vc (blenR_c 0 (by omega))<|vrT 1<|vnt [zJt []]<|zAi [] [] [Ah 0 0 0 0 wh,iD 0,iD (↑(0:Nat):Int),iD (↑(0:Nat):Int),AP (Fn.func 252) [] []] [Ah 0 0 0 0 wh,iD 0,iD (↑(0:Nat):Int),iD (↑(0:Nat):Int),AP (Fn.func 252) [] []] (Bf _) (by exact pdq0Y [] _ _) ?_;refine vnil<|zT (True) [] (.inl rfl) ?_;exact⟨rfl,by simp[zDf]⟩
 refine zS zSa mixed Tryz.func251 rfl zRp ?_;have hp:=pdq_lists (st:=[zJt l]) (k:=0) (n:=l.length) (lim:=Bv l.length) (wh:=wh) (rows:=l) (g:=252) (caps:=[]) (caps':=[]) (ks:=[]) rfl rfl rfl rfl rfl rfl (by omega) hpos hlim rfl (by simp) (enters_of Tryz.func252 (by kernel_rfl) rfl)
  (λx hx y hy=>scmp_cY x y _ _ rfl rfl (hs x hx) (hs y hy))
 refine vAu<|zB rfl<|vr 4 (u6 (Aa l:Int))<|vc (blenR_c l.length (by omega))<|vrT 1<|vnt [zJt l]<|zAi [] [] [Ah 0 0 (Aa l) (Aa l) wh,iD 0,iD<|Aa l,iD (↑(Bv<|Aa l):Int),AP (Fn.func 252) [] []] [Ah 0 0 (Aa l) (Aa l) wh,iD 0,iD<|Aa l,iD (↑(Bv<|Aa l):Int),AP (Fn.func 252) [] []] (Bf _) (by exact hp) ?_;refine vnil<|zT (True) [] (.inl rfl) ?_;exact⟨by kernel_rfl,by kernel_rfl⟩
theorem zR2{α:Type}[DecidableEq α](x d:α):∀(l:List α)(p:α),dedG p (l++[x])=if x=(p::l).getD l.length d then dedG p l else dedG p l++[x]
 |[],p=>by simp[dedG]
 |y::l,p=>by
  simp only[BZ,dedG,AL,List.getD_cons_succ];have h2:=zR2 x d l y;grind
theorem dd_stepY[DecidableEq α]{w:List α}(d:α)(h1:1<=k)(h2:k<w.length):ddG (w.take (k+1))=if w.getD k d=w.getD (k-1) d then ddG (w.take k)else ddG (w.take k)++[w.getD k d]:=by
 cases w with
 |nil=>simp at h2
 |cons p l=>
  obtain⟨j,rfl⟩:∃j,k=j+1:=⟨k-1,by omega⟩;simp only[AL]at h2;have hj:j<l.length:=by omega
  have e:l.getD j d=l[j]:=zP3 d hj;rw[List.take_succ_cons,Bc hj];simp only[ddG,List.take_succ_cons,List.getD_cons_succ,Bw];rw[<-e,zR2 (l.getD j d) d (l.take j) p];grind
theorem dd_lenY[DecidableEq α](w:List α):(ddG w).length<=w.length:=by
 have key:∀(l:List α)(p:α),(dedG p l).length<=l.length:=by
  intro l;induction l with
  |nil=>intro p;simp[dedG]
  |cons x l ih=>intro p;simp only[dedG];split<;>have h1:=ih p<;>have h2:=ih x<;>simp<;>omega
 cases w<;>grind [ddG]
abbrev nilDY:D:= .val (.slice AE 0 0)
theorem zN5(n:Nat)(z:D):repL n [z]=A4 n z:=by
 induction n with
 |zero=>rfl
 |succ n ih=>simp only[repL,List.replicate_succ,List.flatten_cons,BZ,Cg]at ih⊢;rw[ih]
theorem zLj(cur:List (List Int))(k:Nat)(h:k<cur.length):((cur.map zAd).drop k).headD .unk=zAd (cur.getD k []):=zCe zAd cur [] k h
abbrev padBY(l:List (List Int))(n:Nat):Bk:=⟨l.map zAd++A4 (n-l.length) nilDY,39,1,Ab,Ac, .plain⟩
abbrev eqlFY:D:= .clo (.func 254) [] []
abbrev zCr(l:List D):Bk:=⟨l,39,1,Ab,Ac, .plain⟩
theorem set_whyL(l:List (List Int))(i:Nat)(r:List Int):(l.map zAd).set i (zAd r)=(l.set i r).map zAd:=by simp
theorem dd_takeY(rows:List (List Int))(h0:0<p)(h:p<rows.length):ddG (rows.take (p+1))=if rows.getD p []=rows.getD (p-1) []then ddG (rows.take p)else ddG (rows.take p)++[rows.getD p []]:=dd_stepY [] h0 h
theorem uq_oneY{l:List (List Int)}(h:l.length<2):ddG l=l:=by
 match l,h with
 |[],_=>rfl
 |[a],_=>rfl
theorem uq_adjY(h:ddG rows=rows)(h0:0<p)(hp:p<rows.length):¬rows.getD p []=rows.getD (p-1) []:=by
 have key:∀(l:List (List Int))(a:List Int),dedG a l=l->(a::l).Pairwise (λ_ _=>True)->∀q,q<l.length->l.getD q []≠(a::l).getD q []:=by
  intro l;induction l with
  |nil=>intro a _ _ q hq;simp at hq
  | cons b l ih=>
   intro a h _ q hq;simp only[dedG]at h;have hba:b≠a:=λe=>by
    rw[if_pos e]at h;have:(dedG a l).length<=l.length:=by
     have:=dd_lenY (a::l)
     simp only[ddG,AL]at this;omega
    grind
   grind
 match rows,h,hp with
 |a::l,h,hp=>
  grind [ddG,List.pairwise_iff_forall_sublist]
theorem getD_setRY(l:List (List Int))(i j:Nat)(r:List Int)(h:i<j):(l.set i r).getD j []=l.getD j []:=by
 grind
theorem take_setRY(l:List (List Int))(i:Nat)(r:List Int)(h:i<l.length):(l.set i r).take (i+1)=l.take i++[r]:=by
 rw[List.take_set,Bc h,List.set_append];simp[BX (Nat.le_of_lt h)]
set_option maxHeartbeats 4000000 in
theorem compact_aY(rows:List (List Int))(n:Nat)(hn:rows.length=n)(hb:n<=1000000000)(hl:∀r∈rows,r.length<=1000000000):Acts An 253 [.osl 0 0 n n Ab,eqlFY] [zCr (rows.map zAd)] [] (.osl 0 0 (ddG rows).length (ddG rows).length Ab) [zCr ((ddG rows).map zAd++A4 (n-(ddG rows).length) (.val (.slice AE 0 0)))]:=by
 subst hn;by_cases hu:ddG rows=rows
 ·rw[hu,Nat.sub_self,List.replicate_zero,Bg];refine zS zSa mixed Tryz.func253 rfl zRp ?_;by_cases h2:rows.length<2
  ·refine vAu<|zA<|vAe<|vT ((Aa rows:Int)<(2:Int))<|vAe<|zG<|zE<|zT (True) [Ah 0 0 (Aa rows) (Aa rows) Ab] (.inr rfl) ?_;exact⟨by kernel_rfl,by kernel_rfl⟩
  refine vAu<|zA<|vAe<|vF ((Aa rows:Int)<(2:Int))<|vK<|zA<|vAe<|zF<|zN (λ(k:Nat)=>fr 66 [(0,Ah 0 0 (Aa rows) (Aa rows) Ab),(1,eqlFY),(5,iD k)]) (λ(k:Nat)=>[zCr<|rows.map zAd]) (λ(k:Nat)=>rows.length-k) (λ(k:Nat)=>0<k/\k<=rows.length) 1 ?_ ?_ ?_
  ·omega
  ·refine vk 1 ?_;exact zK6
  rintro k ⟨k0,k1⟩;rcases Ax k rows.length with k3|k3
  ·obtain⟨m,rfl⟩:∃m,k=m+1:=⟨k-1,by omega⟩;have hx:=zLj rows (m+1) (by omega);have hy:=zLj rows m (by omega);have e2:((m+1:Nat):Int)-1=(m:Int):=by omega
   have l1:=hl _ (zAo rows [] (m+1) (by omega));have l2:=hl _ (zAo rows [] m (by omega));have hne:=uq_adjY hu (by omega) k3;rw[Bw]at hne;generalize rows.getD (m+1) []=r at*;generalize rows.getD m []=s at*;have hcm:=zHj r s _ _ rfl rfl (by omega) (by omega);rw[decide_eq_false hne]at hcm;refine zA<|vAu<|vT ((↑(m+1):Int)<↑(Aa rows))<|vKB<|zA<|vd [0,1,2,3,5,6,7,8,4,9,10]<|vr 4 ((0:Int)<=(↑(m+1):Int)/\(↑(m+1):Int)<(Aa rows:Int))<|vo 21 0 (m+1)<|vr 3 (i6 (↑(m+1)-1))<|vs 25 (iD (↑(m+1)-1)) (iD m)<|vr 1 ((0:Int)<=(m:Int)/\(m:Int)<↑(Aa rows))<|vo 26 0 m<|vr 1 (0<Aa (Ag (m+1)<|AC<|zCr<|Ad zAd rows))<|vsh 22 hx<|vr 1 (0<Aa (Ag m<|AC<|zCr<|Ad zAd rows))<|vsh 27 hy<|vc hcm<|veT<|vf<|zL<|zD<|vN<|zB rfl<|vr 3 (i6 (↑(m+1)+1))<|vnil<|zC<|⟨m+1+1,⟨by omega,by omega⟩,by omega,?_⟩;refine vk 1 ?_;exact zK6
  refine zA<|vAu<|vF ((k:Int)<(Aa rows:Int))<|vZ2<|vAe<|zG<|zT (True) [Ah 0 0 (Aa rows) (Aa rows) Ab] (.inr rfl) ?_;exact⟨by kernel_rfl,by kernel_rfl⟩
 have h2:¬rows.length<2:=λh=>hu (uq_oneY h);refine zS zSa mixed Tryz.func253 rfl zRp<|vAu<|zA<|vAe<|vF ((Aa rows:Int)<(2:Int))<|vK<|zA<|vAe<|zF<|zN (λ(k:Nat)=>fr 66 [(0,Ah 0 0 (Aa rows) (Aa rows) Ab),(1,eqlFY),(5,iD (k:Int))]) (λ(k:Nat)=>[zCr<|rows.map zAd]) (λ(k:Nat)=>rows.length-k) (λ(k:Nat)=>0<k/\k<=rows.length/\ddG (rows.take k)=rows.take k) 1 ?_ ?_ ?_
 ·grind [uq_oneY]
 ·refine vk 1 ?_;exact zK6
 rintro k ⟨k0,k1,k2⟩;rcases Ax k rows.length with k3|k3;case inr=>exact absurd (by rw[AI k3]at k2;exact k2) hu
 obtain⟨m,rfl⟩:∃m,k=m+1:=⟨k-1,by omega⟩;have hx:=zLj rows (m+1) (by omega);have hy:=zLj rows m (by omega);have e2:((m+1:Nat):Int)-1=(m:Int):=by omega
 have l1:=hl _ (zAo rows [] (m+1) (by omega));have l2:=hl _ (zAo rows [] m (by omega));have ht:=dd_takeY rows (p:=m+1) (by omega) k3;rw[Bw]at ht;by_cases he:rows.getD (m+1) []=rows.getD m [];case neg=>
  rw[if_neg he,k2]at ht;have ht2:ddG (rows.take (m+1+1))=rows.take (m+1+1):=by
   simp_all
  generalize rows.getD (m+1) []=r at*;generalize rows.getD m []=s at*;have hcm:=zHj r s _ _ rfl rfl (by omega) (by omega);rw[decide_eq_false he]at hcm;refine zA<|vAu<|vT ((↑(m+1):Int)<↑(Aa rows))<|vKB<|zA<|vd [0,1,2,3,5,6,7,8,4,9,10]<|vr 4 ((0:Int)<=(↑(m+1):Int)/\(↑(m+1):Int)<(Aa rows:Int))<|vo 21 0 (m+1)<|vr 3 (i6 (↑(m+1)-1))<|vs 25 (iD (↑(m+1)-1)) (iD m)<|vr 1 ((0:Int)<=(m:Int)/\(m:Int)<↑(Aa rows))<|vo 26 0 m<|vr 1 (0<Aa (Ag (m+1)<|AC<|zCr<|Ad zAd rows))<|vsh 22 hx<|vr 1 (0<Aa (Ag m<|AC<|zCr<|Ad zAd rows))<|vsh 27 hy<|vc hcm<|veT<|vf<|zL<|zD<|vN<|zB rfl<|vr 3 (i6 (↑(m+1)+1))<|vnil<|zC<|⟨m+1+1,⟨by omega,by omega,ht2⟩,by omega,?_⟩;refine vk 1 ?_;exact zK6
 rw[if_pos he,k2]at ht;have hcm:=zHj (rows.getD (m+1) []) (rows.getD m []) _ _ rfl rfl (by omega) (by omega);rw[decide_eq_true he]at hcm;refine zA<|vAu<|vT ((↑(m+1):Int)<↑(Aa rows))<|vKB<|zA<|vd [0,1,2,3,5,6,7,8,4,9,10]<|vr 4 ((0:Int)<=(↑(m+1):Int)/\(↑(m+1):Int)<(Aa rows:Int))<|vo 21 0 (m+1)<|vr 3 (i6 (↑(m+1)-1))<|vs 25 (iD (↑(m+1)-1)) (iD m)<|vr 1 ((0:Int)<=(m:Int)/\(m:Int)<↑(Aa rows))<|vo 26 0 m<|vr 1 (0<Aa (Ag (m+1)<|AC<|zCr<|Ad zAd rows))<|vsh 22 hx<|vr 1 (0<Aa (Ag m<|AC<|zCr<|Ad zAd rows))<|vsh 27 hy<|vc hcm<|veT<|vt<|vA<|vr 3 ((0:Int)<=(↑(m+1):Int)/\True/\True/\0<1/\Am (↑(m+1):Int)<=Aa rows/\Aa rows<=Aa rows/\Aa rows=Aa rows)<|vs 31 (Ah 0 (0+Am (↑(m+1):Int)*1) (Aa rows-Am (↑(m+1):Int)) ((Aa rows-Am (↑(m+1):Int))*1) Ac) (Ah 0 (m+1) (Aa rows-(m+1)) (Aa rows-(m+1)) Ac)<|veT<|zA<|vAe<|zF<|zA0 (λ(q:Nat)(k:Nat)(R:List (List Int))=>fr 66 [(0,Ah 0 0 (Aa rows) (Aa rows) Ab),(1,eqlFY),(5,iD k),(6,Ah 0 (m+1) (Aa rows-(m+1)) (Aa rows-(m+1)) Ac),(7,iD q)]) (λ(q k:Nat)(R:List (List Int))=>[zCr<|R.map zAd]) (λ(q k:Nat)(R:List (List Int))=>rows.length-(m+1)-q) (λ(q k:Nat)(R:List (List Int))=>0<q/\m+1+q<=rows.length/\k<=m+q/\0<k/\R.length=rows.length/\R.take k=ddG (rows.take (m+1+q))/\(∀r∈R,r.length<=1000000000)/\∀j,m+q<=j->R.getD j []=rows.getD j []) 1 (m+1) rows ?_ ?_ ?_
 ·grind
 ·refine vk 1 ?_;exact zK6
 clear hx hy e2 l1 l2 ht he hcm;rintro q k R ⟨q0,q1,q2,q3,q4,q5,q6,q7⟩;rcases Ax q (rows.length-(m+1))with q8|q8
 ·obtain⟨p,rfl⟩:∃p,q=p+1:=⟨q-1,by omega⟩;have hx:=zLj R (m+1+(p+1)) (by omega);have hy:=zLj R (m+1+p) (by omega);have e2:((p+1:Nat):Int)-1=(p:Int):=by omega
  have l1:=q6 _ (zAo R [] (m+1+(p+1)) (by omega));have l2:=q6 _ (zAo R [] (m+1+p) (by omega));have ht:=dd_takeY rows (p:=m+1+(p+1)) (by omega) (by omega);rw[show m+1+(p+1)-1=m+1+p by omega,<-q7 (m+1+(p+1)) (by omega),<-q7 (m+1+p) (by omega),<-q5]at ht;have ht2:=take_setRY R k (R.getD (m+1+(p+1)) []) (by omega);have hst:=set_whyL R k (R.getD (m+1+(p+1)) []);have hgs:=λj (h:k<j)=>getD_setRY R k j (R.getD (m+1+(p+1)) []) h;have hms:∀r∈R.set k (R.getD (m+1+(p+1)) []),r.length<=1000000000:=λr hr=>by
   grind
  by_cases he:R.getD (m+1+(p+1)) []=R.getD (m+1+p) []
  ·rw[if_pos he]at ht;have hcm:=zHj (R.getD (m+1+(p+1)) []) (R.getD (m+1+p) []) _ _ rfl rfl (by omega) (by omega);rw[decide_eq_true he]at hcm;refine zA<|vAu<|vT ((↑(p+1):Int)<(↑(Aa rows-(m+1)):Int))<|vKB<|zA<|vd [0,1,2,3,5,6,7,8,4,9,10,11]<|vr 4 ((0:Int)<=(↑(p+1):Int)/\(↑(p+1):Int)<(↑(Aa rows-(m+1)):Int))<|vs 41 (Al 0 (m+1+Am (↑(p+1):Int)*1)) (Al 0 (m+1+(p+1)))<|vr 3 (i6 (↑(p+1)-1))<|vs 45 (iD (↑(p+1)-1)) (iD p)<|vr 1 ((0:Int)<=(p:Int)/\(p:Int)<(↑(Aa rows-(m+1)):Int))<|vs 46 (Al 0 (m+1+Am (p:Int)*1)) (Al 0 (m+1+p))<|vr 1 (0<Aa (Ag (m+1+(p+1))<|AC<|zCr<|Ad zAd R))<|vsh 42 hx<|vr 1 (0<Aa (Ag (m+1+p)<|AC<|zCr<|Ad zAd R))<|vsh 47 hy<|vc hcm<|veT<|vf<|zL<|zD<|vN<|zB rfl<|vr 3 (i6 (↑(p+1)+1))<|vnil<|zC<|⟨p+1+1,k,R,⟨by omega,by omega,by omega,by omega,q4,ht.symm,q6,λj hj=>q7 j (by omega)⟩,by omega,?_⟩;refine vk 1 ?_;exact zK6
  rw[if_neg he]at ht;have hcm:=zHj (R.getD (m+1+(p+1)) []) (R.getD (m+1+p) []) _ _ rfl rfl (by omega) (by omega);rw[decide_eq_false he]at hcm;refine zA<|vAu<|vT ((↑(p+1):Int)<(↑(Aa rows-(m+1)):Int))<|vKB<|zA<|vd [0,1,2,3,5,6,7,8,4,9,10,11]<|vr 4 ((0:Int)<=(↑(p+1):Int)/\(↑(p+1):Int)<(↑(Aa rows-(m+1)):Int))<|vs 41 (Al 0 (m+1+Am (↑(p+1):Int)*1)) (Al 0 (m+1+(p+1)))<|vr 3 (i6 (↑(p+1)-1))<|vs 45 (iD (↑(p+1)-1)) (iD p)<|vr 1 ((0:Int)<=(p:Int)/\(p:Int)<(↑(Aa rows-(m+1)):Int))<|vs 46 (Al 0 (m+1+Am (p:Int)*1)) (Al 0 (m+1+p))<|vr 1 (0<Aa (Ag (m+1+(p+1))<|AC<|zCr<|Ad zAd R))<|vsh 42 hx<|vr 1 (0<Aa (Ag (m+1+p)<|AC<|zCr<|Ad zAd R))<|vsh 47 hy<|vc hcm<|veT<|vt<|vA<|vr 5 ((0:Int)<=(↑(p+1):Int)/\(↑(p+1):Int)<(↑(Aa rows-(m+1)):Int))<|vs 54 (Al 0 (m+1+Am (↑(p+1):Int)*1)) (Al 0 (m+1+(p+1)))<|vr 1 (0<Aa (Ag (m+1+(p+1))<|AC<|zCr<|Ad zAd R))<|vsh 55 hx<|vr 1 ((0:Int)<=(k:Int)/\(k:Int)<↑(Aa rows))<|vo 56 0 k<|vr 1 (AY (zCr<|Ad zAd R)=Ac/\Ab=Ab/\1=1/\k+1<=Aa (AC<|zCr<|Ad zAd R)/\¬0∈[])<|vb 0 (Aj (setAt (AC<|zCr<|Ad zAd R) k<|cellsOf<|zAd<|Ao R (m+1+(p+1)) []) (AJ<|zCr<|Ad zAd R) (AK<|zCr<|Ad zAd R) Ab Ac<|Au<|zCr<|Ad zAd R) (Aj (Ad zAd<|List.set R k<|Ao R (m+1+(p+1)) []) (39:TypeId) 1 Ab Ac Ak) (hd:=by simp(disch:=omega) only[cellsOf,setAt,hst])<|veT<|zB rfl<|vr 3 (i6 (↑k+1))<|vnil<|zD<|vN<|zB rfl<|vr 3 (i6 (↑(p+1)+1))<|vnil<|zC<|⟨p+1+1,k+1,R.set k<|R.getD (m+1+(p+1)) [],⟨by omega,by omega,by omega,by omega,by rw[List.length_set];exact q4,by rw[ht2];exact ht.symm,hms,λj hj=>by rw[hgs j (by omega)];exact q7 j (by omega)⟩,by omega,?_⟩;refine vk 1 ?_;exact zK6
 obtain rfl:q=rows.length-(m+1):=by omega
 rw[show m+1+(rows.length-(m+1))=rows.length by omega,Bt]at q5;have hkl:(ddG rows).length=k:=by rw[<-q5,A8];omega
 rw[hkl,<-q5];have hcl:setAt (R.map zAd) k (repL (rows.length-k) [.val (.slice AE 0 0)])=(R.take k).map zAd++A4 (rows.length-k) (.val (.slice AE 0 0)):=by
  have h1:=zHi ((R.drop k).map zAd) (repL (rows.length-k) [.val (.slice AE 0 0)]) ((R.take k).map zAd) (by rw[zN5];simp[q4]);grind [List.take_append_drop,Az,A8,BX,zN5]
 refine zA<|vAu<|vF ((↑(Aa rows-(m+1)):Int)<(↑(Aa rows-(m+1)):Int))<|vZ2<|vA<|vr 3 ((0:Int)<=(k:Int)/\True/\True/\0<1/\Am (k:Int)<=Aa rows/\Aa rows<=Aa rows/\Aa rows=Aa rows)<|vs 61 (Ah 0 (0+Am (k:Int)*1) (Aa rows-Am (k:Int)) ((Aa rows-Am (k:Int))*1) Ac) (Ah 0 k (Aa rows-k) (Aa rows-k) Ac)<|ve (AY (zCr<|Ad zAd R)=Ac/\AO (Au<|zCr<|Ad zAd R)=Ac/\0<1/\k+(Aa rows-k)*1<=Aa (AC<|zCr<|Ad zAd R))<|vA<|vr 3 (True/\(0:Int)<=(k:Int)/\True/\0<1/\0<=Am (k:Int)/\Am (k:Int)<=Aa rows/\Am (k:Int)=Am (k:Int))<|vs 64 (Ah 0 0 (Am (k:Int)-0) ((Am (k:Int)-0)*1) Ab) (Ah 0 0 k k Ab)<|veT<|zG<|zH<|zE<|zE<|zH<|zE<|zT (True) [Ah 0 0 k k Ab] (.inr rfl) ?_;rw[<-hcl];exact⟨by kernel_rfl,by kernel_rfl⟩
theorem zQ2(w:List (List Int))(n:Nat)(hn:w.length=n)(hb:n<=1000000000)(hs:Short 1000000000 w):Acts An 253 [.osl 0 0 n n Ab, .clo (.func 254) [] []] [zJt w] [] (.osl 0 0 (ddG w).length (ddG w).length Ab) [padBY (ddG w) n]:=compact_aY w n hn hb hs
def TnY:Par:=⟨TkY.imp,λ_ _=>AE,λ_=>Ac,λ_=>Ac,λ_=>Ac⟩
theorem zYc:zBg An TnY:=by intro t n f h;cases h
theorem zVp(f:α->D)(l:List α)(r:List D):Ap l.length (l.map f++r)=l.map f:=by
 grind
def nrmY(w:List (List Int))(i:Nat):List D:=((w.take i).map (setG icmp)).map zAd++A4 (w.length-i) nilDY
theorem nrm_setY{n:Nat}(h:i<w.length)(hn:n=(setG icmp (w.getD i [])).length):(nrmY w i).set i (.row ((setG icmp (w.getD i [])).map intD) n)=nrmY w (i+1):=by
 subst hn;have e:(((w.take i).map (setG icmp)).map zAd).length=i:=by rw[Az,Az,A8];omega
 obtain⟨m,hm⟩:∃m,w.length-i=m+1:=⟨w.length-i-1,by omega⟩;rw[nrmY,nrmY,hm,show w.length-(i+1)=m by omega,List.replicate_succ];have key:∀(a:List D)(x y:D)(r:List D),a.length=i->(a++x::r).set i y=a++[y]++r:=by
  simp_all
 grind [Bc,zP3]
theorem nrm_lenY(w:List (List Int))(i:Nat)(h:i<=w.length):(nrmY w i).length=w.length:=by
 grind [nrmY,AT,Az,A8,List.length_replicate]
set_option maxHeartbeats 1000000 in
theorem zXt(a b:List D)(n m:Nat)(ha:a.length=n)(hb:b.length=m)(hn:n<=400000)(hm:m<=400000):Pure An 248 [.row [.row a n, .row b m] 2] [] (.row (a++b) (n+m)):=by
 have ht:(a++b).take (n+m)=a++b:=AI (by rw[AT];omega);have hg:=grow_ints (n+m) (by omega);refine zJ zCg mixed Tryz.func248 rfl<|vAu<|vAe<|zA<|vAe<|zF<|zAa<|vAe<|zA<|vt<|vKB<|vA<|ve (ix (0:Int) (↑(2:Nat):Int) ([Ae a n,Ae b m]≠[])/\0<2)<|vA<|vr 4 (i6 ((0:Int)+(n:Int)))<|vs 18 (iD ((0:Int)+(n:Int))) (iD (n:Int)) (hd:=by simp(disch:=omega) only[Int.zero_add])<|veT<|vAe<|vF ((n:Int)<0)<|zL<|zD<|vN<|zB rfl<|vr 2 (i6 ((0:Int)+(1:Int)))<|vnil<|zC<|zAa<|vAe<|zA<|vt<|vKB<|vA<|ve (ix (1:Int) (↑(2:Nat):Int) ([Ae a n,Ae b m]≠[])/\0<1)<|vA<|ve (i6 ((n:Int)+(m:Int)))<|vAe<|vF ((↑(n+m):Int)<0)<|zL<|zD<|vN<|zB rfl<|vr 2 (i6 ((1:Int)+(1:Int)))<|vnil<|zC<|zAa<|vAe<|zA<|vf<|vZ2<|vA<|vrT 1<|vn (hg)<|veT<|zA<|vAe<|zF<|zAa<|vAe<|zA<|vt<|vKB<|vA<|ve (ix (0:Int) (↑(2:Nat):Int) ([Ae a n,Ae b m]≠[])/\0<2)<|zB rfl<|vr 4 (Ab=Ab/\0=0/\0=0/\3=3/\1=1/\Aa a=n*1/\0<1/\0<8/\3=3/\(0+n)*8<=140737488355328/\1=1/\Ac=Ac/\(Ac=Ac\/Ac=Ab))<|vs 6 (Ah 0 0 (0+n) ((0+n)*1) Ab) (Ah 0 0 n n Ab)<|vnil<|zD<|vN<|zB rfl<|vr 2 (i6 ((0:Int)+(1:Int)))<|vnil<|zC<|zAa<|vAe<|zA<|vt<|vKB<|vA<|ve (ix (1:Int) (↑(2:Nat):Int) ([Ae a n,Ae b m]≠[])/\0<1)<|zB rfl<|vr 4 (AS (Aj a 3 1 Ab Ac Ak)=Ab/\Aa a=n*1/\n=n*1/\AJ (Aj a 3 1 Ab Ac Ak)=3/\AK (Aj a 3 1 Ab Ac Ak)=1/\Aa b=m*1/\0<1/\0<8/\3=3/\(n+m)*8<=140737488355328/\1=1/\AO (Au<|Aj a 3 1 Ab Ac Ak)=Ac/\(Ac=Ac\/AQ (Au<|Aj a 3 1 Ab Ac Ak)=Ab))<|vs 6 (Ah 0 0 (n+m) ((n+m)*1) Ab) (Ah 0 0 (n+m) (n+m) Ab)<|vnil<|zD<|vN<|zB rfl<|vr 2 (i6 ((1:Int)+(1:Int)))<|vnil<|zC<|zAa<|vAe<|zA<|vf<|vZ2<|vAe<|zG<|zBt (True) (Ae (Ap (n+m)<|Ag 0 (a++b)) (n+m)) (Ae (a++b) (n+m)) (.inr rfl) (by simp(disch:=omega) only[AM,ht]) rfl
set_option maxHeartbeats 1000000 in
theorem zZz(a b:List D)(n m:Nat)(ha:a.length=n)(hb:b.length=m)(hn:n<=400000)(hm:m<=400000):Pure An 247 [.row [.row a n, .row b m] 2] [] (.row (a++b) (n+m)):=by
 have ht:(a++b).take (n+m)=a++b:=AI (by rw[AT];omega);have hg:=grow_why (n+m) (by omega);refine zJ zCg mixed Tryz.func247 rfl<|vAu<|vAe<|zA<|vAe<|zF<|zAa<|vAe<|zA<|vt<|vKB<|vA<|ve (ix (0:Int) (↑(2:Nat):Int) ([Ae a n,Ae b m]≠[])/\0<2)<|vA<|vr 4 (i6 ((0:Int)+(n:Int)))<|vs 18 (iD ((0:Int)+(n:Int))) (iD (n:Int)) (hd:=by simp(disch:=omega) only[Int.zero_add])<|veT<|vAe<|vF ((n:Int)<0)<|zL<|zD<|vN<|zB rfl<|vr 2 (i6 ((0:Int)+(1:Int)))<|vnil<|zC<|zAa<|vAe<|zA<|vt<|vKB<|vA<|ve (ix (1:Int) (↑(2:Nat):Int) ([Ae a n,Ae b m]≠[])/\0<1)<|vA<|ve (i6 ((n:Int)+(m:Int)))<|vAe<|vF ((↑(n+m):Int)<0)<|zL<|zD<|vN<|zB rfl<|vr 2 (i6 ((1:Int)+(1:Int)))<|vnil<|zC<|zAa<|vAe<|zA<|vf<|vZ2<|vA<|vrT 1<|vn (hg)<|veT<|zA<|vAe<|zF<|zAa<|vAe<|zA<|vt<|vKB<|vA<|ve (ix (0:Int) (↑(2:Nat):Int) ([Ae a n,Ae b m]≠[])/\0<2)<|zB rfl<|vr 4 (Ab=Ab/\0=0/\0=0/\39=39/\1=1/\Aa a=n*1/\0<1/\0<24/\39=39/\(0+n)*24<=140737488355328/\1=1/\Ac=Ac/\(Ac=Ac\/Ac=Ab))<|vs 6 (Ah 0 0 (0+n) ((0+n)*1) Ab) (Ah 0 0 n n Ab)<|vnil<|zD<|vN<|zB rfl<|vr 2 (i6 ((0:Int)+(1:Int)))<|vnil<|zC<|zAa<|vAe<|zA<|vt<|vKB<|vA<|ve (ix (1:Int) (↑(2:Nat):Int) ([Ae a n,Ae b m]≠[])/\0<1)<|zB rfl<|vr 4 (AS (Aj a 39 1 Ab Ac Ak)=Ab/\Aa a=n*1/\n=n*1/\AJ (Aj a 39 1 Ab Ac Ak)=39/\AK (Aj a 39 1 Ab Ac Ak)=1/\Aa b=m*1/\0<1/\0<24/\39=39/\(n+m)*24<=140737488355328/\1=1/\AO (Au<|Aj a 39 1 Ab Ac Ak)=Ac/\(Ac=Ac\/AQ (Au<|Aj a 39 1 Ab Ac Ak)=Ab))<|vs 6 (Ah 0 0 (n+m) ((n+m)*1) Ab) (Ah 0 0 (n+m) (n+m) Ab)<|vnil<|zD<|vN<|zB rfl<|vr 2 (i6 ((1:Int)+(1:Int)))<|vnil<|zC<|zAa<|vAe<|zA<|vf<|vZ2<|vAe<|zG<|zBt (True) (Ae (Ap (n+m)<|Ag 0 (a++b)) (n+m)) (Ae (a++b) (n+m)) (.inr rfl) (by simp(disch:=omega) only[AM,ht]) rfl
theorem zQ7{c:α->α->Int}(l:List α):(zDf c l).length=l.length:=(zEp l).length_eq
theorem dd_sort_iY(l:List Int):ddG (zDf icmp l)=setG icmp l:=ddG_sort zHu l
theorem dd_sort_wY(l:List (List Int)):ddG (zDf lcmp l)=setG lcmp l:=ddG_sort lcmp_cm l
theorem zXu(l:List Int):(BC l).length<=l.length:=by
 unfold BC Lib.compactUpTo;grind
abbrev vIY(l:List Int):List Value:=l.map (AF .i64)
theorem zT5{n:Nat}(he:st[k]?=Aq e)(ha:e.arr=Ab)(hkd:e.kd= .plain)(hf:e.fz=Ac)(hc:e.cells=(vIY zs).map .val)(hn:zs.length=n)(hb:n<=1000000):
  Acts An 250 [.osl k 0 n n wh] st [] (.osl k 0 (BC zs).length (BC zs).length wh) (st.set k {e with cells:=(vIY (BC zs++A4 (n-(BC zs).length) 0)).map .val}):=by
 have hcl:=zXu zs;refine acts_row he ha hkd hf hc (by simp[hn]) (by simp;omega) (by omega) (λv hv=>by obtain⟨z,_,rfl⟩:=Av.1 hv;rfl) (λ_ a c w=>Tryz.slices_Compact_int_empty a c w) (λh0 b c w h1 h2 h3=>?_);refine(Tryz.slices_Compact_int_cells b 0 n c zs w (by omega) (by omega) h3 (λj hj=>?_) h2).mono ?_;all_goals grind
theorem sort_iY(l:List Int)(k n:Nat)(wh:Bool)(st:List Bk)(hs:st[k]?=Aq ⟨l.map intD,3,1,Ab,Ac, .plain⟩)(hn:l.length=n)(hb:n<=1000000):Acts An 249 [.osl k 0 n n wh] st [] (.val (.tuple #[])) (st.set k ⟨(zDf icmp l).map intD,3,1,Ab,Ac, .plain⟩):=sort_ints hs rfl rfl rfl rfl hn (by omega)
theorem compact_iY(l:List Int)(k n:Nat)(wh:Bool)(st:List Bk)(hs:st[k]?=Aq ⟨(zDf icmp l).map intD,3,1,Ab,Ac, .plain⟩)(hn:l.length=n)(hb:n<=1000000):Acts An 250 [.osl k 0 n n wh] st [] (.osl k 0 (setG icmp l).length (setG icmp l).length wh) (st.set k ⟨(setG icmp l).map intD++A4 (n-(setG icmp l).length) (intD 0),3,1,Ab,Ac, .plain⟩):=by
 have h:=zT5 (wh:=wh) hs rfl rfl rfl (zs:=zDf icmp l) (by rw[zPz]) (by rw[zQ7];exact hn) hb;rw[compact_dd,dd_sort_iY]at h;have e1:(vIY (setG icmp l++A4 (n-(setG icmp l).length) 0)).map Ar=(setG icmp l).map intD++A4 (n-(setG icmp l).length) (intD 0):=by simp[Cp]
 rwa[e1]at h
theorem sort_wY(w:List (List Int))(i n:Nat)(wh:Bool)(hi:w.length<=i)(hn:w.length=n)(hb:n<=1000000000)(hs:Short 1000000000 w):Acts An 251 [.osl 0 0 n n wh, .clo (.func 252) [] []] [⟨nrmY w i,39,1,Ab,Ac, .plain⟩] [] (.tup []) [zJt (zDf lcmp (w.map (setG icmp)))]:=by
 have e:nrmY w i=(w.map (setG icmp)).map zAd:=by
  simp_all [nrmY,AI]
 grind [zYp,zN0]
theorem cmpf_wY(w:List (List Int))(n:Nat)(hn:w.length=n)(hb:n<=1000000000)(hs:Short 1000000000 w):Acts An 253 [.osl 0 0 n n Ab, .clo (.func 254) [] []] [zJt (zDf lcmp (w.map (setG icmp)))] [] (.osl 0 0 (wset w).length (wset w).length Ab) [padBY (wset w) n]:=by
 have:=zQ2 (zDf lcmp (w.map (setG icmp))) n (by rw[zQ7];simpa using hn) hb (λs h=>zN0 hs s ((zEp _).mem_iff.1 h))
 rw[dd_sort_wY]at this;exact this
set_option maxHeartbeats 2000000 in
theorem zH9(w:List (List Int))(n:Nat)(hn:w.length=n)(hb:n<=1000000000)(hs:Short 100000 w):Pure An 246 [.row (w.map zAd) n] [] (whyD (wset w)):=by
 subst hn;have hs2:Short 1000000000 w:=λs h=>by have:=hs s h;omega
 have r0:repL w.length [nilDY]=nrmY w 0:=by rw[zN5,nrmY];simp
 refine zJ zYc mixed Tryz.func246 rfl<|vAu<|vA<|vr 3 ((0:Int)<=(Aa w:Int)/\(Aa w:Int)<=(Aa w:Int)/\(↑(24:Nat):Int)*(Aa w:Int)<=(281474976710656:Int)/\(Aa w:Int)<=(281474976710656:Int)/\0<1/\1=1)<|vb 0 (Aj (repL (Am (Aa w:Int)) [nl]) 39 1 Ab Ac<|kdOf Ac) (Aj (nrmY w 0) 39 1 Ab Ac<|kdOf Ac)<|vrT 1<|vs 3 (Ah 0 0 (Am (Aa w:Int)) (Am (Aa w:Int)*1) Ab) (Ah 0 0 (Aa w) (Aa w) Ab)<|veT<|zA<|vAe<|zF<|zN (λ(i:Nat)=>fr 31 [(0,Ae (Ad zAd w)<|Aa w),(2,nl),(3,Ah 0 0 (Aa w) (Aa w) Ab),(10,iD (Aa w:Int)),(11,iD (i:Int))]) (λi=>[⟨nrmY w i,39,1,Ab,Ac,.plain⟩]) (λi=>w.length-i) (λi=>i<=w.length) 0 ?_ ?_ ?_
 ·omega
 ·refine vk 1
 rintro i h1;rcases Ax i w.length with h2|h2
 ·have s1:=hs.get i;have s2:=set_len' (w.getD i []);have hx:=zK7 w i h2;have hne:w.map zAd≠[]:=zV;have hset:=nrm_setY (w:=w) (i:=i) h2 rfl;have hnl:=nrm_lenY w i h1;have hcl:=zZ3 ((w.getD i []).map intD) (w.getD i []).length (by simp) (by omega);rw[BR]at hcl;have hso:=sort_iY (w.getD i []) 1 (w.getD i []).length Ab [⟨nrmY w i,39,1,Ab,Ac, .plain⟩,⟨(w.getD i []).map intD,3,1,Ab,Ac, .plain⟩] rfl rfl (by omega);have hco:=compact_iY (w.getD i []) 1 (w.getD i []).length Ab [⟨nrmY w i,39,1,Ab,Ac, .plain⟩,⟨(zDf icmp (w.getD i [])).map intD,3,1,Ab,Ac, .plain⟩] rfl rfl (by omega);have htp:Ap (setG icmp (w.getD i [])).length ((setG icmp (w.getD i [])).map intD++A4 ((w.getD i []).length-(setG icmp (w.getD i [])).length) (intD 0))=(setG icmp (w.getD i [])).map intD:=zVp _ _ _;generalize w.getD i []=s at*;generalize setG icmp s=g at*;refine vAu<|zA<|vT ((i:Int)<↑(Aa w))<|vKB<|vAe<|vA<|vr 3 (ix ↑i ↑(Aa w) (Ad zAd w≠[]))<|vp 16 i (Ad zAd w)<|vr 1 (0<Aa (Ag i<|Ad zAd w))<|vsh 17 hx<|vn hcl<|veT<|vA<|vrT 1<|vnt [Aj (nrmY w i) (39:TypeId) 1 Ab Ac Ak,Aj (Ad intD s) (3:TypeId) 1 Ab Ac Ak]<|zAi [] [] [Ah 1 0 (Aa s) (Aa s) Ab] [Ah 1 0 (Aa s) (Aa s) Ab] (Bf _) (by exact hso) ?_;refine v0s<|veT<|zB rfl<|vrT 3<|vnt [Aj (nrmY w i) 39 1 Ab Ac Ak,Aj (Ad intD<|zDf icmp s) 3 1 Ab Ac Ak]<|zAi [] [] [Ah 1 0 (Aa s) (Aa s) Ab] [Ah 1 0 (Aa s) (Aa s) Ab] (Bf _) (by exact hco) ?_;refine v0s<|vr 1 ((0:Int)<=(i:Int)/\(i:Int)<↑(Aa w))<|vo 25 0 i<|vr 1 (Ac=Ac/\Ab=Ab/\1=1/\i+1<=Aa (nrmY w i)/\¬0∈[1])<|vb 0 (Aj (setAt (nrmY w i) i<|cellsOf<|Ae (Ap (Aa g)<|Ag 0 (Ad intD g++A4 (Aa s-Aa g) (iD 0)))<|Aa g) 39 1 Ab Ac Ak) (Aj (List.set (nrmY w i) i<|zAd g) 39 1 Ab Ac Ak)<|vnil<|zD<|vN<|zB rfl<|vr 2 (i6 (↑i+1))<|vnil<|zC<|⟨i+1,by omega,by omega,?_⟩;rw[<-hset];refine vk 1
 obtain rfl:i=w.length:=by omega
 have hsw:=sort_wY w w.length w.length Ab (Bd _) rfl hb hs2;have hcw:=cmpf_wY w w.length rfl hb hs2;have htp:Ap (wset w).length ((wset w).map zAd++A4 (w.length-(wset w).length) nilDY)=(wset w).map zAd:=zVp _ _ _;refine vAu<|zA<|vF ((Aa w:Int)<↑(Aa w))<|vZ2<|vA<|vrT 1<|vnt [Aj (nrmY w<|Aa w) (39:TypeId) 1 Ab Ac Ak]<|zAi [] [] [Ah 0 0 (Aa w) (Aa w) Ab,AP (Fn.func 252) [] []] [Ah 0 0 (Aa w) (Aa w) Ab,AP (Fn.func 252) [] []] (Bf _) (by exact hsw) ?_;refine v0s<|veT<|vA<|vrT 1<|vnt [Aj (Ad zAd<|zDf lcmp<|Ad (setG icmp) w) 39 1 Ab Ac Ak]<|zAi [] [] [Ah 0 0 (Aa w) (Aa w) Ab,AP (Fn.func 254) [] []] [Ah 0 0 (Aa w) (Aa w) Ab,AP (Fn.func 254) [] []] (Bf _) (by exact hcw) ?_;refine v0s<|veT<|zG<|zBt (True) (Ae (Ap (Aa<|wset w)<|Ag 0 (Ad zAd (wset w)++A4 (Aa w-Aa (wset w)) nilDY))<|Aa<|wset w) (Ae (Ad zAd<|wset w)<|Aa<|wset w) (.inr rfl) (by simp(disch:=omega) only[AM,htp]) rfl
theorem zXs(a b:List (List Int))(ha:a.length<=400000)(hb:b.length<=400000):Pure An 247 [.row [whyD a,whyD b] 2] [] (whyD (a++b)):=by
 have h:=zZz (a.map zAd) (b.map zAd) a.length b.length (by simp) (by simp) ha hb;grind
theorem zT4(a b:List Int)(ha:a.length<=400000)(hb:b.length<=400000):Pure An 248 [.row [zAd a,zAd b] 2] [] (zAd (a++b)):=by
 have h:=zXt (a.map intD) (b.map intD) a.length b.length (by simp) (by simp) ha hb;grind
set_option maxHeartbeats 1000000 in
theorem padd_cY(a b:List (List Int))(n m:Nat)(hn:a.length=n)(hm:b.length=m)(ha:n<=20000)(hb:m<=20000)(h1:Short 10000 a)(h2:Short 10000 b):Pure An 242 [.agg [], .row (a.map zAd) n, .row (b.map zAd) m] [] (whyD (wset (a++b))):=by
 subst hn hm;have h3:Short 100000 (a++b):=λs h=>by have:=short_app h1 h2 s h;omega
 refine zJ zYc mixed Tryz.func242 rfl<|vAu<|vA<|vr 3 (aE_)<|vc (zXs a b (by omega) (by omega))<|vc (zH9 (a++b) _ rfl (by simp;omega) h3)<|veT<|zG<|vret (True)<|.inr rfl
theorem pzero_cY:Pure An 245 [.agg []] [] (whyD []):=by
 refine zJ zYc mixed Tryz.func245 rfl<|vAu<|vA<|ve (True/\0<1/\1=1/\0<=16777216/\0<=9223372036854775807)<|zG<|vret (True)<|.inr rfl
theorem pone_cY:Pure An 244 [.agg []] [] (whyD [[]]):=by
 refine zJ zYc mixed Tryz.func244 rfl<|vAu<|vA<|ve ((True/\0<1/\1=1/\0<=16777216/\0<=9223372036854775807)/\(1=1/\1<=1/\True)/\0<1/\1=1/\1<=16777216/\1<=9223372036854775807)<|zG<|vret (True)<|.inr rfl
theorem take_whyLY(l:List (List Int)):Ap l.length (l.map zAd)=l.map zAd:=AI (by simp)
set_option maxHeartbeats 2000000 in
theorem pmul_cY(a b:List (List Int))(n m:Nat)(hn:a.length=n)(hm:b.length=m)(ha:n<=20000)(hb:m<=20000)(h1:Short 1000 a)(h2:Short 1000 b):Pure An 243 [.agg [], .row (a.map zAd) n, .row (b.map zAd) m] [] (whyD (wset (zLq (wset a) (wset b)))):=by
 subst hn hm;have l1:=zM5 a;have l2:=zM5 b;have k1:=zQ9 h1;have k2:=zQ9 h2;have g1:Short 100000 a:=λs h=>by have:=h1 s h;omega
 have g2:Short 100000 b:=λs h=>by have:=h2 s h;omega
 refine zJ zYc mixed Tryz.func243 rfl<|vAu<|vA<|vrT 1<|vc (zH9 a _ rfl (by omega) g1)<|vrT 1<|vc (zH9 b _ rfl (by omega) g2)<|veT<|vAe<|zA<|vAe<|zF ?_;generalize wset a=x at*;generalize wset b=y at*;refine zN (λ(i:Nat)=>fr 41 [(1,Ae (Ad zAd x)<|Aa x),(2,Ae (Ad zAd y)<|Aa y),(6,nl),(7,Ah 1 0 (Aa<|zB4 x y i 0) (Aa<|zB4 x y i 0) Ab),(15,iD<|Aa x),(16,iD i)]) (λi=>[⟨[],84,0,Ac,Ac,.plain⟩,zCr<|(zB4 x y i 0).map zAd]) (λi=>x.length-i) (λi=>i<=x.length) 0 ?_ ?_ ?_
 ·omega
 ·refine vk 1
 rintro i i1;rcases Ax i x.length with i2|i2
 ·have n1:x.map zAd≠[]:=zV;refine vAu<|zA<|vT ((i:Int)<↑(Aa x))<|vKB<|vAe<|vAe<|zF<|zN (λ(j:Nat)=>fr 41 [(1,Ae (Ad zAd x)<|Aa x),(2,Ae (Ad zAd y)<|Aa y),(6,nl),(7,Ah 1 0 (Aa<|zB4 x y i j) (Aa<|zB4 x y i j) Ab),(8,iD i),(15,iD<|Aa x),(16,iD i),(20,iD<|Aa y),(21,iD j)]) (λj=>[⟨[],84,0,Ac,Ac,.plain⟩,zCr<|(zB4 x y i j).map zAd]) (λj=>y.length-j) (λj=>j<=y.length) 0 ?_ ?_ ?_
  ·omega
  ·refine vk 2
  rintro j j1;have s3:=zPd x y i j i1 j1;have s4:i*y.length<=x.length*y.length:=mul_le i1;have s5:x.length*y.length<=20000*y.length:=mul_le (by omega);have pl:(Ad zAd (zB4 x y i j)).length=(zB4 x y i j).length:=Az ..
  rcases Ax j y.length with j2|j2
  ·have s1:=k1.get i;have s2:=k2.get j;have n2:y.map zAd≠[]:=zV;have hx:=zK7 x i i2;have hy:=zK7 y j j2;have hcc:=zT4 (x.getD i []) (y.getD j []) (by omega) (by omega);have e:=prodT_succ x y i j j2;have el:(zB4 x y i (j+1)).length=(zB4 x y i j).length+1:=by rw[e];simp
   have em:(zB4 x y i (j+1)).map zAd=(zB4 x y i j).map zAd++[zAd (x.getD i []++y.getD j [])]:=by rw[e];simp
   generalize x.getD i []=s at*;generalize y.getD j []=r at*;refine vAu<|zA<|vT ((j:Int)<↑(Aa y))<|vKB<|vAe<|vd [0,1,2,3,5,6,7,4,8,9,10,11,12,13]<|vr 4 (ix ↑i ↑(Aa x) (Ad zAd x≠[]))<|vp 27 i (Ad zAd x)<|vr 3 (ix ↑j ↑(Aa y) (Ad zAd y≠[]))<|vp 31 j (Ad zAd y)<|vr 1 (0<Aa (Ag i<|Ad zAd x))<|vsh 28 hx<|vr 1 (0<Aa (Ag j<|Ad zAd y))<|vsh 32 hy<|vr 1 (aE_)<|vc hcc<|vr 3 (ay_ (AS (zCr<|Ad zAd<|zB4 x y i j)=Ab/\Aa (AC<|zCr<|Ad zAd<|zB4 x y i j)=Aa (zB4 x y i j)*1/\Aa (zB4 x y i j)=Aa (zB4 x y i j)*1/\AJ (zCr<|Ad zAd<|zB4 x y i j)=39/\AK (zCr<|Ad zAd<|zB4 x y i j)=1/\1=1/\0<1/\0<24/\39=39/\(Aa (zB4 x y i j)+1)*24<=140737488355328/\1=1/\AO (Au<|zCr<|Ad zAd<|zB4 x y i j)=Ac/\(Ac=Ac\/AQ (Au<|zCr<|Ad zAd<|zB4 x y i j)=Ab)))<|vs 7 (Ah 1 0 (Aa (zB4 x y i j)+1) ((Aa (zB4 x y i j)+1)*1) Ab) (Ah 1 0 (Aa (zB4 x y i j)+1) (Aa (zB4 x y i j)+1) Ab)<|vnil<|zD<|vN<|zB rfl<|vr 2 (i6 (↑j+1))<|vnil<|zC<|⟨j+1,by omega,by omega,?_⟩;rw[el,em];refine vk 2
  obtain rfl:j=y.length:=by omega
  refine vAu<|zA<|vF ((Aa y:Int)<↑(Aa y))<|vY2<|zD<|vN<|zB rfl<|vr 2 (i6 (↑i+1))<|vnil<|zC<|⟨i+1,by omega,by omega,?_⟩;rw[<-prodT_next x y i i2];refine vk 2
 obtain rfl:i=x.length:=by omega
 have s3:=zPd x y x.length 0 (Bd _) (A9 _);have s4:x.length*y.length<=20000*y.length:=mul_le (by omega);have e:zB4 x y x.length 0=zLq x y:=by rw[zB4,Bt,List.take_zero,List.map_nil,Bg]
 have s5:Short 100000 (zB4 x y x.length 0):=λs h=>by have:=short_prod k1 k2 x.length 0 s h;omega
 rw[<-e];have hnw:=zH9 (zB4 x y x.length 0) _ rfl (by omega) s5;have htk:=take_whyLY (zB4 x y x.length 0);generalize zB4 x y x.length 0=pr at*;refine vAu<|zA<|vF ((Aa x:Int)<↑(Aa x))<|vZ2<|vA<|vrT 1<|vcl [Ae (Ap (Aa pr)<|Ag 0<|AC<|zCr<|Ad zAd pr)<|Aa pr] [Ae (Ad zAd pr)<|Aa pr] (LeL.of_eq (by simp(disch:=omega) only[AM,htk])) (by exact hnw)<|veT<|zG<|vret (True)<|.inr rfl
end
section
open Go.RowKit
set_option maxRecDepth 4096
abbrev whD(w:Wh):D:=whyD w.1
instance : Inhabited Wh := ⟨w0⟩
abbrev proD:D:= .ifc 84 (.agg [])
theorem zHv(l:List Wh)(i:Nat)(h:i<l.length):((l.map whD).drop i).headD .unk=whD (l.getD i w0):=zCe whD l w0 i h
theorem asc64:∀(l:List Int)(b:Nat),AscW icmp l->(∀x∈l,(b:Int)<=x/\x<64)->l.length<=64-b
 |[],b,_,_=>A9 _
 | x::l,b,h,k=>by
  unfold AscW at h;rw[Cl]at h;have hx:=k x (A0 ..);have ih:=asc64 l (x.toNat+1) h.2 λy hy=>by
   grind [A1,icmp]
  rw[AL];omega
theorem zSr(a:Wh):Short 64 a.1:=λs hs=>by
 have h1:=nrm_s a hs;have h2:=zH7 zHu s;rw[h1]at h2
 have:=asc64 s 0 h2 λx hx=>by
  have:=a.2.2 s hs x hx
  omega
 omega
theorem wzero_c(z:Wh)(hz:z=w0):Pure An 245 [.agg []] [] (whD z):=by
 subst hz;exact pzero_cY
theorem wone_c(o:Wh)(ho:o=w1):Pure An 244 [.agg []] [] (whD o):=by
 subst ho;exact pone_cY
theorem wadd_c(a b:Wh)(ha:okW a)(hb:okW b):Pure An 242 [.agg [],whD a,whD b] [] (whD (Sw.add a b)):=by
 have ha:a.1.length<16384:=ha;have hb:b.1.length<16384:=hb;exact padd_cY a.1 b.1 _ _ rfl rfl (by omega) (by omega) (λs hs=>by have:=zSr a s hs;omega) (λs hs=>by have:=zSr b s hs;omega)
theorem wmul_c(a b:Wh)(ha:okW a)(hb:okW b):Pure An 243 [.agg [],whD a,whD b] [] (whD (Sw.mul a b)):=by
 have ha:a.1.length<16384:=ha;have hb:b.1.length<16384:=hb;have h:=pmul_cY a.1 b.1 _ _ rfl rfl (by omega) (by omega) (λs hs=>by have:=zSr a s hs;omega) (λs hs=>by have:=zSr b s hs;omega);rw[a.2.1,b.2.1]at h;exact h
abbrev FnW:Type:=List Nat×List (Rw×Wh)
def zD4(U:List Nat)(o:FnW):List Nat×List (List Va):=(zBo (λv=>(msk o.1&&&msk U).testBit v) U,allK ((o.2.map (·.1)).map λr=>zQ r (zBo (λv=>(msk o.1&&&msk U).testBit v) o.1)))
def faNW(o:FnW):Fa Wh:=⟨o.1,o.2⟩
theorem flt_okW{U:List Nat}(hU:Asc U){o:FnW}(ho:Asc o.1)(s:List Va):decide (zQ s (zD4 U o).1∈(zD4 U o).2)=okO U s (faNW o):=by
 rw[BE];simp only[zD4,decide_eq_true_eq,zLd,Av,Bp,okO,BV,A3,faNW,Function.comp];have e:U.filter (λv=>(msk o.1&&&msk U).testBit v)=o.1.filter (λv=>(msk o.1&&&msk U).testBit v):=zZn hU ho λv=>by
  rw[zMb];simp only[Bm,decide_eq_true_eq];grind
 have key:∀q:Rw×Wh,zQ q.1 (zBo (λv=>(msk o.1&&&msk U).testBit v) o.1)=zQ s (zBo (λv=>(msk o.1&&&msk U).testBit v) U)↔∀v∈o.1,v∈U->asg o.1 q.1 v=asg U s v:=by
  intro q;rw[zFn ho.nd,zFn hU.nd,e,zE4];simp only[Bn,zMb,Bm,decide_eq_true_eq];grind
 constructor
 ·rintro⟨q,hq,h⟩;exact⟨q,hq,λv hv=>decide_eq_true ((key q).1 h v hv)⟩
 rintro⟨q,hq,h⟩;exact⟨q,hq,(key q).2 λv hv=>of_decide_eq_true (h v hv)⟩
section
variable(A B:List Nat)(lb:List (Rw×Wh))(ok:Rw->Bool)
def zHb(p:Rw×Wh):List (Rw×Wh):=lb.filter λq=>mt A p.1 B q.1
def prQW(p q:Rw×Wh):Rw×Wh:=(mg A p.1 B q.1,Sw.mul p.2 q.2)
def zD2(p:Rw×Wh)(l:List (Rw×Wh)):List (Rw×Wh):=(l.map (prQW A B p)).filter λs=>ok s.1
theorem zPc(la:List (Rw×Wh)):(zB9 Sw.mul A la B lb).filter (λp=>ok p.1)=la.flatMap λp=>zD2 A B ok p (zHb A B lb p):=by
 unfold zB9 zD2 zHb prQW;rw[List.filter_flatMap]
variable{A B lb ok}
theorem zY1(p:Rw×Wh)(l:List (Rw×Wh))(t:Nat)(h:t<l.length):zD2 A B ok p (l.take (t+1))=zD2 A B ok p (l.take t)++if ok (mg A p.1 B (l.getD t Ai).1)then[prQW A B p (l.getD t Ai)]else[]:=by
 unfold zD2;rw[Bc h,Cp,List.filter_append,AX,AR h];congr 1;simp only[List.map_cons,List.map_nil,List.filter_cons,List.filter_nil,Cn];rfl
theorem zRf(p:Rw×Wh)(l:List (Rw×Wh)):(zD2 A B ok p l).length<=l.length:=by
 grind [zD2,As,Bj]
theorem zRv(la:List (Rw×Wh)):∀i,((la.take i).flatMap λp=>zD2 A B ok p (zHb A B lb p)).length<=i*lb.length:=by
 induction la with
 |nil=>intro i;simp
 |cons p la ih=>
  intro i;cases i<;>grind [AT,Nat.succ_mul,zRf,zHb,lb,Bj]
theorem zZk(la:List (Rw×Wh))(i:Nat)(h:i<la.length):(la.take (i+1)).flatMap (λp=>zD2 A B ok p (zHb A B lb p))=(la.take i).flatMap (λp=>zD2 A B ok p (zHb A B lb p))++zD2 A B ok (la.getD i Ai) (zHb A B lb (la.getD i Ai)):=by
 grind [Bc,AR]
theorem pos_selW(hA:Asc A)(hB:Asc B)(p:Rw×Wh):(posL ((lb.map (·.1)).map λr=>zQ r (zBo (λv=>(msk A&&&msk B).testBit v) B)) (zQ p.1 (zBo (λv=>(msk A&&&msk B).testBit v) A))).map (λk=>lb.getD k Ai)=zHb A B lb p:=by
 have h:=posn_get lb (λq=>zQ q.1 (zBo (λv=>(msk A&&&msk B).testBit v) B)) (zQ p.1 (zBo (λv=>(msk A&&&msk B).testBit v) A)) (λk hk=>by simp[AX,hk]);rw[Bp];refine Eq.trans h ?_;unfold zHb;refine Cq λq _=>?_;rw[BE,decide_eq_true_eq];exact key_mt hA hB p.1 q.1
end
end
section
open Go.RowKit
attribute [local irreducible] seqW awp zY zZ zR Weak updS zAe retL Pure Acts rP setP setQ cP nP fr
set_option maxRecDepth 4096
set_option maxRecDepth 4096
abbrev fB1W(a b c:D):Bk:=⟨[a,b,c],79,0,Ac,Ac, .plain⟩
set_option maxHeartbeats 1000000 in
theorem zL4(A:List Nat)(n:Nat)(hn:A.length=n)(hl:n<=1000)(hA:∀v∈A,v<32)(x y:List D)(k j:Nat):Pure An 118 [.agg [.row (nsD A) n, .row x k, .row y j]] [] (u32D (msk A)):=by
 subst hn;have hlt:∀i,msk (A.take i)<4294967296:=λi=>zCc λv hv=>hA v (BI hv);refine zJ zCg mixed Tryz.func118 rfl<|zA<|zB rfl<|v0s<|veT<|zA<|zB rfl<|veT<|zA<|zA<|zB rfl<|ve (aK_)<|zF<|zN (λ(i:Nat)=>fr 19 [(2,Ar<|AF AD (0:Int)),(3,u32D<|msk<|Ap i A),(7,Ae (nsD A)<|Aa A),(8,iD (Aa A:Int)),(9,iD (i:Int))]) (λi=>[fB1W (.row (nsD A) A.length) (.row x k)<|.row y j]) (λi=>A.length-i) (λi=>i<=A.length) 0 ?_ ?_ ?_
 ·omega
 ·refine vk 1
 rintro i h1;have hi:=hlt i;rcases Ax i A.length with h2|h2
 ·have h3:=hA _ (zDy A i h2);have h4:=zS9 h3;have h5:=zQw hi h4;refine zA<|zB rfl<|v0s<|veT<|zA<|vT ((i:Int)<(Aa A:Int))<|zL<|zC<|zK<|zA<|zF<|zA<|zB rfl<|vr 1 (ix (i:Int) (Aa A:Int) (nsD A≠[])) ?_ ⟨(by omega),⟨(by omega),(by exact zV)⟩⟩;refine vp 11 (i) (nsD A)<|vr 1 (0<Aa (Ag i<|nsD A))<|vs 12 (A6 (Ag i<|nsD A) Uk) (iD (↑(Ao A i 0):Int)) (hd:=by simp(disch:=omega) only[zA6])<|veT<|zB rfl<|vr 3 ((0:Int)<=(↑(Ao A i 0):Int))<|vs 15 (Ar<|AF AD<|AV AD ((1:Int)*(2:Int)^min (Am (↑(Ao A i 0):Int)) 32)) (dig ((2:Nat)^Ao A i 0)) (hd:=by simp(disch:=omega) only[Bx,zHf])<|vrT 1<|vs 16 (Ar<|AF AD<|AV AD (↑(AW (AB 32 (↑(msk<|Ap i A):Int)|||AB 32 (↑((2:Nat)^Ao A i 0):Int))):Int)) (dig (msk (Ap i A)|||(2:Nat)^Ao A i 0)) (hd:=by simp(disch:=omega) only[zX0,zBw])<|vrT 1<|vnil<|zD<|zC<|zK<|zB rfl<|vr 2 (i6 ((i:Int)+(1:Int)))<|vnil<|zC<|⟨i+1,by omega,by omega,?_⟩;rw[msk_succ A i h2];refine vk 1
 refine zA<|zB rfl<|v0s<|veT<|zA<|vF ((i:Int)<(Aa A:Int))<|zAx<|zP<|zP<|zAm rfl<|zC<|zK<|zA<|zB rfl<|veT<|zG<|vre (True) (dig<|msk<|Ap i A) (.inr rfl) ?_;rw[AI h2]
end
section
open Go.RowKit
attribute [local irreducible] seqW awp zY zZ zR Weak updS zAe retL Pure Acts rP setP setQ cP nP fr
set_option maxRecDepth 4096
theorem less_cW(rows:List (List Va))(n:Nat)(x y:D)(hn:rows.length=n)(i j:Nat)(hi:i<n)(hj:j<n)(hl:∀r∈rows,r.length<=1000000):Pure An 154 [iD i,iD j, .ptr [x, .row (rows.map rowV) n,y]] [] (iD (zA7 rows i j)):=by
 subst hn;have g:∀i,i<rows.length->(rows.getD i []).length<=1000000:=λi hi=>by
  grind
 have g1:=g i hi;have g2:=g j hj;refine zJ zQ3 mixed Tryz.func154 rfl<|zA<|zB rfl<|v0s<|veT<|zA<|vd [0,2,5,7,1,3,4,6,8,9,10,11]<|vr 6 (True/\True/\0<2/\ix (i:Int) (Aa rows:Int) (Ad rowV rows≠[])) (vp 9 (i) (Ad rowV rows)<|vr 1 (0<Aa (Ag i<|Ad rowV rows))<|vs 10 (A6 (Ag i<|Ad rowV rows) Uk) (rowV<|Ao rows i []) (hd:=by simp(disch:=omega) only[zAl])<|vr 2 (0<2/\ix (j:Int) (Aa rows:Int) (Ad rowV rows≠[])) (vp 14 (j) (Ad rowV rows)<|vr 1 (0<Aa (Ag j<|Ad rowV rows))<|vs 15 (A6 (Ag j<|Ad rowV rows) Uk) (rowV<|Ao rows j []) (hd:=by simp(disch:=omega) only[zAl]) ?_) ⟨(by omega),⟨(by omega),⟨(by omega),(by exact zV)⟩⟩⟩) ⟨trivial,trivial,(by omega),⟨(by omega),⟨(by omega),(by exact zV)⟩⟩⟩;refine vca [Ae (zM<|Ao rows i [])<|Aa<|Ao rows i [],Ae (zM<|Ao rows j [])<|Aa<|Ao rows j []] (by exact zDr _ _ _ _ rfl rfl (by omega) (by omega))<|veT<|zG<|vret (True)<|.inr rfl
theorem zZd(b0 b1 b2:Bk)(c:List D):Acts An 178 [.osl 2 0 0 0 Ab, .val (.int .i64 0), .val (.int .i64 0), .clo (.func 154) [] [.own 0 0]] [b0,b1,b2] [] (.tup []) [b0,b1,b2]:=by
 refine zS zQ3 mixed Tryz.func178 rfl (zW2 rfl)<|zA<|zB rfl<|v0s<|ve (i6 ((0:Int)+(1:Int)))<|zF<|zN (λ(i:Nat)=>fr 53 [(0,Ah 2 0 0 0 Ab),(1,iD 0),(2,iD 0),(3,AP (Fn.func (154:FuncId)) [] [Al 0 0]),(8,iD 1)]) (λ(i:Nat)=>[b0,b1,b2]) (λ(i:Nat)=>0) (λ(i:Nat)=>True) 0 ?_ ?_ ?_
 ·trivial
 ·refine vk 3 ?_;exact keep3F
 rintro i-
 refine zA<|zA<|zB rfl<|v0s<|veT<|vf<|zAx<|zP<|zP<|zAm rfl<|zT (True) [] (.inl rfl) ?_;exact⟨by kernel_rfl,by kernel_rfl⟩
theorem pdq0W(b0 b1 b2:Bk)(c:List D)(lim:Int):Acts An 164 [.osl 2 0 0 0 Ab, .val (.int .i64 0), .val (.int .i64 0), .val (.int .i64 lim), .clo (.func 154) [] [.own 0 0]] [b0,b1,b2] [] (.tup []) [b0,b1,b2]:=by
 refine zS zQ3 mixed Tryz.func164 rfl (zW2 rfl)<|zA<|zB rfl<|v0s<|veT<|zA<|zB rfl<|veT<|zF<|zN (λ(i:Nat)=>fr 148 [(0,Ah 2 0 0 0 Ab),(1,iD 0),(2,iD 0),(3,iD lim),(4,AP (Fn.func (154:FuncId)) [] [Al 0 0]),(10,bD Ab),(11,bD Ab)]) (λ(i:Nat)=>[b0,b1,b2]) (λ(i:Nat)=>0) (λ(i:Nat)=>True) 0 ?_ ?_ ?_
 ·trivial
 ·refine vk 3 ?_;exact keep3F
 rintro i-
 refine zF<|zA<|zB rfl<|v0s<|ve (i6 ((0:Int)-(0:Int)))<|zA<|zA<|zB rfl<|veT<|vt<|zA<|zB rfl<|vrT 4<|vnt [b0,b1,b2]<|zAi [] [] [Ah 2 0 0 0 Ab,iD 0,iD 0,AP (Fn.func 154) [] [Al 0 0]] [Ah 2 0 0 0 Ab,iD 0,iD 0,AP (Fn.func 154) [] [Al 0 0]] (Bf _) (by exact zZd _ _ _ []) ?_;refine v0s<|veT<|zG<|zE<|zH<|zE<|zH ?_;refine zT (True) [] (.inr rfl) ?_;exact⟨by kernel_rfl,by kernel_rfl⟩
set_option maxHeartbeats 1000000 in
theorem zYq(A:List D)(a:Nat)(ys:List D)(m:Nat)(rows:List (List Va))(n:Nat)(b1:Bk)(hn:rows.length=n)(hb:n<=1000000)(hl:∀r∈rows,r.length<=1000000)(hd:rows.Nodup):Acts An 143 [.osl 2 0 n n Ab, .clo (.func 154) [] [.own 0 0]] [fB1W (.row A a) (.row (rows.map rowV) n) (.row ys m),b1,intB (nsD (Ay n))] [] (.tup []) [⟨[.row A a, .row (rows.map rowV) n, .row ys m],79,0,Ac,if n=0 then Ac else Ab, .plain⟩,b1,intB (nsD (zCy (zA7 rows) (Ay n)))]:=by
 have hlim:Bv n<4611686018427387904:=Ck (Lib.bitLen_le n 62 (by omega) (by omega)) (by omega);rcases BM n with h0|hpos
 ·subst h0;refine zS zQ3 mixed Tryz.func143 rfl (zW2 rfl)<|zA<|zB rfl<|v0s<|veT<|zB rfl<|vr 4 (u6 (↑(0:Nat):Int))<|vc (blen_c 0 (by omega))<|vrT 1<|vnt [fB1W (Ae A a) (Ae (Ad rowV rows) 0)<|Ae ys m,b1,intB<|nsD<|Ay 0]<|zAi [] [] [Ah 2 0 0 0 Ab,iD 0,iD (↑(0:Nat):Int),iD (↑(0:Nat):Int),AP (Fn.func 154) [] [Al 0 0]] [Ah 2 0 0 0 Ab,iD 0,iD (↑(0:Nat):Int),iD (↑(0:Nat):Int),AP (Fn.func 154) [] [Al 0 0]] (Bf _) (by exact pdq0W _ _ _ [] _) ?_;refine vnil<|zT (True) [] (.inl rfl) ?_;exact⟨rfl,by simp[zCy]⟩
 have ho:=zYv hd;rw[hn]at ho;have hp:=pdq_ints (st:=[fB1W (.row A a) (.row (rows.map rowV) n) (.row ys m),b1,intB (nsD (Ay n))]) (k:=2) (lim:=Bv n) (wh:=Ab) (cf:=zA7 rows) (g:=154) (caps:=[.own 0 0]) (caps':=[.ptr [.row A a, .row (rows.map rowV) n, .row ys m]]) (ks:=[0]) rfl rfl rfl rfl rfl (by simp) hb hpos hlim rfl (by decide) (enters_of Tryz.func154 (by kernel_rfl) rfl) ho
  (λx hx y hy=>less_cW rows n _ _ hn x y (by simpa using hx) (by simpa using hy) hl)
 refine zS zQ3 mixed Tryz.func143 rfl (zW2 rfl)<|zA<|zB rfl<|v0s<|veT<|zB rfl<|vr 4 (u6 (n:Int))<|vc (blen_c n (by omega))<|vrT 1<|vnt [fB1W (Ae A a) (Ae (Ad rowV rows) n)<|Ae ys m,b1,intB<|nsD<|Ay n]<|zAi [] [] [Ah 2 0 n n Ab,iD 0,iD (n:Int),iD (↑(Bv n):Int),AP (Fn.func 154) [] [Al 0 0]] [Ah 2 0 n n Ab,iD 0,iD (n:Int),iD (↑(Bv n):Int),AP (Fn.func 154) [] [Al 0 0]] (Bf _) (by exact hp) ?_;refine vnil<|zT (True) [] (.inl rfl) ?_;refine⟨rfl,?_⟩;first|(rw[if_neg (by omega)];done)|(rw[if_neg (by omega)];rfl)
abbrev zE1(l:List D):Bk:=⟨l,81,1,Ab,Ac, .plain⟩
set_option maxHeartbeats 2000000 in
theorem sortedWW(A:List Nat)(a:Nat)(rows:List (List Va))(vals:List Wh)(n:Nat)(hn:rows.length=n)(hm:vals.length=n)(hb:n<=1000000)(hl:∀r∈rows,r.length<=1000000)(hd:rows.Nodup):
  Pure An 122 [.agg [.row (nsD A) a, .row (rows.map rowV) n, .row (vals.map whD) n]] [] (.agg [.row (nsD A) a, .row (((zCy (zA7 rows) (Ay n)).map λi=>rows.getD i []).map rowV) n, .row (((zCy (zA7 rows) (Ay n)).map λi=>vals.getD i w0).map whD) n]):=by
 have hs:=zYq (nsD A) a (vals.map whD) n rows n (fB1W nl nl nl) hn hb hl hd;refine zJ Tq_ok mixed Tryz.func122 rfl<|zA<|zB rfl<|v0s<|veT<|zA<|zB rfl<|vr 5 (True/\0<2/\(0:Int)<=(n:Int)/\(n:Int)<=(n:Int)/\(↑(8:Nat):Int)*(n:Int)<=(281474976710656:Int)/\(n:Int)<=(281474976710656:Int)/\0<1/\1=1)<|vs 3 (Ah 2 0 (Am (n:Int)) (Am (n:Int)*1) Ab) (Ah 2 0 n n Ab)<|veT<|zA<|zA<|zB rfl<|veT<|zF<|zBp (λ(i:Nat)(c:List Nat)=>fr 56 [(1,Al 0 0),(2,Al 1 0),(3,Ah 2 0 n n Ab),(13,iD (n:Int)),(14,iD (i:Int))]) (λ(i:Nat)(c:List Nat)=>[fB1W (.row (nsD A) a) (.row (rows.map rowV) n)<|.row (vals.map whD) n,fB1W nl nl nl,intB<|nsD c]) (λi c=>n-i) (λ(i:Nat)(c:List Nat)=>i<=n/\c.length=n/\c.take i=(Ay n).take i) 0 (A4 n 0) ?_ ?_ ?_
 ·grind
 ·refine wkn (fr 56 [(1,Al 0 0),(2,Al 1 0),(3,Ah 2 0 n n Ab),(13,iD (↑n:Int)),(14,iD 0)]) [Aj [Ae (nsD A) a,Ae (Ad rowV rows) n,Ae (Ad whD vals) n] 79 0 Ac Ac Ak,Aj [nl,nl,nl] 79 0 Ac Ac Ak,Aj (repL n [iD 0]) 3 1 Ab Ac (kdOf Ac)] (zH1 [(1,1),(2,1),(3,1),(13,1),(14,1)] (Al 0 0=Al 0 0/\Al 1 0=Al 1 0/\Ah 2 0 n n Ab=Ah 2 0 n n Ab/\iD (↑n:Int)=iD (↑n:Int)/\iD 0=iD (↑(0:Nat):Int)) 3 [] (by kernel_rfl) ⟨rfl,rfl,rfl,rfl,(by kernel_rfl)⟩ (by kernel_rfl) (λ_ _=>rfl) (by simp[updB,repL_ns,zEr]))
 rintro i c ⟨h1,h2,h3⟩;rcases Ax i n with h4|h4
 ·refine zA<|zB rfl<|v0s<|veT<|zA<|vT ((i:Int)<(n:Int))<|zL<|zC<|zK<|zA<|zF<|zA<|zB rfl<|veT<|zB rfl<|vr 4 ((0:Int)<=(i:Int)/\(i:Int)<(n:Int))<|vo 20 2 (i)<|vr 1 (AY (intB<|nsD c)=Ac/\Ab=Ab/\1=1/\i+1<=Aa (AC<|intB<|nsD c)/\¬2∈[])<|vnil<|zD<|zC<|zK<|zB rfl<|vr 2 (i6 ((i:Int)+(1:Int)))<|vnil<|zC<|⟨i+1,c.set i i,⟨by omega,by simpa using h2,?_⟩,by omega,?_⟩
  ·have:=zSs 0 (a:=c) (b:=Ay n) (i:=i) (by omega) (by simpa using h4) h3
   grind
  rw[<-set_ns];refine vk 3
 have e:c=Ay n:=by
  grind
 subst e;refine zA<|zB rfl<|v0s<|veT<|zA<|vF ((i:Int)<(n:Int))<|zAx<|zP<|zP<|zAm rfl<|zC<|zK<|zA<|zB rfl<|vrT 2<|vnt [fB1W (Ae (nsD A) a) (Ae (Ad rowV rows) n)<|Ae (Ad whD vals) n,fB1W nl nl nl,intB<|nsD<|Ay n]<|zAi [] [] [Ah 2 0 n n Ab,AP (Fn.func 154) [] [Al 0 0]] [Ah 2 0 n n Ab,AP (Fn.func 154) [] [Al 0 0]] (Bf _) (by exact hs) ?_;refine v0s<|veT<|zA<|zB rfl<|vr 5 (True/\0<3/\((1=1/\1<=3/\True)/\Ab=Ab)/\Ac=Ac/\Ab=Ab/\3=3/\3<=3)<|vnil<|zC<|vnn (fr 56 [(1,Al 0 0),(2,Al 1 0),(3,Ah 2 0 n n Ab),(5,Al 3 0),(25,Al 0 0),(26,Ae (nsD A) a),(27,Aw [Ae (nsD A) a,nl,nl])]) [Aj [Ae (nsD A) a,Ae (Ad rowV rows) n,Ae (Ad whD vals) n] 79 0 Ac (if n=0 then Ac else Ab) Ak,Aj [nl,nl,nl] 79 0 Ac Ac Ak,Aj (nsD<|zCy (zA7 rows)<|Ay n) 3 1 Ab Ac Ak,Aj [Ae (nsD A) a,nl,nl] 79 0 Ac Ac Ak]<|zBh ((Bo (j:=3) (i:=1) (rowB []) rfl rfl rfl rfl).trans<|Bo (j:=3) (i:=2) (zE1 []) rfl rfl rfl rfl) ?_;refine zA<|zA<|zB rfl<|v0s<|veT<|zF ?_;have hol:(zCy (zA7 rows) (Ay n)).length=n:=by rw[(zB5 _ _).length_eq];simp
 have hom:∀i∈zCy (zA7 rows) (Ay n),i<n:=λi h=>by
  grind [zB5]
 generalize zCy (zA7 rows) (Ay n)=od at*;refine zN (λ(t:Nat)=>fr 56 [(1,Al 0 0),(2,Al 1 0),(5,Al 3 0),(28,Ah 2 0 n n Ab),(29,iD (n:Int)),(30,iD (t:Int))]) (λ(t:Nat)=>[⟨[.row (nsD A) a,.row (rows.map rowV) n,.row (vals.map whD) n],79,0,Ac,if n=0 then Ac else Ab,.plain⟩,fB1W nl nl nl,intB<|nsD od,fB1W (.row (nsD A) a) (.osl 4 0 t t Ab)<|.osl 5 0 t t Ab,rowB<|((od.take t).map λi=>rows.getD i []).map rowV,zE1<|((od.take t).map λi=>vals.getD i w0).map whD]) (λt=>n-t) (λ(t:Nat)=>t<=n) 0 ?_ ?_ ?_
 ·omega
 ·refine vk 6
 rintro t h5;rcases Ax t n with h6|h6
 ·have hi:=hom _ (zDy od t (by omega));have e0:od.take (t+1)=od.take t++[od.getD t 0]:=by
   simp_all
  have e1:((od.take (t+1)).map λi=>rows.getD i []).map rowV=((od.take t).map λi=>rows.getD i []).map rowV++[rowV (rows.getD (od.getD t 0) [])]:=by rw[e0];simp
  have e2:((od.take (t+1)).map λi=>vals.getD i w0).map whD=((od.take t).map λi=>vals.getD i w0).map whD++[whD (vals.getD (od.getD t 0) w0)]:=by rw[e0];simp
  focus
   refine zA<|zB rfl<|v0s<|veT<|zA<|vT ((t:Int)<(n:Int))<|zL<|zC<|zK<|zA<|zF<|zA<|zB rfl<|vr 1 ((0:Int)<=(t:Int)/\(t:Int)<(n:Int))<|vo 32 2 (t)<|vr 1 (0<Aa (Ag t<|AC<|intB<|nsD od))<|vs 33 (A6 (Ag t<|AC<|intB<|nsD od) Uk) (iD (↑(Ao od t 0):Int)) (hd:=by simp(disch:=omega) only[zA6])<|veT<|zA<|vd [0,2,4,1,3,5,6,7,8,9,10]<|vr 6 (True/\True/\0<2/\0<2/\ix (↑(Ao od t 0):Int) (n:Int) (Ad rowV rows≠[])) (vp 39 (Ao od t 0) (Ad rowV rows) ?_) ⟨trivial,trivial,(by omega),(by omega),⟨(by omega),⟨(by omega),(by exact zV)⟩⟩⟩;refine vwh 1 [] [] (0<Aa (Ag (Ao od t 0)<|Ad rowV rows)) ?_ ?_;rotate_left;refine vs 40 (A6 (Ag (Ao od t 0)<|Ad rowV rows) Uk) (rowV<|Ao rows (Ao od t 0) []) (hd:=by simp(disch:=omega) only[zAl])<|vr 4 (ay_ ((AS (rowB<|Ad rowV<|Ad (λ(i:Nat)=>Ao rows i [])<|Ap t od)=Ab/\Aa (AC<|rowB<|Ad rowV<|Ad (λ(i:Nat)=>Ao rows i [])<|Ap t od)=t*1/\t=t*1/\AJ (rowB<|Ad rowV<|Ad (λ(i:Nat)=>Ao rows i [])<|Ap t od)=110/\AK (rowB<|Ad rowV<|Ad (λ(i:Nat)=>Ao rows i [])<|Ap t od)=1/\1=1/\0<1/\0<24/\110=110/\(t+1)*24<=140737488355328/\1=1/\AO (Au<|rowB<|Ad rowV<|Ad (λ(i:Nat)=>Ao rows i [])<|Ap t od)=Ac/\(Ac=Ac\/AQ (Au<|rowB<|Ad rowV<|Ad (λ(i:Nat)=>Ao rows i [])<|Ap t od)=Ab))/\True/\AY (Aj [Ae (nsD A) a,Uk,Ah 5 0 t t Ab] 79 0 Ac Ac Ak)=Ac/\aU_))<|vb 3 (Aj [Ae (nsD A) a,Ah 4 0 (t+1) ((t+1)*1) Ab,Ah 5 0 t t Ab] (AJ<|Aj [Ae (nsD A) a,Uk,Ah 5 0 t t Ab] 79 0 Ac Ac Ak) (AK<|Aj [Ae (nsD A) a,Uk,Ah 5 0 t t Ab] 79 0 Ac Ac Ak) Ac Ac<|Au<|Aj [Ae (nsD A) a,Uk,Ah 5 0 t t Ab] 79 0 Ac Ac Ak) (Aj [Ae (nsD A) a,Ah 4 0 (t+1) (t+1) Ab,Ah 5 0 t t Ab] 79 0 Ac Ac Ak)<|veT<|vd [0,2,4,1,3,5,6,7,8,9,10]<|vr 6 (True/\True/\0<1/\0<1/\ix (↑(Ao od t 0):Int) (n:Int) (Ad whD vals≠[])) ?_ ⟨trivial,trivial,(by omega),(by omega),⟨(by omega),⟨(by omega),(by exact zV)⟩⟩⟩;refine vp 49 (Ao od t 0) (Ad whD vals)<|vwh 1 [] [] (0<Aa (Ag (Ao od t 0)<|Ad whD vals)) ?_ ?_;rotate_left;refine vs 50 (A6 (Ag (Ao od t 0)<|Ad whD vals) Uk) (whD<|Ao vals (Ao od t 0) w0) (hd:=by simp(disch:=omega) only[zHv])<|vr 4 (ay_ ((AS (Aj (Ad whD<|Ad (λ(i:Nat)=>Ao vals i w0)<|Ap t od) 81 1 Ab Ac Ak)=Ab/\Aa (Ad whD<|Ad (λ(i:Nat)=>Ao vals i w0)<|Ap t od)=t*1/\t=t*1/\AJ (Aj (Ad whD<|Ad (λ(i:Nat)=>Ao vals i w0)<|Ap t od) 81 1 Ab Ac Ak)=81/\AK (Aj (Ad whD<|Ad (λ(i:Nat)=>Ao vals i w0)<|Ap t od) 81 1 Ab Ac Ak)=1/\1=1/\0<1/\0<24/\81=81/\(t+1)*24<=140737488355328/\1=1/\AO (Au<|Aj (Ad whD<|Ad (λ(i:Nat)=>Ao vals i w0)<|Ap t od) 81 1 Ab Ac Ak)=Ac/\(Ac=Ac\/AQ (Au<|Aj (Ad whD<|Ad (λ(i:Nat)=>Ao vals i w0)<|Ap t od) 81 1 Ab Ac Ak)=Ab))/\True/\AY (Aj [Ae (nsD A) a,Ah 4 0 (t+1) (t+1) Ab,Uk] 79 0 Ac Ac Ak)=Ac/\aV_))<|vb 3 (Aj [Ae (nsD A) a,Ah 4 0 (t+1) (t+1) Ab,Ah 5 0 (t+1) ((t+1)*1) Ab] (AJ<|Aj [Ae (nsD A) a,Ah 4 0 (t+1) (t+1) Ab,Uk] 79 0 Ac Ac Ak) (AK<|Aj [Ae (nsD A) a,Ah 4 0 (t+1) (t+1) Ab,Uk] 79 0 Ac Ac Ak) Ac Ac<|Au<|Aj [Ae (nsD A) a,Ah 4 0 (t+1) (t+1) Ab,Uk] 79 0 Ac Ac Ak) (Aj [Ae (nsD A) a,Ah 4 0 (t+1) (t+1) Ab,Ah 5 0 (t+1) (t+1) Ab] 79 0 Ac Ac Ak)<|vnil<|zD<|zC<|zK<|zB rfl<|vr 2 (i6 ((t:Int)+(1:Int)))<|vnil<|zC ?_;rotate_left
  ·grind
  ·grind
  refine⟨t+1,by omega,by omega,?_⟩;rw[e1,e2];refine vk 6
 refine zA<|zB rfl<|v0s<|veT<|zA<|vF ((t:Int)<(n:Int))<|zAx<|zP<|zP<|zAm rfl<|zC<|zK<|zA<|zB rfl<|ve (aL_)<|zG<|zBt (3<=3) (Aw [Ae (nsD A) a,Ae (Ap t<|Ag 0<|AC<|rowB<|Ad rowV<|Ad (λ(i:Nat)=>Ao rows i [])<|Ap t od) t,Ae (Ap t<|Ag 0<|AC<|zE1<|Ad whD<|Ad (λ(i:Nat)=>Ao vals i w0)<|Ap t od) t]) (Aw [Ae (nsD A) a,Ae (Ap t<|Ad rowV<|Ad (λ(i:Nat)=>Ao rows i [])<|Ap t od) t,Ae (Ap t<|Ad whD<|Ad (λ(i:Nat)=>Ao vals i w0)<|Ap t od) t]) (.inr rfl) (by simp(disch:=omega) only[AM]) ?_ (hc:=by omega);grind
abbrev zAy(l:List (Rw×Wh)):List D:=(l.map (·.1)).map rowV
abbrev zA4(l:List (Rw×Wh)):List D:=(l.map (·.2)).map whD
abbrev fcDW(A:List Nat)(l:List (Rw×Wh)):D:= .agg [.row (nsD A) A.length, .row (zAy l) l.length, .row (zA4 l) l.length]
theorem zVz(A:List Nat)(l:List (Rw×Wh))(hb:l.length<=1000000)(hl:∀p∈l,p.1.length<=1000000)(hd:Ndk l):Pure An 122 [fcDW A l] [] (fcDW A (srtL l)):=by
 have h:=sortedWW A A.length (l.map (·.1)) (l.map (·.2)) l.length (by simp) (by simp) hb (λr hr=>by
  obtain⟨p,hp,rfl⟩:=Av.1 hr;exact hl p hp) (show(l.map (·.1)).Nodup from hd)
 have hi:∀i∈zCy (zA7 (l.map (·.1))) (Ay l.length),i<l.length:=λi h=>by
  grind [zB5]
 have e1:(zCy (zA7 (l.map (·.1))) (Ay l.length)).map (λi=>(l.map (·.1)).getD i [])=(srtL l).map (·.1):=by
  grind [zEn,Bp,BH]
 have e2:(zCy (zA7 (l.map (·.1))) (Ay l.length)).map (λi=>(l.map (·.2)).getD i w0)=(srtL l).map (·.2):=by
  grind [zEn,Bp,BH]
 rw[e1,e2]at h;have e3:=srtL_len hd;grind
set_option maxHeartbeats 1000000 in
theorem zZl(A U:List Nat)(a u nv:Nat)(ha:A.length=a)(hu:U.length=u)(la:a<=32)(lu:u<=32)(hA:∀v∈A,v<32)(hU:∀v∈U,v<32)(rows:List (List Va))(n:Nat)(hn:rows.length=n)(ln:n<=1000000)(hr:∀r∈rows,r.length=a)(hv:∀r∈rows,∀v∈r,Vs v)(y:List D)(m:Nat)(hm:m<4294967296):
  Pure An 121 [.agg [.row (nsD A) a, .row (rows.map rowV) n, .row y nv], .row (nsD U) u,u32D m] [] (.agg (flC (zBo (λv=>(msk A&&&m).testBit v) U,allK (rows.map λr=>zQ r (zBo (λv=>(msk A&&&m).testBit v) A))))):=by
 subst hn ha hu;have hma:=zCc hA;have h1:=zL4 A _ rfl (by omega) hA (rows.map rowV) y rows.length nv;have h5:=zX7 (b:=m) hma;have h2:=zD7 U U _ rfl hU _ h5;have h3:=zD7 A A _ rfl hA _ h5;refine zJ zCg mixed Tryz.func121 rfl<|zA<|zB rfl<|v0s<|veT<|zA<|zB rfl<|vr 1 (3<=3)<|vc (h1)<|vrT 2<|vs 15 (Ar<|AF AD<|AV AD (↑(AW (AB 32 (↑(msk A):Int)&&&AB 32 (m:Int))):Int)) (dig (msk A&&&m)) (hd:=by simp(disch:=omega) only[bv_and,zBw])<|veT<|zA<|zB rfl<|vrT 2<|vc (h2)<|ve (True/\((1=1/\1<=2/\1=1/\2<=2/\True)/\Ab=Ab)/\Ac=Ac/\Ab=Ab/\2=2/\2<=2)<|zA<|zB rfl<|vr 3 (aK_)<|vc (h3)<|veT<|zA<|zA<|zB rfl<|ve (aG_)<|zF ?_;obtain⟨cA,hcA⟩:∃cA,cA=zBo (λv=>(msk A&&&m).testBit v) A:=⟨_,rfl⟩;obtain⟨cU,hcU⟩:∃cU,cU=zBo (λv=>(msk A&&&m).testBit v) U:=⟨_,rfl⟩;have hcl:∀c∈cA,c<A.length:=λc h=>by
  rw[hcA]at h;simpa using(Bn.1 h).1
 have hcn:cA.length<=1000:=by rw[hcA];exact As (Bj _ _) (by simp;omega)
 rw[<-hcA,<-hcU];refine zN (λ(i:Nat)=>fr 39 [(6,Al 1 0),(8,Al 3 0),(9,Ae (nsD cA)<|Aa cA),(26,Ae (Ad rowV rows)<|Aa rows),(27,iD (Aa rows:Int)),(28,iD (i:Int))]) (λi=>[fB1W (.row (nsD A) A.length) (.row (rows.map rowV) rows.length)<|.row y nv,flB1 nl<|.val<|.map AE,mapB<|allK<|(rows.map λr=>zQ r cA).take i,flB1 (.row (nsD cU) cU.length)<|.mref 2]) (λi=>rows.length-i) (λi=>i<=rows.length) 0 ?_ ?_ ?_
 ·omega
 ·refine vk 4
 rintro i h6;rcases Ax i rows.length with h7|h7
 ·have hd:((rows.map rowV).drop i).headD .unk=rowV (rows.getD i []):=zCe rowV rows [] i h7;have hm:rows.getD i []∈rows:=by rw[AX,AR h7];exact Bq h7
  have hk:=zTp (rows.getD i []) cA _ _ rfl rfl (by rw[hr _ hm];exact hcl) (hv _ hm) (ln:=by rw[hr _ hm];omega);have hs:=zX8 (rows.map λr=>zQ r cA) i (by simpa using h7);rw[show(rows.map λr=>zQ r cA).getD i []=zQ (rows.getD i []) cA by simp[AX,h7]]at hs;generalize allK ((rows.map λr=>zQ r cA).take i)=K at*;focus
   refine zA (zB rfl (v0s (veT (zA (vT ((i:Int)<(Aa rows:Int)) (zL (zC (zK (zA (zF (zA (zB rfl (vr 1 (ix (i:Int) (Aa rows:Int) (Ad rowV rows≠[])) ?_ ⟨(by omega),⟨(by omega),(by exact zV)⟩⟩)))))))))))));refine vp 30 (i) (Ad rowV rows) (vr 1 (0<Aa (Ag i (Ad rowV rows))) (vsh 31 hd (veT (vd [0,2,3,1,4,5] (vr 4 (aX_) (vc (hk) (vwh 1 [] [] (AY (mapB K)=Ac/\zAb (A_ (Ba Bb "string" 1 16 Ab 8 8 (Aq (AH (A5 #[]))) Ab #[])) (AH (bs (idR (zQ (Ao rows i []) cA))))=Ab/\BD (Ad kyv K) (zAb (A_ (Ba Bb "string" 1 16 Ab 8 8 (Aq (AH (A5 #[]))) Ab #[])))=Ab/\¬2∈[]) ?_ ?_)))))));rotate_left;refine vnil (zD (zC (zK (zB rfl (vr 2 (i6 ((i:Int)+(1:Int))) (vnil (zC ?_)))))));rotate_left
  ·exact⟨rfl,rfl,zDl _,by simp⟩
  refine⟨i+1,by omega,by omega,?_⟩;rw[hs];have hmp:=mput_b K (zQ (rows.getD i []) cA);refine wkn (fr 39 [(6,Al 1 0),(8,Al 3 0),(9,Ae (nsD cA) (Aa cA)),(11,Ae (zM (Ao rows i [])) (Aa (Ao rows i []))),(26,Ae (Ad rowV rows) (Aa rows)),(27,iD (Aa rows:Int)),(28,iD (↑(i+1):Int)),(32,Al 3 1),(33,D.mref 2),(34,Ae (zM (Ao rows i [])) (Aa (Ao rows i []))),(35,Ae (nsD cA) (Aa cA)),(36,Ar (AH (bs (idR (zQ (Ao rows i []) cA))))),(37,iD (↑(i+1):Int))]) [fB1W (Ae (nsD A) (Aa A)) (Ae (Ad rowV rows) (Aa rows)) (Ae y nv),flB1 nl (Ar (Value.map AE)),mput (mapB K) (Ad kyv K) (AH (bs (idR (zQ (Ao rows i []) cA)))) (bD Ab),flB1 (Ae (nsD cU) (Aa cU)) (D.mref 2)] ?_;rw[hmp];refine vk 4
 refine zA<|zB rfl<|v0s<|veT<|zA<|vF ((i:Int)<(Aa rows:Int))<|zAx<|zP<|zP<|zAm rfl<|zC<|zK<|zA<|zB rfl<|ve (2<=2/\Ac=Ac/\Ab=Ab/\2=2/\2<=2)<|zG<|vre (2<=2) (Aw [Ae (nsD cU)<|Aa cU,D.mfz (Ad kyv<|allK<|Ap i<|Ad (λ(r:List Va)=>zQ r cA) rows)<|Ad (λ(x:List Va)=>bD Ab)<|allK<|Ap i<|Ad (λ(r:List Va)=>zQ r cA) rows]) (.inr rfl) ?_;grind [AI]
abbrev fcCW(f:FnW):List D:=[.row (nsD f.1) f.1.length, .row (zAy f.2) f.2.length, .row (zA4 f.2) f.2.length]
theorem zTw(f:FnW):(fcCW f).length=3:=rfl
structure FVW(f:FnW):Prop where
 asc:Asc f.1
 len:∀p∈f.2,p.1.length=f.1.length
 vs:∀p∈f.2,∀x∈p.1,Vs x
 sz:f.2.length<=1000000
 sm:∀p∈f.2,okW p.2
 nd:Ndk f.2
theorem getD_fstW(l:List (Rw×Wh))(h:k<l.length):(l.map (·.1)).getD k []=(l.getD k Ai).1:=by grind
theorem getD_sndW(l:List (Rw×Wh))(h:k<l.length):(l.map (·.2)).getD k w0=(l.getD k Ai).2:=by grind
set_option maxHeartbeats 8000000 in
theorem zY5(f g:FnW)(os:List FnW)(hf:FVW f)(hg:FVW g)(ho:∀o∈os,FVW o)(hl:os.length<=1000)(hsz:f.2.length*g.2.length<=1000000):
  Pure An 73 [proD,fcDW f.1 f.2,fcDW g.1 g.2, .row (os.flatMap fcCW) os.length] [] (fcDW (un f.1 g.1) (srtL ((zB9 Sw.mul f.1 f.2 g.1 g.2).filter λp=>os.all λo=>okO (un f.1 g.1) p.1 (faNW o)))):=by
 obtain⟨A,la⟩:=f;obtain⟨B,lb⟩:=g;obtain⟨hA,al,av,as',am,nda⟩:=hf;obtain⟨hB,bl,bv,bs',bm,ndb⟩:=hg;simp only at hA al av as' am nda hB bl bv bs' bm ndb hsz⊢;have nA:=zCx hA;have nB:=zCx hB;have hmA:=zCc hA.2;have hmB:=zCc hB.2;have hmo:=zQw hmA hmB;have hma:=zX7 (b:=msk B) hmA;have sA:=zL4 A _ rfl (by omega) hA.2 (zAy la) (zA4 la) la.length la.length;have sB:=zL4 B _ rfl (by omega) hB.2 (zAy lb) (zA4 lb) lb.length lb.length;have hU:=un_asc A B;have hmu:=msk_un hA.2 hB.2;have hmem:=zKr (msk A|||msk B) hmo;rw[hmu,zHp hU]at hmem;have nU:=zCx hU;rw[hmu]at hmo;have cA:=zD7 A A _ rfl hA.2 (msk A&&&msk B) hma;have cB:=zD7 B B _ rfl hB.2 (msk A&&&msk B) hma;obtain⟨U,eU⟩:∃U,U=un A B:=⟨_,rfl⟩;rw[<-eU]at hU hmu hmem nU hmo⊢;refine zJ (T:=Tm) Tm_ok mixed Tryz.func73 rfl<|zA<|zB rfl<|v0s<|veT<|zA<|vd [0,1,2,3,4,5]<|vr 1 (3<=3)<|vc (sA)<|vr 1 (3<=3)<|vc (sB)<|vrT 1<|vs 30 (Ar<|AF AD<|AV AD (↑(AW (AB 32 (↑(msk A):Int)|||AB 32 (↑(msk B):Int))):Int)) (dig<|msk U) (hd:=by simp(disch:=omega) only[zX0,zBw,hmu])<|veT<|zA<|zB rfl<|vrT 1<|vc (hmem)<|ve (((1=1/\1<=3/\True)/\Ab=Ab)/\Ac=Ac/\Ab=Ab/\3=3/\3<=3)<|zA<|zB rfl<|veT<|zA<|zA<|zB rfl<|veT<|zF<|zN (λ(i:Nat)=>fr 147 [(0,proD),(5,Al 0 0),(6,Al 1 0),(8,Al 2 0),(9,dig<|msk U),(10,Al 3 0),(11,Ah 4 0 i (i*2) Ab),(34,Ae (Af fcCW os)<|Aa os),(35,iD (Aa os:Int)),(36,iD (i:Int))]) (λ(i:Nat)=>[fB1W (.row (nsD A) A.length) (.row (zAy la) la.length)<|.row (zA4 la) la.length,fB1W (.row (nsD B) B.length) (.row (zAy lb) lb.length)<|.row (zA4 lb) lb.length,fB1W nl nl nl,fB1W (.row (nsD U) U.length) nl nl,fltB<|((os.take i).map (zD4 U)).flatMap flC]) (λi=>os.length-i) (λ(i:Nat)=>i<=os.length) 0 ?_ ?_ ?_
 ·omega
 ·refine vk 4
 rintro i h1;rcases Ax i os.length with h2|h2
 ·have hom:os.getD i Ai∈os:=by rw[AX,AR h2];exact Bq h2
  obtain⟨hO,ol,ov,os2,_,_⟩:=ho _ hom;have hg2:=zDo zTw os i h2;have hle:=zHc zTw os i h2;have hne:=zEk zTw (by decide) os;have he:((os.take (i+1)).map (zD4 U)).flatMap flC=((os.take i).map (zD4 U)).flatMap flC++flC (zD4 U (os.getD i Ai)):=by
   grind [zBl]
  have hlb:(((os.take i).map (zD4 U)).flatMap flC).length=i*2:=by rw[zHx zJ2];simp;omega
  have nO:=zCx hO;generalize os.getD i Ai=o at*;have hfo:=zZl o.1 U _ _ o.2.length rfl rfl nO nU hO.2 hU.2 (o.2.map (·.1)) _ (by simp) os2 (λr hr=>by
   obtain⟨p,hp,rfl⟩:=Av.1 hr;exact ol p hp) (λr hr=>by
   obtain⟨p,hp,rfl⟩:=Av.1 hr;exact ov p hp) (zA4 o.2) (msk U) hmo
  refine zA<|zB rfl<|v0s<|veT<|zA<|vT ((i:Int)<(Aa os:Int))<|zL<|zC<|zK<|zA<|zF<|zA<|zB rfl<|vr 2 (ix (i:Int) (Aa os:Int) (Af fcCW os≠[])/\3<=Aa (Ag (i*3)<|Af fcCW os))<|vs 39 (Aw<|Ap 3<|Ag (i*3)<|Af fcCW os) (Aw<|fcCW o)<|ve (az_)<|zB rfl<|vr 5 (3<=3/\True/\0<3)<|vc (hfo)<|vr 3 (((2=2/\2<=2/\True)/\0<2/\2=2/\2<=16777216/\1<=9223372036854775807)/\AS (fltB<|Af flC<|Ad (zD4 U)<|Ap i os)=Ab/\Aa (AC<|fltB<|Af flC<|Ad (zD4 U)<|Ap i os)=i*2/\i*2=i*2/\AJ (fltB<|Af flC<|Ad (zD4 U)<|Ap i os)=203/\AK (fltB<|Af flC<|Ad (zD4 U)<|Ap i os)=2/\2=2/\0<2/\0<32/\203=203/\(i+1)*32<=140737488355328/\2=2/\AO (Au<|fltB<|Af flC<|Ad (zD4 U)<|Ap i os)=Ac/\(Ac=Ac\/AQ (Au<|fltB<|Af flC<|Ad (zD4 U)<|Ap i os)=Ab))<|vnil<|zD<|zC<|zK<|zB rfl<|vr 2 (i6 ((i:Int)+(1:Int)))<|vnil<|zC<|⟨i+1,by omega,by omega,?_⟩;rw[he];refine vk 5
 rw[AI h2];obtain rfl:i=os.length:=by omega
 obtain⟨c1,ec1⟩:∃c,c=zBo (λv=>(msk A&&&msk B).testBit v) A:=⟨_,rfl⟩;obtain⟨c2,ec2⟩:∃c,c=zBo (λv=>(msk A&&&msk B).testBit v) B:=⟨_,rfl⟩;rw[<-ec1]at cA;rw[<-ec2]at cB;have hl1:∀c∈c1,c<A.length:=λc h=>by rw[ec1]at h;exact(zG4.1 h).1
 have hl2:∀c∈c2,c<B.length:=λc h=>by rw[ec2]at h;exact(zG4.1 h).1
 have hn1:c1.length<=32:=by rw[ec1];exact As (zJh _ _) nA
 have hn2:c2.length<=32:=by rw[ec2];exact As (zJh _ _) nB
 refine zA<|zB rfl<|v0s<|veT<|zA<|vF ((Aa os:Int)<(Aa os:Int))<|zAx<|zP<|zP<|zAm rfl<|zC<|zK<|zA<|vd [0,1,2,3,4,5]<|vr 1 (3<=3)<|vc (sA)<|vr 1 (3<=3)<|vc (sB)<|vrT 1<|vs 53 (Ar<|AF AD<|AV AD (↑(AW (AB 32 (↑(msk A):Int)&&&AB 32 (↑(msk B):Int))):Int)) (dig (msk A&&&msk B)) (hd:=by simp(disch:=omega) only[bv_and,zBw])<|veT<|zA<|vd [0,2,4,6,1,3,5,7,8,9]<|vr 5 (True/\True/\0<3)<|vc (cA)<|vr 1 (0<3)<|vc (cB)<|veT<|zA<|zB rfl<|veT<|zA<|zA<|zB rfl<|ve (aG_)<|zF ?_;obtain⟨inf,ty⟩:=gty;obtain⟨Lb,eLb⟩:∃L:List Rw,L=(lb.map (·.1)).map λr=>zQ r c2:=⟨_,rfl⟩;have hLb:Lb.length=lb.length:=by rw[eLb];simp
 obtain⟨base,ebase⟩:∃base:List Bk,base=[fB1W (.row (nsD A) A.length) (.row (zAy la) la.length) (.row (zA4 la) la.length),fB1W (.row (nsD B) B.length) (.row (zAy lb) lb.length) (.row (zA4 lb) lb.length),fB1W nl nl nl,fB1W (.row (nsD U) U.length) nl nl,fltB ((os.map (zD4 U)).flatMap flC)]:=⟨_,rfl⟩;have hbb:bBL 5 base=true:=by rw[ebase];rfl
 refine zA0 (λ(k:Nat)(st:List Bk)(ns:List Nat)=>fr 147 [(0,proD),(5,Al 0 0),(6,Al 1 0),(8,Al 2 0),(10,Al 3 0),(11,Ah 4 0 (Aa os) (Aa os*2) Ab),(15,Ae (nsD c1)<|Aa c1),(16,Ae (nsD c2)<|Aa c2),(17,D.mref 5),(64,Ae (zAy lb)<|Aa lb),(65,iD (Aa lb:Int)),(66,iD (k:Int))]) (λ(k:Nat)(st:List Bk)(ns:List Nat)=>st) (λk st ns=>lb.length-k) (λ(k:Nat)(st:List Bk)(ns:List Nat)=>k<=lb.length/\Grp 5 206 3 (Lb.take k) base st ns) 0 [fB1W (.row (nsD A) A.length) (.row (zAy la) la.length)<|.row (zA4 la) la.length,fB1W (.row (nsD B) B.length) (.row (zAy lb) lb.length)<|.row (zA4 lb) lb.length,fB1W nl nl nl,fB1W (.row (nsD U) U.length) nl nl,fltB<|(os.map (zD4 U)).flatMap flC,⟨[],206,0,Ac,Ac,.map []⟩] [] ?_ ?_ ?_
 ·exact⟨by omega,⟨by rw[ebase];rfl,rfl,rfl,List.nodup_nil,λj k r h=>by simp at h⟩⟩
 ·refine vk 6
 rintro k st ns ⟨h3,hG⟩;rcases Ax k lb.length with h4|h4
 ·have hne:zAy lb≠[]:=zV (h:=by simp;omega);have hrow:(lb.map (·.1)).getD k []∈lb.map (·.1):=by
   grind
  obtain⟨p,hp,he⟩:=Av.1 hrow;have hlen2:=bl p hp;have hvs:=bv p hp;rw[he]at hlen2 hvs;have hx1:=zAl (lb.map (·.1)) k (by simpa using h4);have hts:Lb.take (k+1)=Lb.take k++[zQ ((lb.map (·.1)).getD k []) c2]:=by
   grind [Bc,only,AR]
  generalize (lb.map (·.1)).getD k []=row at*;have hk:=zTp row c2 _ _ rfl rfl (by rw[hlen2];exact hl2) hvs;refine zA<|zB rfl<|zYm [] [] [] (True) [(67,bD<|decide ((k:Int)<(Aa lb:Int)))] (by kernel_rfl) trivial ?_;refine zA<|vT ((k:Int)<(Aa lb:Int))<|zL<|zC<|zK<|zA<|zF<|zA<|zB rfl<|zX 2 [] [] (ix (k:Int) (Aa lb:Int) (zAy lb≠[])) [(68,iD (k:Int)),(69,AA<|Ag (Am (k:Int)*1)<|zAy lb)] ?_ (hc:=⟨(by omega),⟨(by omega),(by assumption)⟩⟩);refine zAp 69 (AA<|Ag (Am (k:Int)*1)<|zAy lb) (AA<|Ag k<|zAy lb) (by simp(disch:=omega) only[Bx,BR]) ?_;refine zX 1 [] [] (0<Aa (Ag k<|zAy lb)) [(70,A6 (Ag k<|zAy lb) Uk)] ?_ (hc:=by(simp;omega));refine zAp 70 (A6 (Ag k<|zAy lb) Uk) (rowV row) (by simp(disch:=omega) only[hx1]) ?_;refine zYm [] [] [67,68,69,70] (True) [(18,iD (k:Int)),(19,Ae (zM row)<|Aa row)] (by kernel_rfl) trivial ?_;refine zA<|zB rfl<|zX 2 [] [] (True) [(71,Ae (zM row)<|Aa row),(72,Ae (nsD c2)<|Aa c2)] ?_ (hc:=trivial);refine st_callr [Ae (zM row)<|Aa row,Ae (nsD c2)<|Aa c2] (by kernel_rfl) (by exact hk) ?_;refine zX 1 [] [] (True) [(20,Ar<|AH<|bs<|idR<|zQ row c2)] ?_ (hc:=trivial);refine zAn ?_ (by kernel_rfl);refine zC (zWw λs0 hs0=>?_);refine zK<|zB rfl<|zVx (.mref 5) rfl rfl rfl (by rw[hs0];kernel_rfl)<|zVx (.val<|kyv<|zQ row c2) rfl rfl rfl (by rw[hs0];kernel_rfl)<|zVx (.mref 5) rfl rfl rfl (by rw[hs0];kernel_rfl)<|zVx (.val<|kyv<|zQ row c2) rfl rfl rfl (by rw[hs0];kernel_rfl) ?_;refine st_group (m:=5) (L:=Lb.take k) (r:=zQ row c2) (i:=k) (base:=base) (ns:=ns) (a1:=76) (a2:=77) (a3:=18) (b1:=74) (b2:=75) (s1:=78) (s2:=79) (s3:=80) (s4:=81) ty (λ_ _=>rfl) (by simp;omega) (by omega) rfl rfl rfl rfl rfl rfl rfl rfl rfl rfl rfl rfl rfl rfl rfl (by rw[hs0];kernel_rfl) (by decide) (by rw[hs0];kernel_rfl) (by rw[hs0];kernel_rfl) (by rw[hs0];kernel_rfl) (by rw[hs0];kernel_rfl) (by rw[hs0];kernel_rfl) (by rw[hs0];kernel_rfl) hbb hG ?_;intro st' ns' e1 e3 e4 hG';refine zAn ?_ (by kernel_rfl);refine zD<|zC<|zWx [74,75,76,77,78,79,80,81] (sl':=s0) (by rw[hs0];kernel_rfl) ?_;subst hs0;refine zB rfl<|zX 2 [] [] (i6 ((k:Int)+(1:Int))) [(66,iD (↑(k+1):Int)),(82,iD (↑(k+1):Int))] ?_;refine zAn ?_ (by kernel_rfl);refine zC<|⟨k+1,st',ns',⟨by omega,by rw[hts];exact hG'⟩,by omega,?_⟩;refine vkp [0,5,6,8,10,11,15,16,17,64,65,66]
 rw[AI (by omega)]at hG;subst ebase;refine zA<|zB rfl<|zYm [] [] [] (True) [(67,bD<|decide ((k:Int)<(Aa lb:Int)))] (by kernel_rfl) trivial ?_;refine zA<|vF ((k:Int)<(Aa lb:Int))<|zAx<|zP<|zP<|zAm rfl<|zC ?_;have hfl:=zFq zJ2 (os.map (zD4 U)) os.length (by simp);refine zBh ((weak_grp (m:=5) (s:=17) (λ_ _=>rfl) (by kernel_rfl) (by kernel_rfl) hbb hG).trans<|((Bo (j:=3) (i:=1) (rowB []) rfl rfl rfl rfl).trans (Bo (j:=3) (i:=2) (zE1 []) rfl rfl rfl rfl)).trans<|By (s:=11) (k:=4) (off:=0) (n:=os.length) (m:=os.length*2) (wh:=Ab) (cs:=(os.map (zD4 U)).flatMap flC) (by kernel_rfl) (show Aq (Ae ((((os.map (zD4 U)).flatMap flC).drop 0).take (os.length*2)) os.length,[4])=_ by rw[AM,hfl])) ?_;refine zA<|zA<|zB rfl<|v0s<|ve (aG_)<|zF ?_;clear hG h3 h4;obtain⟨ok,eok⟩:∃ok:Rw->Bool,ok=λs=>os.all λo=>okO U s (faNW o):=⟨_,rfl⟩;have hpf:((zB9 Sw.mul A la B lb).filter λp=>os.all λo=>okO U p.1 (faNW o))=la.flatMap λp=>zD2 A B ok p (zHb A B lb p):=by
  rw[eok];exact zPc A B lb (λs=>os.all λo=>okO U s (faNW o)) la
 rw[hpf];refine zBp (λ(i:Nat)(O:List (Rw×Wh))=>fr 147 [(0,proD),(5,Al 0 0),(6,Al 1 0),(8,Al 2 0),(10,Al 3 0),(11,D.osr 4 0 (Aa os) (Aa os*2) Ab<|Af flC<|Ad (zD4 U) os),(15,Ae (nsD c1)<|Aa c1),(17,D.mfz (Ad kyv<|allK Lb)<|zXa Lb),(84,Ae (zAy la)<|Aa la),(85,iD (Aa la:Int)),(86,iD (i:Int))]) (λ(i:Nat)(O:List (Rw×Wh))=>[fB1W (.row (nsD A) A.length) (.row (zAy la) la.length)<|.row (zA4 la) la.length,fB1W (.row (nsD B) B.length) (.row (zAy lb) lb.length)<|.row (zA4 lb) lb.length,fB1W nl nl nl,fB1W (.row (nsD U) U.length) (.osl 5 0 O.length O.length Ab)<|.osl 6 0 O.length O.length Ab,⟨(os.map (zD4 U)).flatMap flC,203,2,Ab,Ab,.plain⟩,rowB<|zAy O,zE1<|zA4 O]) (λi O=>la.length-i) (λ(i:Nat)(O:List (Rw×Wh))=>i<=la.length/\O=(la.take i).flatMap λp=>zD2 A B ok p (zHb A B lb p)) 0 [] ?_ ?_ ?_
 ·grind
 ·refine vk 7
 rintro i O ⟨h3,hO⟩;rcases Ax i la.length with h4|h4
 ·have hne:zAy la≠[]:=zV (h:=by simp;omega);have hne2:zA4 la≠[]:=zV (h:=by simp;omega);have hx1:=zAl (la.map (·.1)) i (by simpa using h4);have hx2:=zHv (la.map (·.2)) i (by simpa using h4);have hpm:la.getD i Ai∈la:=by rw[AX,AR h4];exact Bq h4
  have hr1:(la.map (·.1)).getD i []=(la.getD i Ai).1:=by simp[AX,h4]
  have hr2:(la.map (·.2)).getD i w0=(la.getD i Ai).2:=by simp[AX,h4]
  have hfs:=zZk (A:=A) (B:=B) (lb:=lb) (ok:=ok) la i h4;have hOl:O.length<=i*lb.length:=by rw[hO];exact zRv la i
  have hmul:(i+1)*lb.length<=la.length*lb.length:=A7 _ h4;rw[Nat.succ_mul]at hmul;rw[<-hO]at hfs;have hlen2:=al _ hpm;have hvs:=av _ hpm;have hsm:=am _ hpm;rw[hr1]at hx1;rw[hr2]at hx2;generalize la.getD i Ai=p at*;have hk:=zTp p.1 c1 _ _ rfl rfl (by rw[hlen2];exact hl1) hvs;have hlk:=look_g Lb (zQ p.1 c1);have hps:=pos_selW (lb:=lb) hA hB p;rw[<-ec1,<-ec2,<-eLb]at hps;by_cases hin:zQ p.1 c1∈Lb
  ·rw [if_pos hin]at hlk;have hposk:∀k∈posL Lb (zQ p.1 c1),k<lb.length:=λk hk=>by rw[<-hLb];exact pos_lt hk
   generalize posL Lb (zQ p.1 c1)=pos at*;focus
    refine zA (zB rfl (v0s (veT (zA (vT ((i:Int)<(Aa la:Int)) (zL (zC (zK (zA (zF (zA (zB rfl (vr 2 (ix (i:Int) (Aa la:Int) (zAy la≠[])) (vp 89 (i) (zAy la) (vr 1 (0<Aa (Ag i (zAy la))) (vsh 90 hx1 (veT (zA (zB rfl (vrT 3 (vc (hk) (vwh 1 [] [] (zAb (A_ (Ba Bb "string" 1 16 Ab 8 8 (Aq (AH (A5 #[]))) Ab #[])) (AH (bs (idR (zQ (Br p) c1))))=Ab/\BD (Ad kyv (allK Lb)) (zAb (A_ (Ba Bb "string" 1 16 Ab 8 8 (Aq (AH (A5 #[]))) Ab #[])))=Ab) ?_ ?_))))))))))))))))))))));rotate_left;refine vsh 95 hlk (veT (zF ?_));rotate_left
   ·exact⟨rfl,zDl _⟩
   have hsl:(zHb A B lb p).length=pos.length:=by rw[<-hps,Az]
   have hsb:(zHb A B lb p).length<=lb.length:=Bj _ _;have hts:=λt h=>zY1 (A:=A) (B:=B) (ok:=ok) p (zHb A B lb p) t h;refine zBp (λ(t:Nat)(R:List (Rw×Wh))=>fr 147 [(0,proD),(5,Al 0 0),(6,Al 1 0),(8,Al 2 0),(10,Al 3 0),(11,D.osr 4 0 (Aa os) (Aa os*2) Ab<|Af flC<|Ad (zD4 U) os),(15,Ae (nsD c1)<|Aa c1),(17,D.mfz (Ad kyv<|allK Lb)<|zXa Lb),(21,iD (i:Int)),(22,Ae (zM<|Br p)<|Aa<|Br p),(84,Ae (zAy la)<|Aa la),(85,iD (Aa la:Int)),(86,iD (i:Int)),(95,Ae (nsD pos)<|Aa pos),(96,iD (Aa pos:Int)),(97,iD (t:Int))]) (λ(t:Nat)(R:List (Rw×Wh))=>[fB1W (.row (nsD A) A.length) (.row (zAy la) la.length)<|.row (zA4 la) la.length,fB1W (.row (nsD B) B.length) (.row (zAy lb) lb.length)<|.row (zA4 lb) lb.length,fB1W nl nl nl,fB1W (.row (nsD U) U.length) (.osl 5 0 R.length R.length Ab)<|.osl 6 0 R.length R.length Ab,⟨(os.map (zD4 U)).flatMap flC,203,2,Ab,Ab,.plain⟩,rowB<|zAy R,zE1<|zA4 R]) (λt R=>pos.length-t) (λ(t:Nat)(R:List (Rw×Wh))=>t<=pos.length/\R=O++zD2 A B ok p ((zHb A B lb p).take t)) 0 O ?_ ?_ ?_
   ·grind [zD2]
   ·refine vk 7
   rintro t R ⟨h5,hR⟩;have hRl:R.length<=O.length+t:=by
    grind [zRf,zHb,lb,AT,only,A8]
   rcases Ax t pos.length with h6|h6
   ·have hne3:zAy lb≠[]:=zV (h:=by simp;omega);have hne4:zA4 lb≠[]:=zV (h:=by simp;omega);have hkm:=hposk _ (zDy pos t h6);have hsg:(zHb A B lb p).getD t Ai=lb.getD (pos.getD t 0) default:=by
     grind
    have hqm:lb.getD (pos.getD t 0) Ai∈lb:=by rw[AX,AR hkm];exact Bq hkm
    have hy1:=zAl (lb.map (·.1)) (pos.getD t 0) (by simpa using hkm);have hy2:=zHv (lb.map (·.2)) (pos.getD t 0) (by simpa using hkm);have hr3:=getD_fstW lb hkm;have hr4:=getD_sndW lb hkm;have hp1:0<((zAy lb).drop (pos.getD t 0)).length:=by rw[A2,Az,Az];omega
    have hp2:0<((zA4 lb).drop (pos.getD t 0)).length:=by rw[A2,Az,Az];omega
    have ht1:=hts t (by omega);rw[hsg]at ht1;rw[hr3]at hy1;rw[hr4]at hy2;have hql:=bl _ hqm;have hqv:=bv _ hqm;have hqs:=bm _ hqm;have hz:=zA6 pos t h6;generalize lb.getD (pos.getD t 0) Ai=q at*;have hmg:Pure An 95 [.row (nsD U) U.length, .row (nsD A) A.length, .row (zM p.1) p.1.length, .row (nsD B) B.length, .row (zM q.1) q.1.length] [] (.row (zM (mg A p.1 B q.1)) U.length):=by
     grind [merge_c]
    have hml:(mg A p.1 B q.1).length=U.length:=by rw[mg,Az,eU]
    have hmv:∀v∈mg A p.1 B q.1,Vs v:=λv hv=>by
     obtain⟨w,_,rfl⟩:=Av.1 hv;have gv:∀(C:List Nat)(x:List Va),(∀v∈x,Vs v)->Vs (asg C x w):=λC x hx=>by
      unfold asg;rw[AX];cases e:x[C.idxOf w]? with
      |none=>exact⟨by decide,by decide,by decide⟩
      |some u=>exact hx u (List.mem_of_getElem? e)
     unfold sg;grind
    have hpa:=passes_c (os.map (zD4 U)) _ rfl (by simp;omega) (mg A p.1 B q.1) _ hml (by omega) hmv (λf hf=>by
     obtain⟨o,ho',rfl⟩:=Av.1 hf;exact⟨by have:=zJh (λv=>(msk o.1&&&msk U).testBit v) U;simp only[zD4];omega,λc hc=>by rw[hml];exact(zG4.1 hc).1⟩)
    rw[Az,List.all_map]at hpa;have hoke:(os.all ((λf=>decide (zQ (mg A p.1 B q.1) f.1∈f.2))∘zD4 U))=ok (mg A p.1 B q.1):=by
     rw[eok];simp only[Function.comp_def];rw[BE,A3,A3];constructor
     ·intro h o ho';rw[<-flt_okW hU (ho o ho').asc];exact h o ho'
     intro h o ho';rw[flt_okW hU (ho o ho').asc];exact h o ho'
    rw[hoke]at hpa;have hmu2:=wmul_c p.2 q.2 hsm hqs;focus
     refine zA<|zB rfl<|v0s<|veT<|zA<|vT ((t:Int)<(Aa pos:Int))<|zL<|zC<|zK<|zA<|zF<|zA<|zB rfl<|vr 1 (ix (t:Int) (Aa pos:Int) (nsD pos≠[])) ?_ ⟨(by omega),⟨(by omega),(by exact zV)⟩⟩;refine vp 99 (t) (nsD pos)<|vr 1 (0<Aa (Ag t<|nsD pos))<|vsh 100 hz<|veT<|zA<|vd [0,2,4,5,7,9,1,3,6,8,10,11,12,13]<|vr 11 (True/\True/\True/\True/\0<3/\0<3/\0<3/\0<2/\ix (↑(Ao pos t 0):Int) (Aa lb:Int) (zAy lb≠[]))<|vp 111 (Ao pos t 0) (zAy lb)<|vr 1 (0<Aa (Ag (Ao pos t 0)<|zAy lb))<|vsh 112 hy1<|vc (hmg)<|veT<|zA<|zB rfl<|vrT 2<|vc (hpa)<|veT<|zAk (t:=ok (mg A (Br p) B (Br q))) (by kernel_rfl) (λhc=>?_)<|λhc=>?_;refine zA<|zB rfl<|vr 7 (aI_ ((AS (rowB<|zAy R)=Ab/\Aa (AC<|rowB<|zAy R)=Aa R*1/\Aa R=Aa R*1/\AJ (rowB<|zAy R)=110/\AK (rowB<|zAy R)=1/\1=1/\0<1/\0<24/\110=110/\(Aa R+1)*24<=140737488355328/\1=1/\AO (Au<|rowB<|zAy R)=Ac/\(Ac=Ac\/AQ (Au<|rowB<|zAy R)=Ab))/\True/\AY (Aj [Ae (nsD U)<|Aa U,Uk,Ah 6 0 (Aa R) (Aa R) Ab] 79 0 Ac Ac Ak)=Ac/\aU_))<|vb 3 (Aj [Ae (nsD U)<|Aa U,Ah 5 0 (Aa R+1) ((Aa R+1)*1) Ab,Ah 6 0 (Aa R) (Aa R) Ab] (AJ<|Aj [Ae (nsD U)<|Aa U,Uk,Ah 6 0 (Aa R) (Aa R) Ab] 79 0 Ac Ac Ak) (AK<|Aj [Ae (nsD U)<|Aa U,Uk,Ah 6 0 (Aa R) (Aa R) Ab] 79 0 Ac Ac Ak) Ac Ac<|Au<|Aj [Ae (nsD U)<|Aa U,Uk,Ah 6 0 (Aa R) (Aa R) Ab] 79 0 Ac Ac Ak) (Aj [Ae (nsD U)<|Aa U,Ah 5 0 (Aa R+1) (Aa R+1) Ab,Ah 6 0 (Aa R) (Aa R) Ab] 79 0 Ac Ac Ak)<|veT<|vd [0,2,3,5,8,10,13,14,15,1,4,6,7,9,11,12,16,17,18,19,20]<|vr 12 (aN_ (ix (i:Int) (Aa la:Int) (zA4 la≠[])))<|vp 129 (i) (zA4 la)<|vr 1 (0<Aa (Ag i<|zA4 la))<|vsh 130 hx2<|vr 2 (0<1/\ix (↑(Ao pos t 0):Int) (Aa lb:Int) (zA4 lb≠[]))<|vp 134 (Ao pos t 0) (zA4 lb)<|vr 1 (0<Aa (Ag (Ao pos t 0)<|zA4 lb))<|vsh 135 hy2<|vc (hmu2)<|vr 4 (ay_ ((AS (Aj (zA4 R) 81 1 Ab Ac Ak)=Ab/\Aa (zA4 R)=Aa R*1/\Aa R=Aa R*1/\AJ (Aj (zA4 R) 81 1 Ab Ac Ak)=81/\AK (Aj (zA4 R) 81 1 Ab Ac Ak)=1/\1=1/\0<1/\0<24/\81=81/\(Aa R+1)*24<=140737488355328/\1=1/\AO (Au<|Aj (zA4 R) 81 1 Ab Ac Ak)=Ac/\(Ac=Ac\/AQ (Au<|Aj (zA4 R) 81 1 Ab Ac Ak)=Ab))/\True/\AY (Aj [Ae (nsD U)<|Aa U,Ah 5 0 (Aa R+1) (Aa R+1) Ab,Uk] 79 0 Ac Ac Ak)=Ac/\aV_))<|vb 3 (Aj [Ae (nsD U)<|Aa U,Ah 5 0 (Aa R+1) (Aa R+1) Ab,Ah 6 0 (Aa R+1) ((Aa R+1)*1) Ab] (AJ<|Aj [Ae (nsD U)<|Aa U,Ah 5 0 (Aa R+1) (Aa R+1) Ab,Uk] 79 0 Ac Ac Ak) (AK<|Aj [Ae (nsD U)<|Aa U,Ah 5 0 (Aa R+1) (Aa R+1) Ab,Uk] 79 0 Ac Ac Ak) Ac Ac<|Au<|Aj [Ae (nsD U)<|Aa U,Ah 5 0 (Aa R+1) (Aa R+1) Ab,Uk] 79 0 Ac Ac Ak) (Aj [Ae (nsD U)<|Aa U,Ah 5 0 (Aa R+1) (Aa R+1) Ab,Ah 6 0 (Aa R+1) (Aa R+1) Ab] 79 0 Ac Ac Ak) ?_;refine vnil<|zD<|zC<|zK<|zB rfl<|vr 2 (i6 ((t:Int)+(1:Int)))<|vnil<|zC ?_;rotate_left;refine zL<|zD<|zC<|zK<|zB rfl<|vr 2 (i6 ((t:Int)+(1:Int)))<|vnil<|zC ?_;rotate_left
    ·rw[if_pos hc]at ht1;refine⟨t+1,R++[prQW A B p q],⟨by omega,?_⟩,by omega,?_⟩
     ·grind
     rw[show zAy (R++[prQW A B p q])=zAy R++[.row (zM (mg A p.1 B q.1)) U.length] by rw[<-hml];simp[prQW],show zA4 (R++[prQW A B p q])=zA4 R++[whD (Sw.mul p.2 q.2)] by simp[prQW],AT];refine vk 7
    rw[if_neg (by simpa using hc),Bg]at ht1;refine⟨t+1,R,⟨by omega,by rw[ht1];exact hR⟩,by omega,?_⟩;refine vk 7
   rw[AI (by omega)]at hR;refine zA<|zB rfl<|v0s<|veT<|zA<|vF ((t:Int)<(Aa pos:Int))<|zAx<|zP<|zP<|zAm rfl<|zD<|zC<|zK<|zB rfl<|vr 2 (i6 ((i:Int)+(1:Int)))<|vnil<|zC<|⟨i+1,R,⟨by omega,by rw[hfs];exact hR⟩,by omega,?_⟩;refine vk 7
  rw[if_neg hin]at hlk;rw[zM8 hin]at hps;focus
   refine zA (zB rfl (v0s (veT (zA (vT ((i:Int)<(Aa la:Int)) (zL (zC (zK (zA (zF (zA (zB rfl (vr 2 (ix (i:Int) (Aa la:Int) (zAy la≠[])) (vp 89 (i) (zAy la) (vr 1 (0<Aa (Ag i (zAy la))) (vsh 90 hx1 (veT (zA (zB rfl (vrT 3 (vc (hk) (vwh 1 [] [] (zAb (A_ (Ba Bb "string" 1 16 Ab 8 8 (Aq (AH (A5 #[]))) Ab #[])) (AH (bs (idR (zQ (Br p) c1))))=Ab/\BD (Ad kyv (allK Lb)) (zAb (A_ (Ba Bb "string" 1 16 Ab 8 8 (Aq (AH (A5 #[]))) Ab #[])))=Ab) ?_ ?_))))))))))))))))))))));rotate_left;refine vsh 95 hlk (veT (zF (zAa (zA (zB rfl (veT (zA (vf (zAx (zP (zP (zAm rfl (zD (zC (zK (zB rfl (vr 2 (i6 ((i:Int)+(1:Int))) (vnil (zC ?_)))))))))))))))))));rotate_left
  ·exact⟨rfl,zDl _⟩
  refine⟨i+1,O,⟨by omega,?_⟩,by omega,?_⟩
  ·grind [zD2]
  refine vk 7
 have hO':O=la.flatMap λp=>zD2 A B ok p (zHb A B lb p):=by rw[AI (by omega)]at hO;exact hO
 rw[<-hO'];have hOl:O.length<=1000000:=by
  have h5:=zRv (A:=A) (B:=B) (lb:=lb) (ok:=ok) la la.length;grind
 have hOp:O=(zB9 Sw.mul A la B lb).filter λp=>ok p.1:=by rw[hO',eok];exact(zPc A B lb (λs=>os.all λo=>okO U s (faNW o)) la).symm
 have hnd:Ndk O:=by rw[hOp];exact zF9 ok (zF5 hA hB nda ndb al bl)
 have hOr:∀p∈O,p.1.length=U.length:=λp hp=>by
  grind [zKn,mg,Az]
 have hso:=zVz U O hOl (λp hp=>by rw[hOr p hp];omega) hnd;have hu2:(zAy O).take O.length=zAy O:=AI (by simp);have hu3:(zA4 O).take O.length=zA4 O:=AI (by simp);clear hO hO' hOp hpf;refine zA<|zB rfl<|v0s<|veT<|zA<|vF ((i:Int)<(Aa la:Int))<|zAx<|zP<|zP<|zAm rfl<|zC<|zK<|zA<|zB rfl<|vr 1 (3<=3)<|vcl [Aw [Ae (nsD U)<|Aa U,Ae (Ap (Aa O)<|Ag 0<|AC<|rowB<|zAy O)<|Aa O,Ae (Ap (Aa O)<|Ag 0<|AC<|zE1<|zA4 O)<|Aa O]] [Aw [Ae (nsD U)<|Aa U,Ae (zAy O)<|Aa O,Ae (zA4 O)<|Aa O]] (LeL.of_eq (by simp(disch:=omega) only[AM,hu3,hu2])) (by exact hso)<|ve (az_)<|zG<|vret (3<=3)<|.inr rfl
set_option maxHeartbeats 4000000 in
theorem sumOut_cW(A:List Nat)(l:List (Rw×Wh))(v:Int)(ha:A.length<=32)(hb:l.length<=1000000)(hl:∀p∈l,p.1.length=A.length)(hv:∀p∈l,∀x∈p.1,Vs x)(hs0:∀p∈l,okW p.2)(hs:∀i,∀x∈(sumT Sw.add [] ((l.map λp=>(zQ p.1 (zBo (λu=>decide ((u:Int)≠v)) A),p.2)).take i)).map (·.2),okW x):
  Pure An 120 [proD,fcDW A l,iD v] [] (fcDW ((zBo (λu=>decide ((u:Int)≠v)) A).map λj=>A.getD j 0) (srtL (sumT Sw.add [] (l.map λp=>(zQ p.1 (zBo (λu=>decide ((u:Int)≠v)) A),p.2))))):=by
 refine zJ (T:=Tc) (zVd _ _ _) mixed Tryz.func120 rfl<|zA<|zB rfl<|v0s<|veT<|zA<|zB rfl<|veT<|zA<|zB rfl<|vrT 1<|vnil<|zC<|vnn (fr 108 [(0,proD),(2,iD v),(4,Al 0 0),(6,Al 1 0),(7,nl),(8,Al 2 0)]) [Aj [Ae (nsD A)<|Aa A,Ae (zAy l)<|Aa l,Ae (zA4 l)<|Aa l] 79 0 Ac Ac Ak,Aj [nl,nl,nl] 79 0 Ac Ac Ak,Aj [nl,nl,nl] 79 0 Ac Ac Ak]<|zBh (Bo (j:=2) (i:=0) (intB []) rfl rfl rfl rfl) ?_;refine zA<|zA<|zB rfl<|v0s<|ve (aK_)<|zF<|zBp (λ(i:Nat)(c:List Nat)=>fr 108 [(0,proD),(2,iD v),(4,Al 0 0),(6,Al 1 0),(7,Ah 4 0 (Aa c) (Aa c) Ab),(8,Al 2 0),(20,Ae (nsD A)<|Aa A),(21,iD (Aa A:Int)),(22,iD (i:Int))]) (λ(i:Nat)(c:List Nat)=>[fB1W (.row (nsD A) A.length) (.row (zAy l) l.length)<|.row (zA4 l) l.length,fB1W nl nl nl,fB1W (.osl 3 0 c.length c.length Ab) nl nl,intB<|nsD (c.map λj=>A.getD j 0),intB<|nsD c]) (λi c=>A.length-i) (λ(i:Nat)(c:List Nat)=>i<=A.length/\c=((Ay A.length).take i).filter λj=>decide (((A.getD j 0:Nat):Int)≠v)) 0 [] ?_ ?_ ?_
 ·grind
 ·refine vk 4
 rintro i c ⟨h1,h2⟩;have hlen:c.length<=32:=by rw[h2];exact As (Bj _ _) (by simp;omega)
 rcases Ax i A.length with h3|h3
 ·have h4:=zQg (λu=>decide ((u:Int)≠v)) A i h3;rw[<-h2]at h4;focus
   refine zA<|zB rfl<|v0s<|veT<|zA<|vT ((i:Int)<(Aa A:Int))<|zL<|zC<|zK<|zA<|zF<|zA<|zB rfl<|vr 2 (ix (i:Int) (Aa A:Int) (nsD A≠[])) ?_ ⟨(by omega),⟨(by omega),(by exact zV)⟩⟩;refine vp 25 (i) (nsD A)<|vr 1 (0<Aa (Ag i<|nsD A))<|vs 26 (A6 (Ag i<|nsD A) Uk) (iD (↑(Ao A i 0):Int)) (hd:=by simp(disch:=omega) only[zA6])<|veT<|zA<|zB rfl<|veT<|zAk (t:=(↑(Ao A i 0):Int)!=v) (by kernel_rfl) (λhc=>?_)<|λhc=>?_;simp only[bne_iff_ne]at hc;refine zA<|zB rfl<|vr 5 (ay_ (AS (intB<|nsD c)=Ab/\Aa (AC<|intB<|nsD c)=Aa c*1/\Aa c=Aa c*1/\AJ (intB<|nsD c)=3/\AK (intB<|nsD c)=1/\1=1/\0<1/\0<8/\3=3/\(Aa c+1)*8<=140737488355328/\1=1/\AO (Au<|intB<|nsD c)=Ac/\(Ac=Ac\/AQ (Au<|intB<|nsD c)=Ab)))<|vs 7 (Ah 4 0 (Aa c+1) ((Aa c+1)*1) Ab) (Ah 4 0 (Aa c+1) (Aa c+1) Ab)<|veT<|zB rfl<|vr 7 (True/\0<3/\((1=1/\1<=1/\True)/\0<1/\1=1/\1<=16777216/\1<=9223372036854775807)/\(AS (Aj (nsD<|Ad (λ(j:Nat)=>Ao A j 0) c) 3 1 Ab Ac Ak)=Ab/\Aa (nsD<|Ad (λ(j:Nat)=>Ao A j 0) c)=Aa c*1/\Aa c=Aa c*1/\AJ (Aj (nsD<|Ad (λ(j:Nat)=>Ao A j 0) c) 3 1 Ab Ac Ak)=3/\AK (Aj (nsD<|Ad (λ(j:Nat)=>Ao A j 0) c) 3 1 Ab Ac Ak)=1/\1=1/\0<1/\0<8/\3=3/\(Aa c+1)*8<=140737488355328/\1=1/\AO (Au<|Aj (nsD<|Ad (λ(j:Nat)=>Ao A j 0) c) 3 1 Ab Ac Ak)=Ac/\(Ac=Ac\/AQ (Au<|Aj (nsD<|Ad (λ(j:Nat)=>Ao A j 0) c) 3 1 Ab Ac Ak)=Ab))/\True/\Ac=Ac/\Ab=Ab/\1=1/\1<=3)<|vb 2 (Aj [Ah 3 0 (Aa c+1) ((Aa c+1)*1) Ab,nl,nl] 79 0 Ac Ac<|Au<|Aj [Uk,nl,nl] 79 0 Ac Ac Ak) (Aj [Ah 3 0 (Aa c+1) (Aa c+1) Ab,nl,nl] 79 0 Ac Ac Ak)<|vnil<|zD<|zC<|zK<|zB rfl<|vr 2 (i6 ((i:Int)+(1:Int)))<|vnil<|zC ?_;rotate_left;simp only[bne_eq_false_iff_eq]at hc;refine zL<|zD<|zC<|zK<|zB rfl<|vr 2 (i6 ((i:Int)+(1:Int)))<|vnil<|zC ?_;rotate_left
  ·rw[if_pos (by simpa using hc)]at h4;refine⟨i+1,c++[i],⟨by omega,h4.symm⟩,by omega,?_⟩;rw[show nsD ((c++[i]).map λj=>A.getD j 0)=nsD (c.map λj=>A.getD j 0)++[iD (A.getD i 0:Nat)] by simp,zTd,AT];refine vk 5
  rw[if_neg (by simpa using hc),Bg]at h4;refine⟨i+1,c,⟨by omega,h4.symm⟩,by omega,?_⟩;refine vk 5
 have ec:c=zBo (λu=>decide ((u:Int)≠v)) A:=by
  rw[AI (by simpa using h3)]at h2;exact h2
 rw[<-ec]at hs⊢;clear h1 h2;refine zA<|zB rfl<|v0s<|veT<|zA<|vF ((i:Int)<(Aa A:Int))<|zAx<|zP<|zP<|zAm rfl<|zC<|zK<|zA<|zB rfl<|vrT 2<|vnil<|zC<|vnn (fr 108 [(0,proD),(2,iD v),(4,Al 0 0),(6,Al 1 0),(7,Ah 4 0 (Aa c) (Aa c) Ab),(8,Al 2 0),(11,D.mref 5),(20,Ae (nsD A)<|Aa A),(21,iD (Aa A:Int)),(22,iD (i:Int)),(23,bD<|decide ((i:Int)<(Aa A:Int))),(41,D.mref 5)]) [fB1W (Ae (nsD A)<|Aa A) (Ae (zAy l)<|Aa l)<|Ae (zA4 l)<|Aa l,fB1W nl nl nl,fB1W (Ah 3 0 (Aa c) (Aa c) Ab) nl nl,intB<|nsD<|Ad (λ(j:Nat)=>Ao A j 0) c,intB<|nsD c,Aj [] 262 0 Ab Ac<|Kd.map []] ?_;have hc0:=zPk c _ rfl;refine zBh (((Bo (j:=2) (i:=1) (rowB []) rfl rfl rfl rfl).trans (Bo (j:=2) (i:=2) (zE1 []) rfl rfl rfl rfl)).trans<|By (s:=7) (k:=4) (off:=0) (n:=c.length) (m:=c.length) (wh:=Ab) (cs:=nsD c) (by kernel_rfl) (show Aq (Ae (((nsD c).drop 0).take c.length) c.length,[4])=_ by rw[AM,hc0])) ?_;refine zA<|zA<|zB rfl<|v0s<|ve (aG_)<|zF ?_;obtain⟨z,hz⟩:∃z:Wh,z=w0:=⟨_,rfl⟩;have hcl:∀j∈c,j<A.length:=λj h=>by
  rw[ec]at h;simpa using(Bn.1 h).1
 generalize hL:(l.map λp=>(zQ p.1 c,p.2))=L at*;have hLl:L.length=l.length:=by rw[<-hL];simp
 have hLg:∀i,i<l.length->L.getD i Ai=(zQ ((l.map (·.1)).getD i []) c,(l.map (·.2)).getD i w0):=λi hi=>by
  grind
 refine zA0 (λ(i:Nat)(K:List Rw)(W:List Wh)=>fr 108 [(0,proD),(4,Al 0 0),(6,Al 1 0),(7,D.osr 4 0 (Aa c) (Aa c) Ab<|nsD c),(8,Al 2 0),(11,D.mref 5),(43,Ae (zAy l)<|Aa l),(44,iD (Aa l:Int)),(45,iD (i:Int))]) (λ(i:Nat)(K:List Rw)(W:List Wh)=>[fB1W (.row (nsD A) A.length) (.row (zAy l) l.length)<|.row (zA4 l) l.length,fB1W nl nl nl,fB1W (.osl 3 0 c.length c.length Ab) (.osl 6 0 W.length W.length Ab)<|.osl 7 0 W.length W.length Ab,intB<|nsD (c.map λj=>A.getD j 0),⟨nsD c,3,1,Ab,Ab,.plain⟩,mapI K,rowB<|K.map rowV,zE1<|W.map whD]) (λi K W=>l.length-i) (λ(i:Nat)(K:List Rw)(W:List Wh)=>i<=l.length/\K=(sumT Sw.add []<|L.take i).map (·.1)/\W=(sumT Sw.add []<|L.take i).map (·.2)) 0 [] [] ?_ ?_ ?_
 ·grind [sumT]
 ·refine vk 8
 rintro i K W ⟨g1,g2,g3⟩;have hKW:W.length=K.length:=by rw[g2,g3];simp
 have hKl:K.length<=1000000:=by
  have:=zSj Sw.add (L.take i) ([]:List (Rw×Wh))
  grind
 rcases Ax i l.length with h4|h4
 ·have hne:zAy l≠[]:=zV (h:=by simp;omega);have hne2:zA4 l≠[]:=zV (h:=by simp;omega);have hrow:(l.map (·.1)).getD i []∈l.map (·.1):=by
   grind
  obtain⟨p,hp,he⟩:=Av.1 hrow;have hlen2:=hl p hp;have hvs:=hv p hp;rw[he]at hlen2 hvs;have hsu:=zVr Sw.add L i (by omega);rw[hLg i h4]at hsu;have hk1:=congrArg (Ad (·.1)) hsu;have hw1:=congrArg (Ad (·.2)) hsu;simp only[zGi,<-g2]at hk1;simp only[zQs,<-g2,<-g3]at hw1;have hwm:(l.map (·.2)).getD i w0∈l.map (·.2):=by
   grind
  obtain⟨p',hp',he'⟩:=Av.1 hwm;have hs3:=hs0 p' hp';rw[he']at hs3;have hsW:∀x∈W,okW x:=λx hx=>hs i x (by rw[<-g3];exact hx);have hx1:=zAl (l.map (·.1)) i (by simpa using h4);have hx2:=zHv (l.map (·.2)) i (by simpa using h4);generalize (l.map (·.1)).getD i []=row at*;generalize (l.map (·.2)).getD i w0=w at*;have hk:=zTp row c _ _ rfl rfl (by rw[hlen2];exact hcl) hvs;have hpj:=zH8 row c _ _ rfl rfl (by omega) (by omega) (by rw[hlen2];exact hcl);have hlk:=look_i K (zQ row c);by_cases hm:zQ row c∈K
  ·rw[if_pos hm]at hk1 hw1 hlk;have hid:=BL.2 hm;generalize K.idxOf (zQ row c)=d at*;have hs2:=hsW _ (show W.getD d w0∈W by rw[AX,AR (by omega)];exact Bq _);focus
    refine zA (zB rfl (v0s (veT (zA (vT ((i:Int)<(Aa l:Int)) (zL (zC (zK (zA (zF (zA (zB rfl (vr 2 (ix (i:Int) (Aa l:Int) (zAy l≠[])) (vp 48 (i) (zAy l) (vr 1 (0<Aa (Ag i (zAy l))) (vsh 49 hx1 (veT (zA (zB rfl (vrT 2 (vc (hk) (veT (zA (zB rfl (vwh 3 [] [] (zAb (A_ (Ba Bb "string" 1 16 Ab 8 8 (Aq (AH (A5 #[]))) Ab #[])) (AH (bs (idR (zQ row c))))=Ab/\BD (Ad kyv K) (zAb (A_ (Ba Bb "string" 1 16 Ab 8 8 (Aq (AH (A5 #[]))) Ab #[])))=Ab) ?_ ?_)))))))))))))))))))))))));rotate_left;refine vsh 56 hlk (ve (aT_) (zA (zA (zB rfl (veT (vf (zL (zC (zK (vd [0,2,3,4,6,9,11,14,15,16,1,5,7,8,10,12,13,17,18,19] (vr 13 (aN_ ((0:Int)<=(d:Int)/\(d:Int)<(Aa W:Int))) (vo 93 7 (d) (vr 1 (0<Aa (Ag d (AC (zE1 (Ad whD W))))) (vs 94 (A6 (Ag d (AC (zE1 (Ad whD W)))) Uk) (whD (Ao W d w0)) (hd:=by simp(disch:=omega) only[zHv]) (vr 2 (0<1/\ix (i:Int) (Aa l:Int) (zA4 l≠[])) (vp 98 (i) (zA4 l) (vr 1 (0<Aa (Ag i (zA4 l))) (vsh 99 hx2 (vc (wadd_c _ _ hs2 hs3) (vr 1 ((0:Int)<=(d:Int)/\(d:Int)<(Aa W:Int)) (vo 104 7 (d) (vr 1 (AY (zE1 (Ad whD W))=Ac/\Ab=Ab/\1=1/\d+1<=Aa (AC (zE1 (Ad whD W)))/\¬7∈[]) (vnil (zD (zC (zK (zB rfl (vr 2 (i6 ((i:Int)+(1:Int))) (vnil (zC ?_))))))))))))))))))))))))))))));rotate_left
   ·grind [zDl]
   refine⟨i+1,K,W.set d (Sw.add (W.getD d w0) w),⟨by omega,hk1.symm,hw1.symm⟩,by omega,?_⟩;rw[show(W.set d (Sw.add (W.getD d w0) w)).map whD=(W.map whD).set d (whD (Sw.add (W.getD d w0) w)) by simp,show(W.set d (Sw.add (W.getD d w0) w)).length=W.length by simp];refine vk 8
  rw[if_neg hm]at hk1 hw1 hlk;have hmp:=mput_i K (zQ row c) hm;rw[<-hKW]at hmp;have hzw:Sw.add z w=w:=by rw[hz];exact zadW w
  have hca:=wadd_c z w (hz▸zokW) hs3;rw[hzw]at hca;have hla:∀d:D,((W.map whD++[d]).drop W.length).headD .unk=d:=λd=>by rw[List.drop_left' (by simp)];rfl
  have hse:∀d e:D,(W.map whD++[d]).set W.length e=W.map whD++[e]:=λd e=>by
   grind
  focus
   refine zA (zB rfl (v0s (veT (zA (vT ((i:Int)<(Aa l:Int)) (zL (zC (zK (zA (zF (zA (zB rfl (vr 2 (ix (i:Int) (Aa l:Int) (zAy l≠[])) (vp 48 (i) (zAy l) (vr 1 (0<Aa (Ag i (zAy l))) (vsh 49 hx1 (veT (zA (zB rfl (vrT 2 (vc (hk) (veT (zA (zB rfl (vwh 3 [] [] (zAb (A_ (Ba Bb "string" 1 16 Ab 8 8 (Aq (AH (A5 #[]))) Ab #[])) (AH (bs (idR (zQ row c))))=Ab/\BD (Ad kyv K) (zAb (A_ (Ba Bb "string" 1 16 Ab 8 8 (Aq (AH (A5 #[]))) Ab #[])))=Ab) ?_ ?_)))))))))))))))))))))))));rotate_left;refine vsh 56 hlk (ve (aT_) (zA (zA (zB rfl (veT (vt (zA (zB rfl (ve (aG_) (zA (zB rfl (vwh 4 [] [] (AY (mapI K)=Ac/\zAb (A_ (Ba Bb "string" 1 16 Ab 8 8 (Aq (AH (A5 #[]))) Ab #[])) (AH (bs (idR (zQ row c))))=Ab/\BD (Ad kyv K) (zAb (A_ (Ba Bb "string" 1 16 Ab 8 8 (Aq (AH (A5 #[]))) Ab #[])))=Ab/\¬5∈[]) ?_ ?_))))))))))));rotate_left;refine vb 5 (mput (mapI K) (Ad kyv K) (AH (bs (idR (zQ row c)))) (iD (Aa W:Int))) (mapI (K++[zQ row c])) (hd:=by simp(disch:=omega) only[hmp]) (veT (zA (zB rfl (vrT 2 (vc (hpj) (ve (aT_) (zA (zB rfl (vr 7 (aI_ ((AS (rowB (Ad rowV K))=Ab/\Aa (AC (rowB (Ad rowV K)))=Aa W*1/\Aa W=Aa W*1/\AJ (rowB (Ad rowV K))=110/\AK (rowB (Ad rowV K))=1/\1=1/\0<1/\0<24/\110=110/\(Aa W+1)*24<=140737488355328/\1=1/\AO (Au (rowB (Ad rowV K)))=Ac/\(Ac=Ac\/AQ (Au (rowB (Ad rowV K)))=Ab))/\True/\AY (Aj [Ah 3 0 (Aa c) (Aa c) Ab,Uk,Ah 7 0 (Aa W) (Aa W) Ab] 79 0 Ac Ac Ak)=Ac/\aU_)) (vb 2 (Aj [Ah 3 0 (Aa c) (Aa c) Ab,Ah 6 0 (Aa W+1) ((Aa W+1)*1) Ab,Ah 7 0 (Aa W) (Aa W) Ab] (AJ (Aj [Ah 3 0 (Aa c) (Aa c) Ab,Uk,Ah 7 0 (Aa W) (Aa W) Ab] 79 0 Ac Ac Ak)) (AK (Aj [Ah 3 0 (Aa c) (Aa c) Ab,Uk,Ah 7 0 (Aa W) (Aa W) Ab] 79 0 Ac Ac Ak)) Ac Ac (Au (Aj [Ah 3 0 (Aa c) (Aa c) Ab,Uk,Ah 7 0 (Aa W) (Aa W) Ab] 79 0 Ac Ac Ak))) (Aj [Ah 3 0 (Aa c) (Aa c) Ab,Ah 6 0 (Aa W+1) (Aa W+1) Ab,Ah 7 0 (Aa W) (Aa W) Ab] 79 0 Ac Ac Ak) ?_))))))))));refine veT (vd [0,2,1,3,4,5,6,7] (vr 3 (aX_) (vc (wzero_c z hz) (vr 4 (ay_ ((AS (Aj (Ad whD W) 81 1 Ab Ac Ak)=Ab/\Aa (Ad whD W)=Aa W*1/\Aa W=Aa W*1/\AJ (Aj (Ad whD W) 81 1 Ab Ac Ak)=81/\AK (Aj (Ad whD W) 81 1 Ab Ac Ak)=1/\1=1/\0<1/\0<24/\81=81/\(Aa W+1)*24<=140737488355328/\1=1/\AO (Au (Aj (Ad whD W) 81 1 Ab Ac Ak))=Ac/\(Ac=Ac\/AQ (Au (Aj (Ad whD W) 81 1 Ab Ac Ak))=Ab))/\True/\AY (Aj [Ah 3 0 (Aa c) (Aa c) Ab,Ah 6 0 (Aa W+1) (Aa W+1) Ab,Uk] 79 0 Ac Ac Ak)=Ac/\aV_)) (vb 2 (Aj [Ah 3 0 (Aa c) (Aa c) Ab,Ah 6 0 (Aa W+1) (Aa W+1) Ab,Ah 7 0 (Aa W+1) ((Aa W+1)*1) Ab] (AJ (Aj [Ah 3 0 (Aa c) (Aa c) Ab,Ah 6 0 (Aa W+1) (Aa W+1) Ab,Uk] 79 0 Ac Ac Ak)) (AK (Aj [Ah 3 0 (Aa c) (Aa c) Ab,Ah 6 0 (Aa W+1) (Aa W+1) Ab,Uk] 79 0 Ac Ac Ak)) Ac Ac (Au (Aj [Ah 3 0 (Aa c) (Aa c) Ab,Ah 6 0 (Aa W+1) (Aa W+1) Ab,Uk] 79 0 Ac Ac Ak))) (Aj [Ah 3 0 (Aa c) (Aa c) Ab,Ah 6 0 (Aa W+1) (Aa W+1) Ab,Ah 7 0 (Aa W+1) (Aa W+1) Ab] 79 0 Ac Ac Ak) (veT (vd [0,2,3,4,6,9,11,14,15,16,1,5,7,8,10,12,13,17,18,19] (vr 13 (aN_ ((0:Int)<=(Aa W:Int)/\(Aa W:Int)<(↑(Aa W+1):Int))) (vo 93 7 (Aa W) (vr 1 (0<Aa (Ag (Aa W) (Ad whD W++[Ae (Ad zAd (Subtype.val z)) (Aa (Subtype.val z))]))) (vs 94 (A6 (Ag (Aa W) (Ad whD W++[Ae (Ad zAd (Subtype.val z)) (Aa (Subtype.val z))])) Uk) (Ae (Ad zAd (Subtype.val z)) (Aa (Subtype.val z))) (hd:=by simp(disch:=omega) only[hla]) (vr 2 (0<1/\ix (i:Int) (Aa l:Int) (zA4 l≠[])) (vp 98 (i) (zA4 l) (vr 1 (0<Aa (Ag i (zA4 l))) (vsh 99 hx2 (vc (hca) (vr 1 ((0:Int)<=(Aa W:Int)/\(Aa W:Int)<(↑(Aa W+1):Int)) (vo 104 7 (Aa W) (vr 1 (AY (Aj (Ad whD W++[Ae (Ad zAd (Subtype.val z)) (Aa (Subtype.val z))]) 81 1 Ab Ac Ak)=Ac/\Ab=Ab/\1=1/\Aa W+1<=Aa (Ad whD W++[Ae (Ad zAd (Subtype.val z)) (Aa (Subtype.val z))])/\¬7∈[]) (vnil (zD (zC (zK (zB rfl (vr 2 (i6 ((i:Int)+(1:Int))) (vnil (zC ?_)))))))))))))))))))))))))));rotate_left
  ·grind [zDl]
  ·grind [zDl]
  refine⟨i+1,K++[zQ row c],W++[w],⟨by omega,hk1.symm,hw1.symm⟩,by omega,?_⟩;refine wkn (fr 108 [(0,proD),(4,Al 0 0),(6,Al 1 0),(7,D.osr 4 0 (Aa c) (Aa c) Ab (nsD c)),(8,Al 2 0),(11,D.mref 5),(12,iD (↑i:Int)),(15,iD (↑(Aa W):Int)),(43,Ae (zAy l) (Aa l)),(44,iD (↑(Aa l):Int)),(45,iD (↑(i+1):Int)),(86,Al 2 2),(87,Ah 7 0 (Aa W+1) (Aa W+1) Ab),(88,iD (↑(Aa W):Int)),(89,D.ifc 84 (Aw [])),(90,Al 2 2),(91,Ah 7 0 (Aa W+1) (Aa W+1) Ab),(92,iD (↑(Aa W):Int)),(93,Al 7 (Aa W)),(94,Ae (Ad zAd (Subtype.val z)) (Aa (Subtype.val z))),(95,Al 0 2),(96,Ae (zA4 l) (Aa l)),(97,iD (↑i:Int)),(98,AA (Ag i (zA4 l))),(99,whD w),(100,AP (Fn.method "Add") [D.ifc 84 (Aw [])] []),(101,AP (Fn.method "Add") [D.ifc 84 (Aw [])] []),(102,D.ifc 84 (Aw [])),(103,Ae (Ad zAd (Subtype.val w)) (Aa (Subtype.val w))),(104,Al 7 (Aa W)),(105,iD (↑(i+1):Int))]) [Aj [Ae (nsD A) (Aa A),Ae (zAy l) (Aa l),Ae (zA4 l) (Aa l)] (79:TypeId) 0 Ac Ac Ak,Aj [nl,nl,nl] (79:TypeId) 0 Ac Ac Ak,Aj [Ah 3 0 (Aa c) (Aa c) Ab,Ah 6 0 (Aa W+1) (Aa W+1) Ab,Ah 7 0 (Aa W+1) (Aa W+1) Ab] 79 0 Ac Ac Ak,Aj (nsD (Ad (λ(j:Nat)=>Ao A j 0) c)) (3:TypeId) 1 Ab Ac Ak,Aj (nsD c) (3:TypeId) 1 Ab Ab Ak,Aj (nsD (Ay (Aa (K++[zQ row c])))) (262:TypeId) 0 Ab Ac (Kd.map (Ad kyv (K++[zQ row c]))),Aj (Ad rowV K++[Ae (zM (zQ row c)) (Aa c)]) (110:TypeId) 1 Ab Ac Ak,Aj (List.set (Ad whD W++[Ae (Ad zAd (Subtype.val z)) (Aa (Subtype.val z))]) (Aa W) (Ae (Ad zAd (Subtype.val w)) (Aa (Subtype.val w)))) 81 1 Ab Ac Ak,Aj [Ae (zM (zQ row c)) (Aa c)] 110 1 Ab Ac Ak,Aj [Ae (Ad zAd (Subtype.val z)) (Aa (Subtype.val z))] 81 1 Ab Ac Ak] ?_;rw[hse];have hpl:(zQ row c).length=c.length:=by simp[zQ]
  rw[show(K++[zQ row c]).map rowV=K.map rowV++[.row (zM (zQ row c)) c.length] by rw[<-hpl];simp,show(W++[w]).map whD=W.map whD++[whD w] by simp,show(W++[w]).length=W.length+1 by simp];refine vk 8
 have hn:Ndk (sumT Sw.add [] L):=zKh _ L [] (by simp[Ndk]);rw[AI (by omega)]at g2 g3;have hso:=zVz (c.map λj=>A.getD j 0) (sumT Sw.add [] L) (by rw[<-Az (f:=λp:Rw×Wh=>p.1),<-g2];exact hKl) (λp hp=>by
  have:=(zSk _ L [] p hp).resolve_left (by simp)
  obtain⟨q,hq,e⟩:=Av.1 this;rw[<-hL]at hq;obtain⟨q',_,rfl⟩:=Av.1 hq;rw[<-e];simp only[zQ,Az];omega) hn
 have hT:(sumT Sw.add [] L).length=W.length:=by rw[g3,Az]
 have ht1:=zPk (c.map λj=>A.getD j 0) c.length (by simp);have ht2:(K.map rowV).take W.length=K.map rowV:=AI (by simp[hKW]);have ht3:(W.map whD).take W.length=W.map whD:=AI (by simp);simp only[fcDW,zAy,zA4,<-g2,<-g3,hT]at hso;rw[Az]at hso;refine zA<|zB rfl<|v0s<|veT<|zA<|vF ((i:Int)<(Aa l:Int))<|zAx<|zP<|zP<|zAm rfl<|zC<|zK<|zA<|zB rfl<|vr 1 (3<=3)<|vcl [Aw [Ae (Ap (Aa c)<|Ag 0<|AC<|intB<|nsD<|Ad (λ(j:Nat)=>Ao A j 0) c)<|Aa c,Ae (Ap (Aa W)<|Ag 0<|AC<|rowB<|Ad rowV K)<|Aa W,Ae (Ap (Aa W)<|Ag 0<|AC<|zE1<|Ad whD W)<|Aa W]] [Aw [Ae (nsD<|Ad (λ(j:Nat)=>Ao A j 0) c)<|Aa c,Ae (Ad rowV K)<|Aa W,Ae (Ad whD W)<|Aa W]] (LeL.of_eq (by simp(disch:=omega) only[AM,ht3,ht1,ht2])) (by exact hso)<|ve (az_)<|zG<|vre (3<=3) (Aw [Ae (nsD<|Ad (λ(j:Nat)=>Ao A j 0) c)<|Aa c,Ae (Ad rowV<|Ad (λ(x:Rw×Wh)=>Br x)<|srtL<|sumT (Sr.add Sw) [] L)<|Aa<|srtL<|sumT (Sr.add Sw) [] L,Ae (Ad whD<|Ad (λ(x:Rw×Wh)=>Prod.snd x)<|srtL<|sumT (Sr.add Sw) [] L)<|Aa<|srtL<|sumT (Sr.add Sw) [] L]) (.inr rfl) (by simp)
end
section
open Go.RowKit
set_option maxRecDepth 4096
abbrev zAj(f:Fa Wh):List D:=fcCW (f.A,f.l)
abbrev faAW(f:Fa Wh):D:=fcDW f.A f.l
theorem zA9(f:Fa Wh):(zAj f).length=3:=rfl
structure GofW(Dm:List Va)(f:Fa Wh):Prop where
 ok:FOk rcmp Dm f
 r:rz f<=900000
 v:wz f<=Bz
section
variable{Dm:List Va}(hD:Okv Dm)
theorem GofW.fv{f:Fa Wh}(h:GofW Dm f)(hD:Okv Dm):FVW (f.A,f.l):=
 ⟨h.ok.asc,h.ok.len,λp hp x hx=>(hD x (h.ok.dom p hp x hx)).2,by have:=h.r;unfold rz at this;simp only;omega,wz_ok h.v,h.ok.ndk rcw⟩
theorem zMo(hD:Okv Dm)(f g:Fa Wh)(os:List (Fa Wh))(hf:GofW Dm f)(hg:GofW Dm g)(ho:∀o∈os,GofW Dm o)(hl:os.length<=1000)(hr:rz f*rz g<=900000):
  Pure An 73 [proD,faAW f,faAW g, .row (os.flatMap zAj) os.length] [] (faAW (fmul rcmp Sw f g os)):=by
 simp only[rz,Nat.mul_add,Nat.add_mul]at hr;have h:=zY5 (f.A,f.l) (g.A,g.l) (os.map λo=>(o.A,o.l)) (hf.fv hD) (hg.fv hD) (λo hm=>by
  obtain⟨o',hm',rfl⟩:=Av.1 hm;exact(ho o' hm').fv hD) (by simpa using hl) (by simp only;omega)
 have e1:(os.map λo=>(o.A,o.l)).flatMap fcCW=os.flatMap zAj:=by rw[BW]
 rw[e1,Az]at h;have e2:((zB9 Sw.mul f.A f.l g.A g.l).filter λp=>(os.map λo=>(o.A,o.l)).all λo=>okO (un f.A g.A) p.1 (faNW o))=(zB9 Sw.mul f.A f.l g.A g.l).filter λp=>os.all λo=>okO (un f.A g.A) p.1 o:=by
  refine Cq λp _=>?_;rw[List.all_map];rfl
 have hn:=zF5 (f:=Sw.mul) hf.ok.asc hg.ok.asc (hf.ok.ndk rcw) (hg.ok.ndk rcw) hf.ok.len hg.ok.len;have e3:fmul rcmp Sw f g os=⟨un f.A g.A,srtL ((zB9 Sw.mul f.A f.l g.A g.l).filter λp=>os.all λo=>okO (un f.A g.A) p.1 o)⟩:=by
  unfold fmul;rw[zQt Sw.add (zF9 (λs=>os.all λo=>okO (un f.A g.A) s o) hn)]
 rw[e3,<-e2];exact h
theorem sumOutF_cW(hD:Okv Dm)(f:Fa Wh)(hf:GofW Dm f)(v:Nat)(hv:v∈f.A):Pure An 120 [proD,faAW f,iD (v:Nat)] [] (faAW (fsum rcmp Sw v f)):=by
 have hr:=hf.r;unfold rz at hr;have h:=sumOut_cW f.A f.l v (zCx hf.ok.asc) (by omega) hf.ok.len (λp hp x hx=>(hD x (hf.ok.dom p hp x hx)).2) (wz_ok hf.v) (λi=>sum_okW hf.v (λr=>zQ r (zBo (λu=>decide ((u:Int)≠(v:Int))) f.A)) i);have e1:f.A.filter (λu:Nat=>decide ((u:Int)≠(v:Int)))=less f.A v:=Cq λu _=>by
  grind
 rw[zT6,e1]at h;have e2:(f.l.map λp=>(zQ p.1 (zBo (λu:Nat=>decide ((u:Int)≠(v:Int))) f.A),p.2))=zJn f.A v f.l:=by
  unfold zJn;refine BH λp hp=>?_;rw[zFn hf.ok.asc.nd,e1];congr 1;conv=>rhs;rw[<-zLv hf.ok.asc.nd (hf.ok.len p hp),zPr,zEq hf.ok.asc.nd]
 rw[e2,zVy]at h;exact h
end
end
section
open Go.RowKit
attribute [local irreducible] seqW awp zY zZ zR Weak updS zAe retL Pure Acts rP setP setQ cP nP fr
set_option maxRecDepth 4096
set_option maxHeartbeats 8000000 in
theorem zZ8(fs:List (Fa Wh))(E:List Nat)(hE:Asc E)(hne:E≠[])(hA:∀f∈fs,Asc f.A)(hl:fs.length<=1000):
  Pure An 71 [.row (fs.flatMap zAj) fs.length,u32D (msk E)] [] (iD (zBb popN fs E:Nat)):=by
 have hm:=zKr (msk E) (zCc hE.2);rw[zHp hE]at hm;have nE:=zCx hE;refine zJ zDw mixed Tryz.func71 rfl<|zA<|zB rfl<|v0s<|veT<|zA<|zB rfl<|veT<|zA<|zA<|zB rfl<|vrT 1<|vc (hm)<|veT<|zF<|zA0 (λ(i:Nat)(b:Int)(l:Nat)=>fr 59 [(0,Ae (Af zAj fs)<|Aa fs),(4,iD 0),(5,iD b),(6,iD (l:Int)),(15,Ae (nsD E)<|Aa E),(16,iD (Aa E:Int)),(17,iD (i:Int))]) (λ(i:Nat)(b:Int)(l:Nat)=>[]) (λi b l=>E.length-i) (λ(i:Nat)(b:Int)(l:Nat)=>i<=E.length/\(b,l)=(E.take i).foldl (zGg popN fs) (-1,0)) 0 (-1) 0 ?_ ?_ ?_
 ·grind
 ·refine vk 0
 rintro i b l ⟨h1,h2⟩;rcases Ax i E.length with h3|h3
 ·have hz:=zA6 E i h3;have hneE:nsD E≠[]:=zV;have hst:=ch_succ fs E i h3 (-1,0);rw[<-h2]at hst;have hv32:=hE.2 _ (zDy E i h3);generalize E.getD i 0=v at*;refine zA<|zB rfl<|v0s<|veT<|zA<|vT ((i:Int)<(Aa E:Int))<|zL<|zC<|zK<|zA<|zF<|zA<|zB rfl<|vr 1 (ix (i:Int) (Aa E:Int) (nsD E≠[]))<|vp 19 (i) (nsD E)<|vr 1 (0<Aa (Ag i<|nsD E))<|vsh 20 hz<|veT<|zA<|zB rfl<|veT<|zA<|zB rfl<|veT<|zA<|zA<|zB rfl<|veT<|zF<|zN (λ(k:Nat)=>fr 59 [(0,Ae (Af zAj fs)<|Aa fs),(4,iD 0),(5,iD b),(6,iD (l:Int)),(8,iD (v:Int)),(9,u32D<|uniM v<|Ap k fs),(10,iD (↑(bigL v<|Ap k fs):Int)),(15,Ae (nsD E)<|Aa E),(16,iD (Aa E:Int)),(17,iD (i:Int)),(21,Ae (Af zAj fs)<|Aa fs),(22,iD (Aa fs:Int)),(23,iD (k:Int))]) (λ(k:Nat)=>[]) (λk=>fs.length-k) (λ(k:Nat)=>k<=fs.length) 0 ?_ ?_ ?_
  ·omega
  ·refine vk 0
  rintro k k1;rcases Ax k fs.length with k2|k2
  ·have hmf:=zAo fs Ai k k2;have hg2:=zDo zA9 fs k k2;have hle:=zHc zA9 fs k k2;have hne2:=zEk zA9 (by decide) fs;have hAf:=hA _ hmf;have nAf:=zCx hAf;have u1:=zVm v fs k k2;have u2:=zX2 v fs k k2;have u3:uniM v (fs.take k)<4294967296:=zNt v (fs.take k) 0 (by omega) λf hf=>(hA f (BI hf)).2;have sA:=zL4 (fs.getD k Ai).A _ rfl (by omega) hAf.2 (zAy (fs.getD k Ai).l) (zA4 (fs.getD k Ai).l) (fs.getD k Ai).l.length (fs.getD k Ai).l.length;have hma:=zCc hAf.2;have w1:=bit_b hma v;have w2:=bit_w hma v;rw[zC7]at w1 w2;have w3:=zHe (msk (fs.getD k Ai).A) hv32;have w4:=zX0 u3 hma;have w5:=zCk (zQw u3 hma);have w6:=max_nat (bigL v (fs.take k)) (fs.getD k Ai).A.length;generalize fs.getD k Ai=f at*;focus
    refine zA<|zB rfl<|v0s<|veT<|zA<|vT ((k:Int)<(Aa fs:Int))<|zL<|zC<|zK<|zA<|zF<|zA<|zB rfl<|vr 2 (ix (k:Int) (Aa fs:Int) (Af zAj fs≠[])/\3<=Aa (Ag (k*3)<|Af zAj fs))<|vs 26 (Aw<|Ap 3<|Ag (k*3)<|Af zAj fs) (Aw<|zAj f)<|ve (az_)<|zA<|zB rfl<|vr 1 (3<=3)<|vc (sA)<|vr 2 ((0:Int)<=(v:Int))<|vs 30 (Ar<|AF AD<|Int.fdiv (↑(msk<|AG f):Int) ((2:Int)^min (Am (v:Int)) 32)) (dig (msk (AG f)>>>v))<|vrT 1<|vs 31 (Ar<|AF AD<|AV AD (↑(AW (AB 32 (↑(msk (AG f)>>>v):Int)&&&AB 32 (1:Int))):Int)) (dig<|AW (AB 32 (↑(msk (AG f)>>>v):Int)&&&AB 32 (1:Int))) (hd:=by simp(disch:=omega) only[zBw])<|vrT 1<|vs 32 (bD ((↑(AW (AB 32 (↑(msk (AG f)>>>v):Int)&&&AB 32 (1:Int))):Int)==(1:Int))) (bD<|decide (v∈AG f))<|veT<|vcD (v∈AG f) (λhc=>?_)<|λhc=>?_;refine zA<|zB rfl<|vr 2 (3<=3)<|vc (sA)<|vrT 1<|vs 36 (Ar<|AF AD<|AV AD (↑(AW (AB 32 (↑(uniM v<|Ap k fs):Int)|||AB 32 (↑(msk<|AG f):Int))):Int)) (dig (uniM v (Ap k fs)|||msk (AG f)))<|veT<|zB rfl<|vr 5 (aK_)<|vs 41 (iD (if(Aa (AG f):Int)>(↑(bigL v<|Ap k fs):Int)then(Aa (AG f):Int)else(↑(bigL v<|Ap k fs):Int))) (iD (↑(max (bigL v<|Ap k fs)<|Aa<|AG f):Int))<|vrT 1<|vnil<|zD<|zC<|zK<|zB rfl<|vr 2 (i6 ((k:Int)+(1:Int)))<|vnil<|zC ?_;rotate_left;refine zL<|zD<|zC<|zK<|zB rfl<|vr 2 (i6 ((k:Int)+(1:Int)))<|vnil<|zC ?_;rotate_left
   ·rw[if_pos hc]at u1 u2;refine⟨k+1,by omega,by omega,?_⟩;rw[u1,u2];refine vk 0
   rw[if_neg hc]at u1 u2;refine⟨k+1,by omega,by omega,?_⟩;rw[u1,u2];refine vk 0
  obtain rfl:k=fs.length:=by omega
  have u3:uniM v fs<4294967296:=zNt v fs 0 (by omega) λf hf=>(hA f hf).2;have hp:=popN_c (uniM v fs) u3;rw[Bt];have hco:zJo popN fs v=if popN (uniM v fs)=bigL v fs then 0 else popN (uniM v fs):=rfl
  unfold zGg at hst;generalize popN (uniM v fs)=q at*;focus
   refine zA<|zB rfl<|v0s<|veT<|zA<|vF ((Aa fs:Int)<(Aa fs:Int))<|zAx<|zP<|zP<|zAm rfl<|zC<|zK<|zA<|zB rfl<|vrT 1<|vc (hp)<|veT<|zA<|zA<|zB rfl<|veT<|zAk (t:=(q:Int)==(↑(bigL v fs):Int)) (by kernel_rfl) (λhc=>?_)<|λhc=>?_;simp only[beq_iff_eq]at hc;refine zB rfl<|veT<|zA<|zB rfl<|vrT 3<|vspD 50 (b<0) (λhc=>?_)<|λhc=>?_;refine veT<|vt<|zB rfl<|vrT 4<|vnil<|zD<|zC<|zK<|zB rfl<|vr 2 (i6 ((i:Int)+(1:Int)))<|vnil<|zC ?_;rotate_left;refine veT<|vcD ((0:Int)<(l:Int)) (λhc=>?_)<|λhc=>?_;refine zB rfl<|vrT 4<|vnil<|zD<|zC<|zK<|zB rfl<|vr 2 (i6 ((i:Int)+(1:Int)))<|vnil<|zC ?_;rotate_left;refine zL<|zD<|zC<|zK<|zB rfl<|vr 2 (i6 ((i:Int)+(1:Int)))<|vnil<|zC ?_;rotate_left;simp only[beq_eq_false_iff_ne]at hc;refine zL<|zC<|zK<|zA<|zB rfl<|vrT 3<|vspD 50 (b<0) (λhc=>?_)<|λhc=>?_;refine veT<|vt<|zB rfl<|vrT 4<|vnil<|zD<|zC<|zK<|zB rfl<|vr 2 (i6 ((i:Int)+(1:Int)))<|vnil<|zC ?_;rotate_left;refine veT<|vcD ((q:Int)<(l:Int)) (λhc=>?_)<|λhc=>?_;refine zB rfl<|vrT 4<|vnil<|zD<|zC<|zK<|zB rfl<|vr 2 (i6 ((i:Int)+(1:Int)))<|vnil<|zC ?_;rotate_left;refine zL<|zD<|zC<|zK<|zB rfl<|vr 2 (i6 ((i:Int)+(1:Int)))<|vnil<|zC ?_;rotate_left
  ·have e:zJo popN fs v=0:=by rw[hco,if_pos (by omega)]
   rw[e,if_pos (by simp only;omega)]at hst;refine⟨i+1,(v:Int),0,⟨by omega,hst.symm⟩,by omega,?_⟩;refine vk 0
  ·have e:zJo popN fs v=0:=by rw[hco,if_pos (by omega)]
   rw[e,if_pos (by simp only;omega)]at hst;refine⟨i+1,(v:Int),0,⟨by omega,hst.symm⟩,by omega,?_⟩;refine vk 0
  ·have e:zJo popN fs v=0:=by rw[hco,if_pos (by omega)]
   rw[e,if_neg (by simp only;omega)]at hst;refine⟨i+1,b,l,⟨by omega,hst.symm⟩,by omega,?_⟩;refine vk 0
  ·have e:zJo popN fs v=q:=by rw[hco,if_neg (by omega)]
   rw[e,if_pos (by simp only;omega)]at hst;refine⟨i+1,(v:Int),q,⟨by omega,hst.symm⟩,by omega,?_⟩;refine vk 0
  ·have e:zJo popN fs v=q:=by rw[hco,if_neg (by omega)]
   rw[e,if_pos (by simp only;omega)]at hst;refine⟨i+1,(v:Int),q,⟨by omega,hst.symm⟩,by omega,?_⟩;refine vk 0
  have e:zJo popN fs v=q:=by rw[hco,if_neg (by omega)]
  rw[e,if_neg (by simp only;omega)]at hst;refine⟨i+1,b,l,⟨by omega,hst.symm⟩,by omega,?_⟩;refine vk 0
 rw[AI (by omega)]at h2;have hcm:=(zHz popN fs hne).2;rw[<-h2]at hcm;refine zA<|zB rfl<|v0s<|veT<|zA<|vF ((i:Int)<(Aa E:Int))<|zAx<|zP<|zP<|zAm rfl<|zC<|zK<|zA<|zB rfl<|veT<|zG<|vre (True) (Ar<|AF Bh b) (.inr rfl) ?_;rw[<-hcm]
end
section
open Go.RowKit
set_option maxRecDepth 4096
abbrev fsBW(l:List D):Bk:=⟨l,79,3,Ab,Ac, .plain⟩
theorem grow_cW(n:Nat)(hn:0<n)(hb:n<=1000000):Pure An 153 [nl,iD (n:Nat)] [fsBW []] (.osl 0 0 0 0 Ab):=by
 obtain⟨i0,hi0⟩:∃i0,An.info? 79=Aq i0/\i0.size=3/\i0.bytes=72/\i0.zero=Aq (.agg #[.slice AE 0 0, .slice AE 0 0, .slice AE 0 0]):=⟨(An.info? 79).getD Ai,by kernel_rfl,by kernel_rfl,by kernel_rfl,by kernel_rfl⟩;obtain⟨h1,h2,h3,h4⟩:=hi0;intro I w vs hr hi hg;rw[zFl [.slice AE 0 0, .int .i64 n] vs hr];have hc:=Any8.slices_Grow_grow Tryz.grow153 i0 _ h1 h4 (by omega) AE 0 0 n [] w (Bd _) (by omega) (by rw[h3];omega) (by omega) (by simp) (λ_=>rfl) (λa h=>by cases h);have hge:=grownCap_ge w (0+n) 0 (Tryz.grow153_ren.t 25);have hmx:=grownCap_le_maxLen w (0+n) 0 (Tryz.grow153_ren.t 25) (by unfold maxLen;omega);generalize grownCap w (0+n) 0 (Tryz.grow153_ren.t 25)=G at*;refine hc.mono ?_;rintro e w' ⟨rfl,rfl⟩;have key:∀{k b c:Nat},(if k=0 then Aq (w.heap.size,G)else AE)=Aq (b,c)->k=0/\b=w.heap.size/\c=G:=λ{k b c} h=>by
  grind
 have hext:∀o,Ext w (w.drew.alloc o):=λo=>(Ext.drew w).trans (Ext.alloc _ o);refine⟨_,I,λk=>if k=0 then Aq (w.heap.size,G)else AE,rfl,hext _,λb o hb=>Nat.lt_of_lt_of_le (hi b o hb) (hext _).size,Fix.ext (hext _) λ_ _ h=>h,λ_ _ h=> .inl h,λk b c h=>?_,λk b c h=>?_,λk k' b c c' h h'=>?_,λk b c j e h he hij=>?_,λk y h=>?_,?_,by simp⟩
 ·grind
 ·obtain⟨rfl,rfl,rfl⟩:=key h;refine⟨fsBW [],rfl,OwnC.r ⟨(#[]++Builtin.zeroCells (Value.agg #[Bs AE 0 0,Bs AE 0 0,Bs AE 0 0]).cells (0+n-0)++Builtin.zeroCells (Value.agg #[Bs AE 0 0,Bs AE 0 0,Bs AE 0 0]).cells (c-(0+n))).toList,?_,A9 _,?_,λ_=>?_,hmx⟩ rfl⟩
  ·rw[Co];exact heap_alloc_new w.drew _
  ·rfl
  rw[Array.length_toList,Array.size_append,Array.size_append,size_zeroCells,size_zeroCells,show(Value.agg #[Bs AE 0 0,Bs AE 0 0,Bs AE 0 0]).cells.size=3 from rfl];grind
 ·grind
 ·have:=hi b j hij
  have:=(key h).2.1
  omega
 ·grind
 simp only[Rel];grind
theorem grow0_cW:Pure An 153 [nl,iD ((0:Nat):Int)] [] nl:=
 zC6 (us:=[.slice AE 0 0, .int .i64 ((0:Nat):Int)]) (λw=>(Any8.slices_Grow_room Tryz.grow153 AE 0 0 0 w (by omega) (by omega) (by omega) (by omega)).mono λe w' h=>⟨h.1,h.2.symm⟩)
end
section
open Go.RowKit
attribute [local irreducible] seqW awp zY zZ zR Weak updS zAe retL Pure Acts rP setP setQ cP nP fr
set_option maxRecDepth 4096
set_option maxHeartbeats 2000000 in
theorem concat_cW(a b:List D)(n m:Nat)(ha:a.length=n*3)(hb:b.length=m*3)(hn:n<=1000)(hm:m<=1000)(n1:∀d∈a,True):Pure An 119 [.row [.row a n, .row b m] 2] [] (.row (a++b) (n+m)):=by
 have zadd:(n:Int)+(m:Int)=((n+m:Nat):Int):=by omega
 have ht:(a++b).take ((n+m)*3)=a++b:=AI (by rw[AT];omega);rcases BM (n+m)with h|h
 ·obtain rfl:n=0:=by omega
  obtain rfl:m=0:=by omega
  obtain rfl:a=[]:=BN (by omega);obtain rfl:b=[]:=BN (by omega);refine zJ zDw mixed Tryz.func119 rfl<|zA<|zB rfl<|v0s<|veT<|zA<|zB rfl<|veT<|zA<|zA<|zB rfl<|veT<|zF<|zAa<|zA<|zB rfl<|veT<|zA<|vt<|zL<|zC<|zK<|zA<|zF<|zA<|zB rfl<|ve (ix (0:Int) (↑(2:Nat):Int) ([Ae [] 0,Ae [] 0]≠[])/\0<2)<|zA<|zB rfl<|ve (i6 ((0:Int)+(↑(0:Nat):Int)))<|zA<|zB rfl<|veT<|vf<|zL<|zD<|zC<|zK<|zB rfl<|vr 2 (i6 ((0:Int)+(1:Int)))<|vnil<|zC<|zAa ?_;refine zA<|zB rfl<|veT<|zA<|vt<|zL<|zC<|zK<|zA<|zF<|zA<|zB rfl<|ve (ix (1:Int) (↑(2:Nat):Int) ([Ae [] 0,Ae [] 0]≠[])/\0<1)<|zA<|zB rfl<|ve (i6 ((0:Int)+(↑(0:Nat):Int)+(↑(0:Nat):Int)))<|zA<|zB rfl<|veT<|vf<|zL<|zD<|zC<|zK<|zB rfl<|vr 2 (i6 ((1:Int)+(1:Int)))<|vnil<|zC<|zAa<|zA<|zB rfl<|veT<|zA<|vf<|zAx<|zP<|zP<|zAm rfl<|zC<|zK<|zA<|zB rfl<|vrT 1<|vc (grow0_cW)<|veT<|zA<|zA<|zB rfl<|veT<|zF<|zAa<|zA<|zB rfl<|veT<|zA<|vt<|zL<|zC<|zK<|zA<|zF<|zA<|zB rfl<|ve (ix (0:Int) (↑(2:Nat):Int) ([Ae [] 0,Ae [] 0]≠[])/\0<2)<|zB rfl<|vr 4 (0=0/\0<3/\0<72/\79=79/\0<=140737488355328/\3=3)<|vnil<|zD<|zC<|zK<|zB rfl<|vr 2 (i6 ((0:Int)+(1:Int)))<|vnil<|zC<|zAa<|zA<|zB rfl<|veT<|zA<|vt<|zL<|zC<|zK<|zA<|zF<|zA<|zB rfl<|ve (ix (1:Int) (↑(2:Nat):Int) ([Ae [] 0,Ae [] 0]≠[])/\0<1)<|zB rfl<|vr 4 (Ab=Ab/\0=0/\0=0/\79=79/\3=3/\0=0/\0<3/\0<72/\79=79/\0<=140737488355328/\3=3/\Ac=Ac/\(Ac=Ac\/Ac=Ab))<|vnil<|zD<|zC<|zK<|zB rfl<|vr 2 (i6 ((1:Int)+(1:Int)))<|vnil<|zC<|zAa<|zA<|zB rfl<|veT<|zA<|vf<|zAx<|zP<|zP<|zAm rfl<|zC<|zK<|zA<|zB rfl<|veT<|zG<|vret (True)<|.inr rfl
 have hg:=grow_cW (n+m) h (by omega);refine zJ zDw mixed Tryz.func119 rfl<|zA<|zB rfl<|v0s<|veT<|zA<|zB rfl<|veT<|zA<|zA<|zB rfl<|veT<|zF<|zAa<|zA<|zB rfl<|veT<|zA<|vt<|zL<|zC<|zK<|zA<|zF<|zA<|zB rfl<|ve (ix (0:Int) (↑(2:Nat):Int) ([Ae a n,Ae b m]≠[])/\0<2)<|zA<|zB rfl<|vr 4 (i6 ((0:Int)+(n:Int)))<|vs 18 (iD ((0:Int)+(n:Int))) (iD (n:Int)) (hd:=by simp(disch:=omega) only[Int.zero_add])<|veT<|zA<|zB rfl<|veT<|vF ((n:Int)<0)<|zL<|zD<|zC<|zK<|zB rfl<|vr 2 (i6 ((0:Int)+(1:Int)))<|vnil<|zC<|zAa<|zA<|zB rfl<|veT<|zA<|vt<|zL<|zC<|zK<|zA<|zF<|zA<|zB rfl<|ve (ix (1:Int) (↑(2:Nat):Int) ([Ae a n,Ae b m]≠[])/\0<1)<|zA<|zB rfl<|ve (i6 ((n:Int)+(m:Int)))<|zA<|zB rfl<|veT<|vF ((↑(n+m):Int)<0)<|zL<|zD<|zC<|zK<|zB rfl<|vr 2 (i6 ((1:Int)+(1:Int)))<|vnil<|zC<|zAa<|zA<|zB rfl<|veT<|zA<|vf<|zAx<|zP<|zP<|zAm rfl<|zC<|zK<|zA<|zB rfl<|vrT 1<|vn (hg)<|veT<|zA<|zA<|zB rfl<|veT<|zF<|zAa<|zA<|zB rfl<|veT<|zA<|vt<|zL<|zC<|zK<|zA<|zF<|zA<|zB rfl<|ve (ix (0:Int) (↑(2:Nat):Int) ([Ae a n,Ae b m]≠[])/\0<2)<|zB rfl<|vr 4 (Ab=Ab/\0=0/\0=0/\79=79/\3=3/\Aa a=n*3/\0<3/\0<72/\79=79/\(0+n)*72<=140737488355328/\3=3/\Ac=Ac/\(Ac=Ac\/Ac=Ab))<|vs 6 (Ah 0 0 (0+n) ((0+n)*3) Ab) (Ah 0 0 n (n*3) Ab)<|vnil<|zD<|zC<|zK<|zB rfl<|vr 2 (i6 ((0:Int)+(1:Int)))<|vnil<|zC<|zAa<|zA<|zB rfl<|veT<|zA<|vt<|zL<|zC<|zK<|zA<|zF<|zA<|zB rfl<|ve (ix (1:Int) (↑(2:Nat):Int) ([Ae a n,Ae b m]≠[])/\0<1)<|zB rfl<|vr 4 (AS (Aj a 79 3 Ab Ac Ak)=Ab/\Aa a=n*3/\n*3=n*3/\AJ (Aj a 79 3 Ab Ac Ak)=79/\AK (Aj a 79 3 Ab Ac Ak)=3/\Aa b=m*3/\0<3/\0<72/\79=79/\(n+m)*72<=140737488355328/\3=3/\AO (Au<|Aj a 79 3 Ab Ac Ak)=Ac/\(Ac=Ac\/AQ (Au<|Aj a 79 3 Ab Ac Ak)=Ab))<|vnil<|zD<|zC<|zK<|zB rfl<|vr 2 (i6 ((1:Int)+(1:Int)))<|vnil<|zC<|zAa<|zA<|zB rfl<|veT<|zA<|vf<|zAx<|zP<|zP<|zAm rfl<|zC<|zK<|zA<|zB rfl<|veT<|zG<|zBt (True) (Ae (Ap ((n+m)*3)<|Ag 0 (a++b)) (n+m)) (Ae (a++b) (n+m)) (.inr rfl) (by simp(disch:=omega) only[AM,ht]) rfl
theorem info_fasW:(An.info? 79).map (λi=>(i.zero,i.size,i.bytes))=Aq (Aq (.agg #[.slice AE 0 0, .slice AE 0 0, .slice AE 0 0]),3,72):=by kernel_rfl
set_option maxHeartbeats 400000 in
theorem clone0_fasW:Pure An 70 [.row [] 0] [⟨[],79,3,Ab,Ac, .plain⟩] (.osl 0 0 0 0 Ab):=by
 refine zEz λI w vs hr=>?_;simp only[RelT,Rel]at hr;obtain⟨v,ys,rfl,⟨a,c,rfl,_,_,hc,_⟩,rfl⟩:=hr;cases a with
 |none=>
  obtain rfl:=hc rfl;have he:=λ(w:World)=>Lib.run_eql_slice_nil (P:=An) w 71 79 AE 0 0 0 0 Tryz.underlying71;go_enter Tryz.func70,Tryz.ntmps70;go_wp2;go_ret;exact .inl ⟨rfl,Ext.refl _⟩
 |some x=>
  obtain⟨i0,hi,hz0,hz1,hz2⟩:=info_parts info_fasW;have he:=λ(w:World)=>Lib.run_eql_slice_nil (P:=An) w 71 79 (Aq x) 0 c 0 0 Tryz.underlying71;have hS:RowAt (λ_=>True) w (Aq x) []:= .inl rfl;go_enter Tryz.func70,Tryz.ntmps70;go_wp2_with (at_builtin;refine zBx rfl _ _ 71 rfl w.heap.size 79 i0 (.agg #[.slice AE 0 0, .slice AE 0 0, .slice AE 0 0]) 3 72 Tryz.underlying71 hi hz0 hz1 hz2 rfl (by decide) (.slice (Aq ⟨w.heap.size,0,AE⟩) 0 0) 0 [] rfl (World.ownsRow_made _ #[] 0 (Bd _) (A9 _) rfl) x 0 c [] rfl (by simp) (by simp) (by simp) (by simp[maxLen]) (by decide) (by simp) ?_;intro v' w' hown hgrow hdr);go_ret;have hext:Ext w w':=⟨((Below.refl _ _).alloc (Bd _) _).grown hgrow (by simp) (by simp[Value.ownBlock]),hdr⟩;obtain⟨_,⟨rfl,_⟩|⟨g,cap,cur,rfl,hb,hg,_,hc1,hs,_⟩⟩:=hown
  ·simp_all
  exact .inr ⟨g,cur.toList,cap,rfl,hb,hext,by rw[Co];exact hg,by simpa using hs,hc1⟩
theorem cloneF_cW(a:List D)(n:Nat)(ha:a.length=n*3)(hn:n<=1000):Pure An 70 [.row a n] [] (.row a n):=by
 by_cases h0:n=0
 ·subst h0;obtain rfl:a=[]:=BN (by omega);exact clone0_fasW.frozen rfl rfl
 have h1:0<n:=by omega
 have ht:a.take (n*3)=a:=AI (by omega);refine zJ zDw mixed Tryz.func70 rfl<|zA<|zB rfl<|v0s<|veT<|zA<|zA<|zB rfl<|ve (0<n)<|vf<|zL<|zC<|zK<|zA<|zB rfl<|vr 4 ((True/\0<3/\3=3/\0<=16777216/\0<=9223372036854775807)/\Ab=Ab/\0=0/\0=0/\79=79/\3=3/\Aa a=n*3/\0<3/\0<72/\79=79/\(0+n)*72<=140737488355328/\3=3/\Ac=Ac/\(Ac=Ac\/Ac=Ab))<|vs 2 (Ah 0 0 (0+n) ((0+n)*3) Ab) (Ah 0 0 n (n*3) Ab)<|veT<|zG<|zBt (True) (Ae (Ap (n*3)<|Ag 0 a) n) (Ae a n) (.inr rfl) (by simp(disch:=omega) only[AM,ht]) rfl
theorem zL9(l:List (Fa Wh)):(l.flatMap zAj).length=l.length*3:=zHx zA9 l
theorem with_succW(v:Nat)(fs:List (Fa Wh))(k:Nat)(h:k<fs.length):zFs v (fs.take (k+1))=zFs v (fs.take k)++(if v∈(fs.getD k Ai).A then[fs.getD k Ai]else[])/\zEy v (fs.take (k+1))=zEy v (fs.take k)++(if v∈(fs.getD k Ai).A then[]else[fs.getD k Ai]):=by
 grind [zBl,zFs,zEy]
theorem zTx(l:List (Fa Wh))(f:Fa Wh):(l++[f]).flatMap zAj=l.flatMap zAj++zAj f:=by simp
section
variable{Dm:List Va}
set_option maxHeartbeats 8000000 in
theorem zXk(hD:Okv Dm)(fs:List (Fa Wh))(v:Nat)(hf:∀f∈fs,FOk rcmp Dm f)(hl:fs.length<=500)(hr:pz rz fs<=900000)(hz:pz wz fs<=Bz)(hv:∃f∈fs,v∈f.A)(hv32:v<32):
  Pure An 72 [proD, .row (fs.flatMap zAj) fs.length,iD (v:Nat)] [] (.row ((elim rcmp Sw v fs).flatMap zAj) (elim rcmp Sw v fs).length):=by
 have hg:∀f∈fs,GofW Dm f:=λf h=>⟨hf f h,As (zMl zFi h) hr,As (zMl zNo h) hz⟩;refine zJ zDw mixed Tryz.func72 rfl<|zA<|zB rfl<|v0s<|veT<|zA<|zB rfl<|veT<|zA<|zA<|zB rfl<|veT<|zF<|zA0 (λ(k:Nat)(a:List (Fa Wh))(b:List (Fa Wh))=>fr 65 [(0,proD),(2,iD (v:Int)),(6,nl),(7,Ah 0 0 (Aa a) (Aa a*3) Ab),(8,Ah 1 0 (Aa b) (Aa b*3) Ab),(14,Ae (Af zAj fs)<|Aa fs),(15,iD (Aa fs:Int)),(16,iD (k:Int))]) (λ(k:Nat)(a:List (Fa Wh))(b:List (Fa Wh))=>[fsBW<|a.flatMap zAj,fsBW<|b.flatMap zAj]) (λk a b=>fs.length-k) (λ(k:Nat)(a:List (Fa Wh))(b:List (Fa Wh))=>k<=fs.length/\a=zFs v (fs.take k)/\b=zEy v (fs.take k)) 0 [] [] ?_ ?_ ?_
 ·exact⟨by omega,rfl,rfl⟩
 ·refine vk 0
 rintro k a b ⟨h1,ha,hb⟩;rcases Ax k fs.length with h2|h2
 ·have hmf:=zAo fs Ai k h2;have hg2:=zDo zA9 fs k h2;have hle:=zHc zA9 fs k h2;have hne2:=zEk zA9 (by decide) fs;have hAf:=(hf _ hmf).asc;have nAf:=zCx hAf;have sA:=zL4 (fs.getD k Ai).A _ rfl (by omega) hAf.2 (zAy (fs.getD k Ai).l) (zA4 (fs.getD k Ai).l) (fs.getD k Ai).l.length (fs.getD k Ai).l.length;have hma:=zCc hAf.2;have w1:=bit_b hma v;have w2:=bit_w hma v;rw[zC7]at w1 w2;have w3:=zHe (msk (fs.getD k Ai).A) hv32;obtain⟨u1,u2⟩:=with_succW v fs k h2;rw[<-ha]at u1;rw[<-hb]at u2;have la:a.length<=500:=by rw[ha];exact As (Bj _ _) (by simp;omega)
  have lb:b.length<=500:=by rw[hb];exact As (Bj _ _) (by simp;omega)
  have ca:=zL9 a;have cb:=zL9 b;generalize fs.getD k Ai=f at*;focus
   refine zA<|zB rfl<|v0s<|veT<|zA<|vT ((k:Int)<(Aa fs:Int))<|zL<|zC<|zK<|zA<|zF<|zA<|zB rfl<|vr 2 (ix (k:Int) (Aa fs:Int) (Af zAj fs≠[])/\3<=Aa (Ag (k*3)<|Af zAj fs))<|vs 19 (Aw<|Ap 3<|Ag (k*3)<|Af zAj fs) (Aw<|zAj f)<|ve (az_)<|zA<|zB rfl<|vr 1 (3<=3)<|vc (sA)<|vr 2 ((0:Int)<=(v:Int))<|vs 23 (Ar<|AF AD<|Int.fdiv (↑(msk<|AG f):Int) ((2:Int)^min (Am (v:Int)) 32)) (dig (msk (AG f)>>>v))<|vrT 1<|vs 24 (Ar<|AF AD<|AV AD (↑(AW (AB 32 (↑(msk (AG f)>>>v):Int)&&&AB 32 (1:Int))):Int)) (dig<|AW (AB 32 (↑(msk (AG f)>>>v):Int)&&&AB 32 (1:Int))) (hd:=by simp(disch:=omega) only[zBw])<|vrT 1<|vs 25 (bD ((↑(AW (AB 32 (↑(msk (AG f)>>>v):Int)&&&AB 32 (1:Int))):Int)==(1:Int))) (bD<|decide (v∈AG f))<|veT<|vcD (v∈AG f) (λhc=>?_)<|λhc=>?_;refine zB rfl<|vr 5 (aB_ (AS (fsBW<|Af zAj a)=Ab/\Aa (AC<|fsBW<|Af zAj a)=Aa a*3/\Aa a*3=Aa a*3/\AJ (fsBW<|Af zAj a)=79/\AK (fsBW<|Af zAj a)=3/\3=3/\0<3/\0<72/\79=79/\(Aa a+1)*72<=140737488355328/\3=3/\AO (Au<|fsBW<|Af zAj a)=Ac/\(Ac=Ac\/AQ (Au<|fsBW<|Af zAj a)=Ab)))<|vnil<|zD<|zC<|zK<|zB rfl<|vr 2 (i6 ((k:Int)+(1:Int)))<|vnil<|zC ?_;rotate_left;refine zB rfl<|vr 5 (aB_ (AS (fsBW<|Af zAj b)=Ab/\Aa (AC<|fsBW<|Af zAj b)=Aa b*3/\Aa b*3=Aa b*3/\AJ (fsBW<|Af zAj b)=79/\AK (fsBW<|Af zAj b)=3/\3=3/\0<3/\0<72/\79=79/\(Aa b+1)*72<=140737488355328/\3=3/\AO (Au<|fsBW<|Af zAj b)=Ac/\(Ac=Ac\/AQ (Au<|fsBW<|Af zAj b)=Ab)))<|vnil<|zD<|zC<|zK<|zB rfl<|vr 2 (i6 ((k:Int)+(1:Int)))<|vnil<|zC ?_;rotate_left
  ·rw[if_pos hc]at u1 u2;rw[Bg]at u2;refine⟨k+1,a++[f],b,⟨by omega,u1.symm,u2.symm⟩,by omega,?_⟩;rw[zTx,zGb];refine vk 2
  rw[if_neg hc]at u1 u2;rw[Bg]at u1;refine⟨k+1,a,b++[f],⟨by omega,u1.symm,u2.symm⟩,by omega,?_⟩;rw[zTx,zGb];refine vk 2
 rw[AI (by omega)]at ha hb;have hperm:=zEo v fs;rw[<-ha,<-hb]at hperm;have hpr:=zPa rz hperm;have hpv:=zPa wz hperm;have hmem:=λf=>hperm.mem_iff (a:=f);have hvin:∀f∈a,v∈f.A:=λf h=>by
  grind [zFs]
 have hlen:=hperm.length_eq;rw[AT]at hlen;cases a with
 |nil=>
  grind [zFs]
 | cons p ws=>
  have hel:elim rcmp Sw v fs=b++[fsum rcmp Sw v (zCm rcmp Sw p ws b)]:=by
   grind [elim]
  rw[hel];clear hel ha hb hv;have h0:((p::ws).flatMap zAj).take 3=zAj p:=rfl;have hfa:=zFq zA9 (p::ws) (ws.length+1) rfl;have hfb:=zFq zA9 b _ rfl;refine zA<|zB rfl<|v0s<|veT<|zA<|vF ((k:Int)<(Aa fs:Int))<|zAx<|zP<|zP<|zAm rfl<|zC<|zK<|zA<|zB rfl<|vr 5 (((0:Int)<=(0:Int)/\(0:Int)<(↑(Aa ws+1):Int))/\3<=Aa (Ag 0<|AC<|fsBW<|Af zAj (p::ws))/\az_)<|vnil<|zC<|vnn (fr 65 [(0,proD),(2,iD (v:Int)),(6,nl),(7,Ah 0 0 (Aa (p::ws)) (Aa (p::ws)*3) Ab),(8,Ah 1 0 (Aa b) (Aa b*3) Ab),(11,Al 2 0),(14,Ae (Af zAj fs)<|Aa fs),(15,iD (Aa fs:Int)),(16,iD (k:Int)),(17,bD<|decide ((k:Int)<(Aa fs:Int))),(35,Ah 0 0 (Aa ws+1) ((Aa ws+1)*3) Ab),(36,Al 0 0),(37,Aw [Ae (nsD<|AG p)<|Aa<|AG p,Ae (zAy<|AZ p)<|Aa<|AZ p,Ae (zA4<|AZ p)<|Aa<|AZ p])]) [fsBW<|Af zAj (p::ws),fsBW<|Af zAj b,Aj [Ae (nsD<|AG p)<|Aa<|AG p,Ae (zAy<|AZ p)<|Aa<|AZ p,Ae (zA4<|AZ p)<|Aa<|AZ p] 79 0 Ac Ac Ak] ?_;clear h1 h2 hperm;refine zBh (((By (s:=7) (k:=0) (off:=0) (n:=ws.length+1) (m:=(ws.length+1)*3) (wh:=Ab) (cs:=(p::ws).flatMap zAj) (by kernel_rfl) (by exact(show Aq (Ae ((((p::ws).flatMap zAj).drop 0).take ((ws.length+1)*3)) (ws.length+1),[0])=_ by rw[AM,hfa]))).trans (By (s:=8) (k:=1) (off:=0) (n:=b.length) (m:=b.length*3) (wh:=Ab) (cs:=b.flatMap zAj) (by kernel_rfl) (by exact(show Aq (Ae (((b.flatMap zAj).drop 0).take (b.length*3)) b.length,[1])=_ by rw[AM,hfb])))).trans<|Weak.leS (s:=7) (d':= .row ((p::ws).flatMap zAj) (ws.length+1)) (by kernel_rfl)<|LeD.osr_row 0 0 (ws.length+1) ((ws.length+1)*3) Ab<|(p::ws).flatMap zAj) ?_;have hs1:((p::ws).flatMap zAj).drop 3=ws.flatMap zAj:=rfl;have hs2:(ws.flatMap zAj).take (ws.length*3)=ws.flatMap zAj:=zFq zA9 ws _ rfl;have hwl:ws.length<=500:=by simp only[AL]at hlen;omega
  refine zA<|zA<|zB rfl<|v0s<|vr 2 ((0:Int)<=(1:Int)/\True/\True/\0<3/\1<=Aa ws+1/\Aa ws+1<=Aa ws+1/\Aa ws+1=Aa ws+1)<|vs 39 (Ae (Ap ((Aa ws+1-1)*3)<|Ag 3<|Af zAj (p::ws)) (Aa ws+1-1)) (Ae (Af zAj ws)<|Aa ws) (hd:=by simp(disch:=omega) only[Bw,hs1,hs2])<|veT<|zF ?_;have hp1:=hf p ((hmem p).1 (by simp));have hws:∀f∈ws,f∈fs:=λf h=>(hmem f).1 (B7 _ (A1 _ h));have hbs:∀f∈b,f∈fs:=λf h=>(hmem f).1 (B8 _ h);have b1:rz p*pz rz ws<=900000:=by
   rw[zPb,zCi]at hpr;exact As (AU _ (zFm zFi b)) (by omega)
  have b2:wz p*pz wz ws<=Bz:=by
   rw[zPb,zCi]at hpv;exact As (AU _ (zFm zNo b)) (by omega)
  refine zA0 (λ(t:Nat)(A:List Nat)(l:List (Rw×Wh))=>fr 65 [(0,proD),(2,iD (v:Int)),(6,nl),(7,Ae (Af zAj (p::ws)) (Aa ws+1)),(8,D.osr 1 0 (Aa b) (Aa b*3) Ab<|Af zAj b),(11,Al 2 0),(39,Ae (Af zAj ws)<|Aa ws),(40,iD (Aa ws:Int)),(41,iD (t:Int))]) (λ(t:Nat)(A:List Nat)(l:List (Rw×Wh))=>[⟨(p::ws).flatMap zAj,79,3,Ab,Ab,.plain⟩,⟨b.flatMap zAj,79,3,Ab,Ab,.plain⟩,fB1W (.row (nsD A) A.length) (.row (zAy l) l.length)<|.row (zA4 l) l.length]) (λt A l=>ws.length-t) (λ(t:Nat)(A:List Nat)(l:List (Rw×Wh))=>t<=ws.length/\zCm rcmp Sw ⟨A,l⟩ (ws.drop t) b=zCm rcmp Sw p ws b/\FOk rcmp Dm ⟨A,l⟩/\rz (⟨A,l⟩:Fa Wh)*pz rz (ws.drop t)<=900000/\wz (⟨A,l⟩:Fa Wh)*pz wz (ws.drop t)<=Bz/\v∈A) 0 p.A p.l ?_ ?_ ?_
  ·simp_all
  ·refine vk 3
  rintro t A l ⟨t1,t2,t3,t4,t5,t6⟩;rcases Ax t ws.length with t7|t7
  ·have hmf:=zAo ws Ai t t7;have hg2:=zDo zA9 ws t t7;have hle:=zHc zA9 ws t t7;have hne2:=zEk zA9 (by decide) ws;have hdr:ws.drop t=ws.getD t Ai::ws.drop (t+1):=by
    simp_all
   rw[hdr]at t2 t4 t5;rw[zCi,<-BO]at t4 t5;have q1:rz (⟨A,l⟩:Fa Wh)*rz (ws.getD t Ai)<=900000:=As (AU _ (zFm zFi _)) t4;have q2:wz (⟨A,l⟩:Fa Wh)*wz (ws.getD t Ai)<=Bz:=As (AU _ (zFm zNo _)) t5;have gA:GofW Dm ⟨A,l⟩:=⟨t3,As (AU _ (zFi _)) q1,As (AU _ (zNo _)) q2⟩;have hmul:=zMo hD ⟨A,l⟩ (ws.getD t Ai) (ws.drop (t+1)++b) gA (hg _ (hws _ hmf)) (λo ho=>by
    rcases BA.1 ho with h|h
    ·exact hg _ (hws _ (BP h))
    exact hg _ (hbs _ h)) (by rw[AT,A2];simp only[AL]at hlen;omega) q1
   have r1:=zJ1 (c:=rcmp) Sw ⟨A,l⟩ (ws.getD t Ai) (ws.drop (t+1)++b);have r2:=zTt (c:=rcmp) ⟨A,l⟩ (ws.getD t Ai) (ws.drop (t+1)++b);have r3:=zHw (S:=Sw) rcw t3 (hf _ (hws _ hmf)) (ws.drop (t+1)++b);have r4:=As (A7 (pz rz (ws.drop (t+1))) r1) t4;have r5:=As (A7 (pz wz (ws.drop (t+1))) r2) t5;have r6:v∈(fmul rcmp Sw ⟨A,l⟩ (ws.getD t Ai) (ws.drop (t+1)++b)).A:=zEv.2 ⟨hv32, .inl t6⟩;rw[zCm]at t2;have hcc:=concat_cW ((ws.drop (t+1)).flatMap zAj) (b.flatMap zAj) (ws.drop (t+1)).length b.length (zL9 _) (zL9 _) (by rw[A2];simp only[AL]at hlen;omega) (by simp only[AL]at hlen;omega) (λ_ _=>trivial);rw[<-List.flatMap_append,<-AT]at hcc;have hsl:((p::ws).flatMap zAj).drop ((t+2)*3)=(ws.drop (t+1)).flatMap zAj:=by
    rw[zP5 zA9];rfl
   have hsn:ws.length+1-(t+2)=(ws.drop (t+1)).length:=by rw[A2];omega
   have hst:=zFq zA9 (ws.drop (t+1)) _ rfl;generalize ws.getD t Ai=f at*;generalize fmul rcmp Sw ⟨A,l⟩ f (ws.drop (t+1)++b)=q at*;obtain⟨A',l'⟩:=q;refine zA<|zB rfl<|v0s<|veT<|zA<|vT ((t:Int)<(Aa ws:Int))<|zL<|zC<|zK<|zA<|zF<|zA<|zB rfl<|vr 3 (ix (t:Int) (Aa ws:Int) (Af zAj ws≠[])/\3<=Aa (Ag (t*3)<|Af zAj ws))<|vs 45 (Aw<|Ap 3<|Ag (t*3)<|Af zAj ws) (Aw<|zAj f)<|ve (az_)<|vd [0,3,4,5,6,7,1,2,8,9,10,11]<|vr 5 (i6 ((t:Int)+(2:Int))/\(0:Int)<=(↑(t+2):Int)/\True/\True/\0<3/\Am (↑(t+2):Int)<=Aa ws+1/\Aa ws+1<=Aa ws+1/\Aa ws+1=Aa ws+1)<|vs 52 (Ae (Ap ((Aa ws+1-Am (↑(t+2):Int))*3)<|Ag (Am (↑(t+2):Int)*3)<|Af zAj (p::ws)) (Aa ws+1-Am (↑(t+2):Int))) (Ae (Af zAj<|Ag (t+1) ws)<|Aa<|Ag (t+1) ws)<|vr 4 (aF_)<|vc (hcc)<|vc (hmul)<|vr 1 (AY (fB1W (Ae (nsD A)<|Aa A) (Ae (zAy l)<|Aa l)<|Ae (zA4 l)<|Aa l)=Ac/\aR_)<|vnil<|zD<|zC<|zK<|zB rfl<|vr 2 (i6 ((t:Int)+(1:Int)))<|vnil<|zC<|⟨t+1,A',l',⟨by omega,t2,r3,r4,r5,r6⟩,by omega,?_⟩;refine vk 3
  rw[BQ t7]at t2 t4 t5;simp only[pz,List.foldr_nil,BR,zCm]at t2 t4 t5;have hsum:=sumOutF_cW hD ⟨A,l⟩ ⟨t3,t4,t5⟩ v t6;rw[<-t2,zTx,zGb];have cb:=zL9 b;generalize fsum rcmp Sw v ⟨A,l⟩=q at*;obtain⟨A',l'⟩:=q;have ht:(b.flatMap zAj++zAj ⟨A',l'⟩).take ((b.length+1)*3)=b.flatMap zAj++zAj ⟨A',l'⟩:=AI (by rw[AT,cb];show _+3<=_;omega);refine zA<|zB rfl<|v0s<|veT<|zA<|vF ((t:Int)<(Aa ws:Int))<|zAx<|zP<|zP<|zAm rfl<|zC<|zK<|zA<|zB rfl<|vr 4 (3<=3)<|vc (hsum)<|ve (((3=3/\3<=3/\True)/\0<3/\3=3/\3<=16777216/\1<=9223372036854775807)/\AS (Aj (Af zAj b) 79 3 Ab Ab Ak)=Ab/\Aa (Af zAj b)=Aa b*3/\Aa b*3=Aa b*3/\AJ (Aj (Af zAj b) 79 3 Ab Ab Ak)=79/\AK (Aj (Af zAj b) 79 3 Ab Ab Ak)=3/\3=3/\0<3/\0<72/\79=79/\(Aa b+1)*72<=140737488355328/\3=3/\AO (Au<|Aj (Af zAj b) 79 3 Ab Ab Ak)=Ac/\(Ac=Ac\/AQ (Au<|Aj (Af zAj b) 79 3 Ab Ab Ak)=Ab))<|zG<|zBt (True) (Ae (Ap ((Aa b+1)*3)<|Ag 0 (Af zAj b++[Ae (nsD A')<|Aa A',Ae (zAy l')<|Aa l',Ae (zA4 l')<|Aa l'])) (Aa b+1)) (Ae (Af zAj b++zAj (Fa.mk A' l')) (Aa b+1)) (.inr rfl) (by simp(disch:=omega) only[AM,ht]) rfl
end
section
variable{Dm:List Va}
set_option maxHeartbeats 8000000 in
theorem zY6(hD:Okv Dm)(hDn:Dm.Nodup)(n keep:Nat)(fs:List (Fa Wh))(hn:n<=8)(hk:keep<4294967296)(hf:∀f∈fs,FOk rcmp Dm f)(hl:fs.length<=500)(hr:2*pz rz fs<=900000)(hz:2*pz wz fs<=Bz)
  (hcv:∀v,v<n->∃f∈fs,v∈f.A)(hck:Pure An 69 [iD (n:Nat),u32D keep, .row (fs.flatMap zAj) fs.length] [] (iD 0)):
  Pure An 38 [proD,iD (n:Nat),u32D keep, .row (fs.flatMap zAj) fs.length] [] (.tup [faAW (zKt popN rcmp Sw fs ((Ay n).filter λv=>!keep.testBit v)),iD 0]):=by
 have hcl:=cloneF_cW (fs.flatMap zAj) fs.length (zL9 fs) (by omega);have w2:=zHf (v:=n) (by omega);have h2n:2^n<=256:=Bl (n:=2) (by omega) hn;have h1n:=B9 (n:=n);have w3:((2^n:Nat):Int)-1=((2^n-1:Nat):Int):=by omega
 have w4:=zCk (n:=2^n-1) (by omega);have w5:=an_keep (n:=n) (by omega) hk;have hEa:Asc ((Ay n).filter λv=>!keep.testBit v):=⟨(B_ (n:=n)).filter _,λv hv=>by have:=(Bn.1 hv).1;simp at this;omega⟩;have hEc:∀v∈(Ay n).filter (λv=>!keep.testBit v),∃f∈fs,v∈f.A:=λv hv=>hcv v (by have:=(Bn.1 hv).1;simpa using this);generalize (Ay n).filter (λv=>!keep.testBit v)=E at*;have w6:=zCk (zCc hEa.2);refine zJ (T:=Tc) (zVd _ _ _) mixed Tryz.func38 rfl<|zA<|zB rfl<|v0s<|veT<|zA<|zA<|zB rfl<|vrT 3<|vc (hck)<|veT<|zA<|zB rfl<|veT<|vf<|zL<|zC<|zK<|zA<|zB rfl<|vrT 1<|vc (hcl)<|veT<|zA<|zA<|zB rfl<|vr 2 ((0:Int)<=(n:Int))<|vs 28 (Ar<|AF AD<|AV AD ((1:Int)*(2:Int)^min (Am (n:Int)) 32)) (dig ((2:Nat)^n))<|vr 1 (u3 ((↑((2:Nat)^n):Int)-(1:Int)))<|vs 29 (Ar<|AF AD ((↑((2:Nat)^n):Int)-(1:Int))) (dig ((2:Nat)^n-1))<|vrT 2<|vs 31 (Ar<|AF AD<|AV AD (↑(AW (AB 32 (↑((2:Nat)^n-1):Int)&&&~~~AB 32 (keep:Int))):Int)) (dig<|msk E)<|veT<|zF<|zA0 (λ(i:Nat)(L:List (Fa Wh))(F:List Nat)=>fr 68 [(0,proD),(8,Al 0 0),(9,iD 0),(11,Ae (Af zAj L)<|Aa L),(12,u32D<|msk F)]) (λ(i:Nat)(L:List (Fa Wh))(F:List Nat)=>[fB1W nl nl nl]) (λi L F=>i) (λ(i:Nat)(L:List (Fa Wh))(F:List Nat)=>i=F.length/\Asc F/\(∀v∈F,∃f∈L,v∈f.A)/\(∀f∈L,FOk rcmp Dm f)/\L.length<=500/\2*pz rz L<=900000/\2*pz wz L<=Bz/\zFu popN rcmp Sw F.length L F=zFu popN rcmp Sw E.length fs E) E.length fs E ?_ ?_ ?_
 ·grind
 ·refine vk 1
 rintro i L F ⟨rfl,f1,f2,f3,f4,f5,f6,f7⟩;by_cases hF:F=[]
 ·subst hF;have hL:zFu popN rcmp Sw E.length fs E=L:=f7.symm;have hres:zKt popN rcmp Sw fs E=zCm rcmp Sw (zB8 Sw) L []:=by unfold zKt;rw[hL]
  rw[hres];have m0:msk []=0:=rfl;rw[m0];obtain⟨o,ho⟩:∃o:Wh,o=w1:=⟨_,rfl⟩;refine zA<|zA<|zB rfl<|v0s<|veT<|vf<|zAx<|zP<|zP<|zAm rfl<|zC<|zK<|zA<|zB rfl<|vr 3 (aD_)<|vc (wone_c o ho)<|vr 4 (aC_)<|vnil<|zC<|vnn (fr 68 [(0,proD),(8,Al 0 0),(9,iD 0),(11,Ae (Af zAj L)<|Aa L),(12,u32D 0),(14,Al 4 0),(33,bD Ac),(45,Ah 1 0 0 0 Ab),(46,Ah 2 0 1 1 Ab),(47,D.ifc 84<|Aw []),(48,Ae (Ad zAd<|Subtype.val o)<|Aa<|Subtype.val o),(49,Ah 3 0 1 1 Ab),(50,Aw [nl,Ah 2 0 1 1 Ab,Ah 3 0 1 1 Ab])]) [fB1W nl nl nl,Aj [] 107 3 Ab Ab Ak,Aj [Ae [] 0] 110 1 Ab Ac Ak,Aj [Ae (Ad zAd<|Subtype.val o)<|Aa<|Subtype.val o] 81 1 Ab Ac Ak,Aj [nl,Ah 2 0 1 1 Ab,Ah 3 0 1 1 Ab] 79 0 Ac Ac Ak] ?_;clear hck hcl hcv hEa hEc w5 w6 f1 f2 f7 hL hres;refine zBh ((BG (j:=4) (i:=1) (d:= .osl 2 0 1 1 Ab) (x:= .row [.row [] 0] 1) (ks:=[2]) rfl rfl rfl rfl (by exact rfl) (by decide)).trans<|(BG (j:=4) (i:=2) (d:= .osl 3 0 1 1 Ab) (x:= .row [whD o] 1) (ks:=[3]) rfl rfl rfl rfl (by exact rfl) (by decide)).trans<|Weak.leC (j:=4) (i:=0) (d':= .row [] 0) rfl rfl rfl LeD.nil_row) ?_;refine zA<|zA<|zB rfl<|v0s<|veT<|zF ?_;have hu:(zB8 Sw:Fa Wh)=⟨[],[([],o)]⟩:=by rw[ho];rfl
  have hU:FOk rcmp Dm (⟨[],[([],o)]⟩:Fa Wh):=hu▸zGl;have u1:rz (⟨[],[([],o)]⟩:Fa Wh)=2:=rfl;have u2:wz (⟨[],[([],o)]⟩:Fa Wh)<=2:=by rw[ho];exact wz_one (by decide)
  rw[hu];refine zA0 (λ(t:Nat)(A:List Nat)(l:List (Rw×Wh))=>fr 68 [(0,proD),(8,Al 0 0),(9,iD 0),(11,Ae (Af zAj L)<|Aa L),(14,Al 4 0),(51,Ae (Af zAj L)<|Aa L),(52,iD (Aa L:Int)),(53,iD (t:Int))]) (λ(t:Nat)(A:List Nat)(l:List (Rw×Wh))=>[fB1W nl nl nl,⟨[],107,3,Ab,Ab,.plain⟩,⟨[.row [] 0],110,1,Ab,Ab,.plain⟩,⟨[whD o],81,1,Ab,Ab,.plain⟩,fB1W (.row (nsD A) A.length) (.row (zAy l) l.length)<|.row (zA4 l) l.length]) (λt A l=>L.length-t) (λ(t:Nat)(A:List Nat)(l:List (Rw×Wh))=>t<=L.length/\zCm rcmp Sw ⟨A,l⟩ (L.drop t) []=zCm rcmp Sw ⟨[],[([],o)]⟩ L []/\FOk rcmp Dm ⟨A,l⟩/\rz (⟨A,l⟩:Fa Wh)*pz rz (L.drop t)<=900000/\wz (⟨A,l⟩:Fa Wh)*pz wz (L.drop t)<=Bz) 0 [] [([],o)] ?_ ?_ ?_
  ·exact⟨by omega,rfl,hU,by rw[u1];exact f5,As (A7 _ u2) f6⟩
  ·refine vk 5
  rintro t A l ⟨t1,t2,t3,t4,t5⟩;rcases Ax t L.length with t7|t7
  ·have hmf:=zAo L Ai t t7;have hg2:=zDo zA9 L t t7;have hle:=zHc zA9 L t t7;have hne2:=zEk zA9 (by decide) L;have hdr:L.drop t=L.getD t Ai::L.drop (t+1):=by
    simp_all
   rw[hdr]at t2 t4 t5;rw[zCi,<-BO]at t4 t5;have q1:rz (⟨A,l⟩:Fa Wh)*rz (L.getD t Ai)<=900000:=As (AU _ (zFm zFi _)) t4;have q2:wz (⟨A,l⟩:Fa Wh)*wz (L.getD t Ai)<=Bz:=As (AU _ (zFm zNo _)) t5;have gA:GofW Dm ⟨A,l⟩:=⟨t3,As (AU _ (zFi _)) q1,As (AU _ (zNo _)) q2⟩;have hg:∀f∈L,GofW Dm f:=λf h=>⟨f3 f h,As (zMl zFi h) (by omega),As (zMl zNo h) (by omega)⟩;have hmul:=zMo hD ⟨A,l⟩ (L.getD t Ai) (L.drop (t+1)) gA (hg _ hmf) (λo ho=>hg _ (BP ho)) (by rw[A2];omega) q1;have r1:=zJ1 (c:=rcmp) Sw ⟨A,l⟩ (L.getD t Ai) (L.drop (t+1));have r2:=zTt (c:=rcmp) ⟨A,l⟩ (L.getD t Ai) (L.drop (t+1));have r3:=zHw (S:=Sw) rcw t3 (f3 _ hmf) (L.drop (t+1));have r4:=As (A7 (pz rz (L.drop (t+1))) r1) t4;have r5:=As (A7 (pz wz (L.drop (t+1))) r2) t5;rw[zCm,Bg]at t2;have hsl:(L.flatMap zAj).drop ((t+1)*3)=(L.drop (t+1)).flatMap zAj:=zP5 zA9 L (t+1);have hsn:L.length-(t+1)=(L.drop (t+1)).length:=by rw[A2]
   have hst:=zFq zA9 (L.drop (t+1)) _ rfl;generalize L.getD t Ai=f at*;generalize fmul rcmp Sw ⟨A,l⟩ f (L.drop (t+1))=q at*;obtain⟨A',l'⟩:=q;refine zA<|zB rfl<|v0s<|veT<|zA<|vT ((t:Int)<(Aa L:Int))<|zL<|zC<|zK<|zA<|zF<|zA<|zB rfl<|vr 3 (ix (t:Int) (Aa L:Int) (Af zAj L≠[])/\3<=Aa (Ag (t*3)<|Af zAj L))<|vs 57 (Aw<|Ap 3<|Ag (t*3)<|Af zAj L) (Aw<|zAj f)<|ve (az_)<|vd [0,3,4,5,6,1,2,7,8]<|vr 5 (i6 ((t:Int)+(1:Int))/\(0:Int)<=(↑(t+1):Int)/\True/\True/\0<3/\Am (↑(t+1):Int)<=Aa L/\Aa L<=Aa L/\Aa L=Aa L)<|vs 64 (Ae (Ap ((Aa L-Am (↑(t+1):Int))*3)<|Ag (Am (↑(t+1):Int)*3)<|Af zAj L) (Aa L-Am (↑(t+1):Int))) (Ae (Af zAj<|Ag (t+1) L)<|Aa<|Ag (t+1) L)<|vr 2 (3<=3/\3<=3)<|vc (hmul)<|vr 1 (AY (fB1W (Ae (nsD A)<|Aa A) (Ae (zAy l)<|Aa l)<|Ae (zA4 l)<|Aa l)=Ac/\aR_)<|vnil<|zD<|zC<|zK<|zB rfl<|vr 2 (i6 ((t:Int)+(1:Int)))<|vnil<|zC<|⟨t+1,A',l',⟨by omega,t2,r3,r4,r5⟩,by omega,?_⟩;refine vk 5
  rw[BQ t7]at t2;simp only[zCm]at t2;rw[<-t2];refine zA<|zB rfl<|v0s<|veT<|zA<|vF ((t:Int)<(Aa L:Int))<|zAx<|zP<|zP<|zAm rfl<|zC<|zK<|zA<|zB rfl<|ve (aL_)<|zG<|vret (3<=3)<|.inr rfl
 have hm:=zHz popN L hF;have hch:=zZ8 L F f1 hF (λf h=>(f3 f h).asc) (by omega);have hv32:=f1.2 _ hm.1;have hel:=zXk hD L (zBb popN L F) f3 f4 (by omega) (by omega) (f2 _ hm.1) hv32;have hmn:=msk_ne hF;have x1:=zHf hv32;have x2:=an_less f1 hv32;have x3:=zCk (zCc (zKw f1 (zBb popN L F)).2);have hz1:=elim_z (c:=rcmp) (S:=Sw) (z:=rz) (zJ1 Sw) (zZg Sw) (zBb popN L F) L;have hz2:=elim_z (c:=rcmp) (S:=Sw) (z:=wz) zTt fsum_wz (zBb popN L F) L;have hlen:=elim_len (c:=rcmp) (S:=Sw) (zBb popN L F) L;have hA:=elim_A (c:=rcmp) (S:=Sw) (fs:=L) (λf h=>(f3 f h).asc.2) (zBb popN L F);have hok:=zZt (S:=Sw) rcw f3 (zBb popN L F);have hll:=zTj f1.nd hm.1;have hla:=zKw f1 (zBb popN L F);have hmg:zFu popN rcmp Sw F.length L F=zFu popN rcmp Sw (less F (zBb popN L F)).length (elim rcmp Sw (zBb popN L F) L) (less F (zBb popN L F)):=by
  rw[<-hll];rfl
 have hcm:=hm.1;generalize zBb popN L F=v at*;generalize elim rcmp Sw v L=L' at*;refine zA<|zA<|zB rfl<|v0s<|veT<|zFr (t:=(↑(msk F):Int)!=(0:Int)) (by kernel_rfl) (by simpa using by omega)<|zL<|zC<|zK<|zF<|zA<|zB rfl<|vrT 2<|vc (hch)<|veT<|zA<|zB rfl<|vrT 3<|vc (hel)<|veT<|zB rfl<|vr 3 ((0:Int)<=(v:Int))<|vs 43 (Ar<|AF AD<|AV AD ((1:Int)*(2:Int)^min (Am (v:Int)) 32)) (dig ((2:Nat)^v))<|vrT 1<|vs 44 (Ar<|AF AD<|AV AD (↑(AW (AB 32 (↑(msk F):Int)&&&~~~AB 32 (↑((2:Nat)^v):Int))):Int)) (dig<|msk<|less F v)<|vrT 1<|vnil<|zD<|zC<|⟨(less F v).length,L',less F v,⟨rfl,hla,λw hw=>(hA w).2 ⟨f2 w (zC3.1 hw).1,(zC3.1 hw).2⟩,hok,by omega,by omega,by omega,by rw[<-hmg];exact f7⟩,by omega,?_⟩;refine vk 1
end
end
section
open Go.RowKit
attribute [local irreducible] seqW awp zY zZ zR Weak updS zAe retL Pure Acts rP setP setQ cP nP fr
set_option maxRecDepth 4096
set_option maxRecDepth 4096
abbrev fcRW(V:List Int)(R:List Rw)(W:List D)(m:Nat):D:= .agg [.row (V.map λz=>iD z) V.length, .row (R.map rowV) R.length, .row W m]
set_option maxHeartbeats 4000000 in
theorem check_cW (n : Int) (V : List Int)(R:List Rw)(W:List D)(m:Nat)(hV:V.length<=1000000)(hR:R.length<=1000000):
    Pure An 117 [iD n,fcRW V R W m] [] (iD (chk n V R m)):=by
  refine zJ Tq_ok mixed Tryz.func117 rfl<|zA<|zB rfl<|v0s<|veT<|zA<|zA<|zB rfl<|ve (aK_)<|zF<|zN (λ(i:Nat)=>fr 94 [(0,iD n),(3,Al 0 0),(13,Ae (Ad (λ(z:Int)=>iD z) V)<|Aa V),(14,iD (Aa V:Int)),(15,iD (i:Int))]) (λ(i:Nat)=>[fB1W (.row (V.map λz=>iD z) V.length) (.row (R.map rowV) R.length)<|.row W m]) (λi=>V.length-i) (λ(i:Nat)=>i<=V.length/\∀j,j<i->zFb n V j=Ab) 0 ?_ ?_ ?_
  ·grind
  ·refine vk 1
  rintro i ⟨h1,h2⟩;rcases Ax i V.length with h3|h3
  · have hne:(V.map λz=>iD z)≠[]:=zV
    have hx:=zB0 V i h3;by_cases hs:zFb n V i=Ab
    · have hs2:=hs
      simp only[zFb,Bm,Ca,decide_eq_true_eq]at hs2;obtain⟨s1,s2,s3⟩:=hs2;rcases i with _|k
      · rw[AM]at hx
        refine zA<|zB rfl<|v0s<|veT<|zA<|vT ((↑(0:Nat):Int)<(Aa V:Int))<|zL<|zC<|zK<|zA<|zF<|zA<|zB rfl<|vr 3 (ix (↑(0:Nat):Int) (Aa V:Int) (Ad (λ(z:Int)=>iD z) V≠[])/\0<Aa (Ad (λ(z:Int)=>iD z) V))<|vsh 19 hx<|veT<|zA<|zB rfl<|vew [] [(2,Ac),(7,Ac)] (decide (Ao V 0 (0:Int)<0)=Ac/\decide (Ao V 0 (0:Int)>=n)=Ac) (vf<|zL<|zD<|zC<|zK<|zB rfl<|vr 2 (i6 ((↑(0:Nat):Int)+(1:Int)))<|vnil<|zC ?_) ⟨(by exact decide_eq_false (by omega)),(by exact decide_eq_false (by omega))⟩;refine⟨1,⟨by omega,λj hj=>?_⟩,by omega,?_⟩
        ·grind
        refine vk 1
      · have hx2:=zB0 V k (by omega)
        have s4:V.getD k 0<V.getD (k+1) 0:=by
          grind
        refine zA<|zB rfl<|v0s<|veT<|zA<|vT ((↑(k+1):Int)<(Aa V:Int))<|zL<|zC<|zK<|zA<|zF<|zA<|zB rfl<|vr 2 (ix (↑(k+1):Int) (Aa V:Int) (Ad (λ(z:Int)=>iD z) V≠[]))<|vp 18 (k+1) (Ad (λ(z:Int)=>iD z) V)<|vr 1 (0<Aa (Ag (k+1)<|Ad (λ(z:Int)=>iD z) V))<|vsh 19 hx<|veT<|zA<|zB rfl<|vw 15 [] [(2,Ac),(7,Ac),(10,Ab)] (decide (Ao V (k+1) (0:Int)<0)=Ac/\decide (Ao V (k+1) (0:Int)>=n)=Ac/\decide ((↑(k+1):Int)>(0:Int))=Ab/\True/\0<3/\i6 ((↑(k+1):Int)-(1:Int))) (vs 34 (iD ((↑(k+1):Int)-(1:Int))) (iD (k:Int)) (hd:=by simp(disch:=omega) only[zS8])<|vr 1 (ix (k:Int) (Aa V:Int) (Ad (λ(z:Int)=>iD z) V≠[]))<|vp 35 (k) (Ad (λ(z:Int)=>iD z) V)<|vr 1 (0<Aa (Ag k<|Ad (λ(z:Int)=>iD z) V))<|vsh 36 hx2<|veT<|vF (Ao V k (0:Int)>=Ao V (k+1) (0:Int)) ?_) ⟨(by exact decide_eq_false (by omega)),(by exact decide_eq_false (by omega)),(by exact decide_eq_true (by omega)),trivial,(by omega),(by omega)⟩;refine zL<|zD<|zC<|zK<|zB rfl<|vr 2 (i6 ((↑(k+1):Int)+(1:Int)))<|vnil<|zC<|⟨k+2,⟨by omega,λj hj=>?_⟩,by omega,?_⟩
        ·grind
        refine vk 1
    · have hc3:chk n V R m=3:=chk_v h3 (by simpa using hs)
      rw[hc3];rcases i with _|k
      · rw[AM]at hx
        focus
          refine zA<|zB rfl<|v0s<|veT<|zA<|vT ((↑(0:Nat):Int)<(Aa V:Int))<|zL<|zC<|zK<|zA<|zF<|zA<|zB rfl<|vr 3 (ix (↑(0:Nat):Int) (Aa V:Int) (Ad (λ(z:Int)=>iD z) V≠[])/\0<Aa (Ad (λ(z:Int)=>iD z) V))<|vsh 19 hx<|veT<|zA<|zB rfl<|vrT 3<|vspD 22 (Ao V 0 (0:Int)<0) (λhc=>?_)<|λhc=>?_;refine veT<|vt<|zA<|zB rfl<|veT<|zG<|zH<|zE<|zE<|zH<|zE<|vret (True)<|.inr rfl;refine vrT 5<|vspD 27 (Ao V 0 (0:Int)>=n) (λhc=>?_)<|λhc=>?_;refine veT<|vt<|zA<|zB rfl<|veT<|zG<|zH<|zE<|zE<|zH<|zE<|vret (True)<|.inr rfl;refine veT<|vf<|zL<|zD<|zC<|zK<|zB rfl<|vr 2 (i6 ((↑(0:Nat):Int)+(1:Int)))<|vnil<|zC ?_;rotate_left
        grind [zLk]
      · have hx2:=zB0 V k (by omega)
        focus
          refine zA<|zB rfl<|v0s<|veT<|zA<|vT ((↑(k+1):Int)<(Aa V:Int))<|zL<|zC<|zK<|zA<|zF<|zA<|zB rfl<|vr 2 (ix (↑(k+1):Int) (Aa V:Int) (Ad (λ(z:Int)=>iD z) V≠[]))<|vp 18 (k+1) (Ad (λ(z:Int)=>iD z) V)<|vr 1 (0<Aa (Ag (k+1)<|Ad (λ(z:Int)=>iD z) V))<|vsh 19 hx<|veT<|zA<|zB rfl<|vrT 3<|vspD 22 (Ao V (k+1) (0:Int)<0) (λhc=>?_)<|λhc=>?_;refine veT<|vt<|zA<|zB rfl<|veT<|zG<|zH<|zE<|zE<|zH<|zE<|vret (True)<|.inr rfl;refine vrT 5<|vspD 27 (Ao V (k+1) (0:Int)>=n) (λhc=>?_)<|λhc=>?_;refine veT<|vt<|zA<|zB rfl<|veT<|zG<|zH<|zE<|zE<|zH<|zE<|vret (True)<|.inr rfl;refine vw 7 [] [(10,Ab)] (decide ((↑(k+1):Int)>(0:Int))=Ab/\True/\0<3/\i6 ((↑(k+1):Int)-(1:Int)))<|vs 34 (iD ((↑(k+1):Int)-(1:Int))) (iD (k:Int)) (hd:=by simp(disch:=omega) only[zS8])<|vr 1 (ix (k:Int) (Aa V:Int) (Ad (λ(z:Int)=>iD z) V≠[]))<|vp 35 (k) (Ad (λ(z:Int)=>iD z) V)<|vr 1 (0<Aa (Ag k<|Ad (λ(z:Int)=>iD z) V))<|vsh 36 hx2<|veT<|vcD (Ao V k (0:Int)>=Ao V (k+1) (0:Int)) (λhc=>?_)<|λhc=>?_;refine zA<|zB rfl<|veT<|zG<|zH<|zE<|zE<|zH<|zE<|vret (True)<|.inr rfl;refine zL<|zD<|zC<|zK<|zB rfl<|vr 2 (i6 ((↑(k+1):Int)+(1:Int)))<|vnil<|zC ?_;rotate_left
        grind [zLk,only,Bw]
  have hv:=zGp (p:=zFb n V) (n:=V.length) λj hj=>h2 j (by omega);by_cases hlm:R.length=m;case neg=>
    rw[chk_l hv hlm];refine zA<|zB rfl<|v0s<|veT<|zA<|vF ((i:Int)<(Aa V:Int))<|zAx<|zP<|zP<|zAm rfl<|zC<|zK<|zA<|zA<|zB rfl<|ve (aM_)<|zFr (t:=(Aa R:Int)!=(m:Int)) (by kernel_rfl) (by simpa using by omega)<|zA<|zB rfl<|veT<|zG<|zE<|vret (True)<|.inr rfl
  refine zA<|zB rfl<|v0s<|veT<|zA<|vF ((i:Int)<(Aa V:Int))<|zAx<|zP<|zP<|zAm rfl<|zC<|zK<|zA<|zA<|zB rfl<|ve (aM_)<|zGf (t:=(Aa R:Int)!=(m:Int)) (by kernel_rfl) (by simpa using by omega)<|zL<|zC<|zK<|zA<|zA<|zB rfl<|ve (aG_)<|zF<|zN (λ(i:Nat)=>fr 94 [(3,Al 0 0),(50,Ae (Ad rowV R)<|Aa R),(51,iD (Aa R:Int)),(52,iD (i:Int))]) (λ(i:Nat)=>[fB1W (.row (V.map λz=>iD z) V.length) (.row (R.map rowV) R.length)<|.row W m]) (λi=>R.length-i) (λ(i:Nat)=>i<=R.length/\∀j,j<i->j<R.length->decide ((R.getD j []).length=V.length)=Ab) 0 ?_ ?_ ?_
  ·grind
  ·refine vk 1
  clear h1 h2 h3 i;rintro i ⟨h1,h2⟩;rcases Ax i R.length with h3|h3
  · have hne:R.map rowV≠[]:=zV
    have hx:=zAl R i h3;have hca:=chk_a hv hlm h3;generalize hg:R.getD i []=r at*;focus
      refine zA<|zB rfl<|v0s<|veT<|zA<|vT ((i:Int)<(Aa R:Int))<|zL<|zC<|zK<|zA<|zF<|zA<|zB rfl<|vr 1 (ix (i:Int) (Aa R:Int) (Ad rowV R≠[]))<|vp 54 (i) (Ad rowV R)<|vr 1 (0<Aa (Ag i<|Ad rowV R))<|vsh 55 hx<|veT<|zA<|zB rfl<|ve (aW_)<|zAk (t:=(Aa r:Int)!=(Aa V:Int)) (by kernel_rfl) (λhc=>?_)<|λhc=>?_;simp only[bne_iff_ne]at hc;refine zA<|zB rfl<|veT<|zG<|zH<|zE<|zE<|zH<|zE<|vre (True) (Ar<|AF Bh (6:Int)) (.inr rfl) ?_;rotate_left;simp only[bne_eq_false_iff_eq]at hc;refine zL<|zD<|zC<|zK<|zB rfl<|vr 2 (i6 ((i:Int)+(1:Int)))<|vnil<|zC ?_;rotate_left
    ·rw[hca (by omega)]
    · refine⟨i+1,⟨by omega,λj hj hjl=>?_⟩,by omega,?_⟩
      ·grind
      refine vk 1
  have ha:=zEm (p:=λx:Rw=>decide (x.length=V.length)) (d:=[]) h3 h2;have hl:∀x∈R,x.length<=1000000000:=λx hx=>by
    grind
  refine zA<|zB rfl<|v0s<|veT<|zA<|vF ((i:Int)<(Aa R:Int))<|zAx<|zP<|zP<|zAm rfl<|zC<|zK<|zA<|zA<|zB rfl<|ve (aG_)<|zF<|zN (λ(i:Nat)=>fr 94 [(3,Al 0 0),(64,Ae (Ad rowV R)<|Aa R),(65,iD (Aa R:Int)),(66,iD (i:Int))]) (λ(i:Nat)=>[fB1W (.row (V.map λz=>iD z) V.length) (.row (R.map rowV) R.length)<|.row W m]) (λi=>R.length-i) (λ(i:Nat)=>i<=R.length/\∀j,j<i->j<R.length->(R.getD j []).all vok=Ab) 0 ?_ ?_ ?_
  ·grind
  ·refine vk 1
  clear h1 h2 h3 i;rintro i ⟨h1,h2⟩;rcases Ax i R.length with h3|h3
  · have hne:R.map rowV≠[]:=zV
    have hx:=zAl R i h3;have hco:=chk_o hv hlm ha h3;have hlr:=hl _ (zAo R [] i h3);generalize hg:R.getD i []=r at*;focus
      refine zA<|zB rfl<|v0s<|veT<|zA<|vT ((i:Int)<(Aa R:Int))<|zL<|zC<|zK<|zA<|zF<|zA<|zB rfl<|vr 1 (ix (i:Int) (Aa R:Int) (Ad rowV R≠[]))<|vp 68 (i) (Ad rowV R)<|vr 1 (0<Aa (Ag i<|Ad rowV R))<|vsh 69 hx<|veT<|zA<|zB rfl<|vrT 1<|vc (zSv r _ rfl (by omega))<|veT<|zAk (t:=!List.all r vok) (by kernel_rfl) (λhc=>?_)<|λhc=>?_;simp only[BF]at hc;refine zA<|zB rfl<|veT<|zG<|zH<|zE<|zE<|zH<|zE<|vre (True) (Ar<|AF Bh (4:Int)) (.inr rfl) ?_;rotate_left;simp only[BS]at hc;refine zL<|zD<|zC<|zK<|zB rfl<|vr 2 (i6 ((i:Int)+(1:Int)))<|vnil<|zC ?_;rotate_left
    ·grind
    · refine⟨i+1,⟨by omega,λj hj hjl=>?_⟩,by omega,?_⟩
      ·grind
      refine vk 1
  have ho:=zEm (p:=λx:Rw=>x.all vok) (d:=[]) h3 h2;refine zA<|zB rfl<|v0s<|veT<|zA<|vF ((i:Int)<(Aa R:Int))<|zAx<|zP<|zP<|zAm rfl<|zC<|zK<|zA<|zA<|zB rfl<|veT<|zF<|zN (λ(k:Nat)=>fr 94 [(3,Al 0 0),(11,iD ((k:Int)+(1:Int)))]) (λ(k:Nat)=>[fB1W (.row (V.map λz=>iD z) V.length) (.row (R.map rowV) R.length)<|.row W m]) (λk=>R.length-k) (λ(k:Nat)=>k<=R.length/\∀j,j<=k->j<R.length->zLs R j=Ab) 0 ?_ ?_ ?_
  · exact ⟨by omega, fun j h _ => by obtain rfl:j=0:=by omega
                                     rfl⟩
  ·refine vk 1
  clear h1 h2 h3 i;rintro k ⟨h1,h2⟩;rcases Ax (k+1) R.length with h3|h3
  · have hne:R.map rowV≠[]:=zV
    have hx:=zAl R (k+1) h3;have hx0:=zAl R k (by omega);have hcs:=chk_s hv hlm ha ho h3;have hst:zLs R (k+1)=decide (rcmp (R.getD k []) (R.getD (k+1) [])<0):=by simp[zLs]
    have hcm:=zDr (R.getD k []) (R.getD (k+1) []) _ _ rfl rfl (hl _ (zAo R [] k (by omega))) (hl _ (zAo R [] (k+1) h3));generalize R.getD (k+1) []=r at*;generalize R.getD k []=r0 at*;focus
      refine zA<|zA<|zB rfl<|v0s<|ve (aG_)<|vT ((↑(k+1):Int)<(Aa R:Int))<|zL<|zC<|zK<|zA<|zF<|zA<|vd [0,2,3,6,8,1,4,5,7,9,10,11,12]<|vr 3 (True/\i6 ((↑(k+1):Int)-(1:Int)))<|vs 84 (iD ((↑(k+1):Int)-(1:Int))) (iD (k:Int)) (hd:=by simp(disch:=omega) only[zS8])<|vr 4 (True/\0<2/\ix (k:Int) (Aa R:Int) (Ad rowV R≠[]))<|vp 85 (k) (Ad rowV R)<|vr 1 (0<Aa (Ag k<|Ad rowV R))<|vsh 86 hx0<|vr 2 (0<2/\ix (↑(k+1):Int) (Aa R:Int) (Ad rowV R≠[]))<|vp 90 (k+1) (Ad rowV R)<|vr 1 (0<Aa (Ag (k+1)<|Ad rowV R))<|vsh 91 hx<|vc (hcm)<|veT<|vcD (rcmp r0 r>=(0:Int)) (λhc=>?_)<|λhc=>?_;refine zA<|zB rfl<|veT<|zG<|zH<|zE<|zE<|zH<|zE<|vre (True) (Ar<|AF Bh (16:Int)) (.inr rfl) ?_;rotate_left;refine zL<|zD<|zC<|zK<|zB rfl<|vr 3 (i6 ((↑(k+1):Int)+(1:Int)))<|vnil<|zC ?_;rotate_left
    ·grind
    · refine⟨k+1,⟨by omega,λj hj hjl=>?_⟩,by omega,?_⟩
      ·grind
      refine vk 1
  rw[chk_0 hv hlm ha ho (zGp λj hj=>h2 j (by omega) hj)];refine zA<|zA<|zB rfl<|v0s<|ve (aG_)<|vF ((k:Int)+(1:Int)<(Aa R:Int))<|zAx<|zP<|zP<|zAm rfl<|zC<|zK<|zA<|zB rfl<|veT<|zG<|vret (True)<|.inr rfl
end
section
open Go.RowKit
attribute [local irreducible] seqW awp zY zZ zR Weak updS zAe retL Pure Acts rP setP setQ cP nP fr
set_option maxRecDepth 4096
abbrev rnCW(f:Rn):List D:=[.row (f.V.map λz=>iD z) f.V.length, .row (f.R.map rowV) f.R.length, .row (f.W.map λx=>whD (g1 x)) f.W.length]
theorem zKj(f:Rn):(rnCW f).length=3:=rfl
set_option maxHeartbeats 4000000 in
theorem zZ7(n keep:Nat)(fs:List Rn)(hn:n<=8)(hk:keep<4294967296)(hl:fs.length<=1000)(hs:∀f∈fs,Rsz f):Pure An 69 [iD (n:Nat),u32D keep, .row (fs.flatMap rnCW) fs.length] [] (iD (zFc n keep fs)):=by
 have w1:=zHe keep (v:=n) (by omega);have w2:=zHf (v:=n) (by omega);have h2n:2^n<=256:=Bl (n:=2) (by omega) hn;have h1n:=B9 (n:=n);have w3:((2^n:Nat):Int)-1=((2^n-1:Nat):Int):=by omega
 have w4:=zCk (n:=2^n-1) (by omega);have ewr:zFc n keep fs=if keep>>>n≠0 then 3 else if errL n fs≠0 then errL n fs else if covP n fs then 0 else 22:=by
  grind [zFc,Bx]
 generalize keep>>>n=kk at*;refine zJ Tq_ok mixed Tryz.func69 rfl ?_;focus
  refine zA<|zB rfl<|v0s<|veT<|zA<|zA<|zB rfl<|vw 10 [] [(2,Ac),(6,Ac)] (decide ((n:Int)<0)=Ac/\decide ((n:Int)>(32:Int))=Ac/\(0:Int)<=(n:Int))<|vs 20 (Ar<|AF AD<|Int.fdiv (keep:Int) ((2:Int)^min (Am (n:Int)) 32)) (dig kk)<|veT<|zAk (t:=(kk:Int)!=(0:Int)) (by kernel_rfl) (λhc=>?_)<|λhc=>?_;simp only[bne_iff_ne]at hc;refine zA<|zB rfl<|veT<|zG<|zE<|vre (True) (Ar<|AF Bh (3:Int)) (.inr rfl) ?_;rotate_left;simp only[bne_eq_false_iff_eq]at hc;refine zL<|zC<|zK<|zA<|zB rfl<|veT<|zA<|zA<|zB rfl<|veT<|zF ?_;rotate_left
 ·grind
 have hcu:∀i,covM (fs.take i)<4294967296\/¬∀j,j<i->chkR n (fs.getD j Ai)=0:=λi=>by
  by_cases h:∀j,j<i->chkR n (fs.getD j Ai)=0
  ·refine .inl (zZw (fs.take i) 0 (by omega) λf hf v hv=>?_);obtain⟨j,hj,rfl⟩:=Cb.1 hf;have hj2:j<i/\j<fs.length:=by rw[A8]at hj;omega
   have:=h j hj2.1
   rw[AX,AR hj2.2,Cn]at this;obtain⟨A,hA,hfit⟩:=zCj this;rw[List.getElem_take,hA,show A.map (λv:Nat=>(v:Int))=intL A from rfl,zDa]at hv
   have:=hfit.lt v hv
   omega
  exact .inr h
 refine zN (λ(i:Nat)=>fr 45 [(0,iD (n:Int)),(7,u32D<|covM<|Ap i fs),(23,Ae (Af rnCW fs)<|Aa fs),(24,iD (Aa fs:Int)),(25,iD (i:Int))]) (λ(i:Nat)=>[]) (λi=>fs.length-i) (λ(i:Nat)=>i<=fs.length/\∀j,j<i->chkR n (fs.getD j Ai)=0) 0 ?_ ?_ ?_
 ·grind
 ·refine vk 0
 rintro i ⟨h1,h2⟩;have hcl:=(hcu i).resolve_right (λh=>h h2);rcases Ax i fs.length with h3|h3
 ·have hm:=zAo fs Ai i h3;have hg2:=zDo zKj fs i h3;have hle:=zHc zKj fs i h3;have hne:=zEk zKj (by decide) fs;have hsz:=hs _ hm;have hat:=zT1 h2 h3;have htk:covM (fs.take (i+1))=covM (fs.take i)|||msk ((fs.getD i Ai).V.map Am):=by
   grind [zBl,covM]
  generalize hff:fs.getD i Ai=f at*;obtain⟨V,R,W⟩:=f;have hch:=check_cW n V R (W.map λx=>whD (g1 x)) W.length (by have:=hsz.v;simp only at this;omega) (by have:=hsz.r;simp only at this;omega);by_cases e0:chk n V R W.length=0
  ·obtain⟨A,hA,hfit⟩:=zCj e0;have hA:V=intL A:=hA;subst hA;rw[e0]at hch;have eA:(intL A).map (λz=>iD z)=nsD A:=by simp[intL]
   have eL:(intL A).length=A.length:=by simp
   have hv32:∀v∈A,v<32:=λv hv=>by have:=hfit.lt v hv;omega
   have nA:A.length<=1000:=by have:=hsz.v;simp only[eL]at this;exact this
   have sA:=zL4 A _ rfl nA hv32 (R.map rowV) (W.map λx=>whD (g1 x)) R.length W.length;rw[zDa]at htk;have w5:=zX0 hcl (zCc hv32);have w6:=zCk (zQw hcl (zCc hv32));simp only[rnCW,eA,eL]at hg2;simp only[fcRW,eA,eL]at hch;refine zA<|zB rfl<|v0s<|veT<|zA<|vT ((i:Int)<(Aa fs:Int))<|zL<|zC<|zK<|zA<|zF<|zA<|zB rfl<|vr 2 (ix (i:Int) (Aa fs:Int) (Af rnCW fs≠[])/\3<=Aa (Ag (i*3)<|Af rnCW fs))<|vs 28 (Aw<|Ap 3<|Ag (i*3)<|Af rnCW fs) (Aw [Ae (nsD A)<|Aa A,Ae (Ad rowV R)<|Aa R,Ae (Ad (λ(x:Nat)=>whD (g1 x)) W)<|Aa W])<|ve (az_)<|zA<|zA<|zB rfl<|vr 2 (3<=3)<|vc (hch)<|veT<|zA<|zB rfl<|veT<|vf<|zL<|zC<|zK<|zB rfl<|vr 2 (3<=3)<|vc (sA)<|vrT 1<|vs 38 (Ar<|AF AD<|AV AD (↑(AW (AB 32 (↑(covM<|Ap i fs):Int)|||AB 32 (↑(msk A):Int))):Int)) (dig (covM (Ap i fs)|||msk A))<|vrT 1<|vnil<|zD<|zC<|zK<|zB rfl<|vr 2 (i6 ((i:Int)+(1:Int)))<|vnil<|zC<|⟨i+1,⟨by omega,λj hj=>?_⟩,by omega,?_⟩
   ·rcases Ax j i with h|h
    ·exact h2 j h
    obtain rfl:j=i:=by omega
    rw[hff];exact e0
   rw[htk];refine vk 0
  have hat':=hat e0;have hat2:errL n fs=chk n V R W.length:=hat';generalize chk n V R W.length=e at*;refine zA<|zB rfl<|v0s<|veT<|zA<|vT ((i:Int)<(Aa fs:Int))<|zL<|zC<|zK<|zA<|zF<|zA<|zB rfl<|vr 2 (ix (i:Int) (Aa fs:Int) (Af rnCW fs≠[])/\3<=Aa (Ag (i*3)<|Af rnCW fs))<|vs 28 (Aw<|Ap 3<|Ag (i*3)<|Af rnCW fs) (Aw<|rnCW<|Rn.mk V R W)<|ve (az_)<|zA<|zA<|zB rfl<|vr 2 (3<=3)<|vc (hch)<|veT<|zA<|zB rfl<|veT<|zFr (t:=e !=(0:Int)) (by kernel_rfl) (by simpa using by omega)<|zA<|zB rfl<|veT<|zG<|zE<|zH<|zE<|zE<|zH<|zE<|vre (True) (Ar<|AF Bh e) (.inr rfl) ?_;grind
 rw[AI h3]at hcl⊢;have h0:=errL_0 λj hj=>h2 j (by omega);have hce:=covM_eq n fs λf hf=>by
  obtain⟨A,hA,hfit⟩:=zCj (zCl h0 f hf);exact⟨A,hA,λv hv=>by have:=hfit.lt v hv;omega⟩
 focus
  refine zA<|zB rfl<|v0s<|veT<|zA<|vF ((i:Int)<(Aa fs:Int))<|zAx<|zP<|zP<|zAm rfl<|zC<|zK<|zA<|zA<|zB rfl<|vr 3 ((0:Int)<=(n:Int))<|vs 42 (Ar<|AF AD<|AV AD ((1:Int)*(2:Int)^min (Am (n:Int)) 32)) (dig ((2:Nat)^n))<|vr 1 (u3 ((↑((2:Nat)^n):Int)-(1:Int)))<|vs 43 (Ar<|AF AD ((↑((2:Nat)^n):Int)-(1:Int))) (dig ((2:Nat)^n-1))<|veT<|zAk (t:=(↑(covM fs):Int)!=(↑((2:Nat)^n-1):Int)) (by kernel_rfl) (λhc=>?_)<|λhc=>?_;simp only[bne_iff_ne]at hc;refine zA<|zB rfl<|veT<|zG<|zE<|vre (True) (Ar<|AF Bh (22:Int)) (.inr rfl) ?_;rotate_left;simp only[bne_eq_false_iff_eq]at hc;refine zL<|zC<|zK<|zA<|zB rfl<|veT<|zG<|vre (True) (Ar<|AF Bh (0:Int)) (.inr rfl) ?_;rotate_left
 all_goals grind
section
variable(n e:Int)(keep:Nat)(cs:List D)(m:Nat)
theorem total_cW(f:Fa Wh)(hm:Pure An 38 [proD,iD n,u32D 0, .row cs m] [] (.tup [faAW f,iD 0])):Pure An 18 [proD,iD n, .row cs m] [] (.tup [whD ((f.l.map (·.2)).headD w0),iD 0]):=by
 obtain⟨A,l⟩:=f;rcases l with _|⟨p,l⟩
 ·skip;obtain⟨z,hz⟩:∃z:Wh,z=w0:=⟨_,rfl⟩;have hr:whD (([]:List (Rw×Wh)).map (·.2)|>.headD w0)=whD z:=by rw[hz];rfl
  simp only[hr];refine zJ (T:=Tc) (zVd _ _ _) mixed Tryz.func18 rfl<|zA<|zB rfl<|v0s<|veT<|zA<|zB rfl<|vrT 3<|vc (hm)<|ve (aH_)<|zA<|zA<|zB rfl<|veT<|vf<|zL<|zC<|zK<|zA<|zA<|zB rfl<|ve (aP_)<|vt<|zA<|zB rfl<|vrT 1<|vc (wzero_c z hz)<|veT<|zG<|zE<|vret (True)<|.inr rfl
 skip;show Pure _ _ _ _ (.tup [whD p.2,iD 0]);have hx:(zA4 (p::l)).headD .unk=whD p.2:=rfl;have hne:zA4 (p::l)≠[]:=by simp
 refine zJ (T:=Tc) (zVd _ _ _) mixed Tryz.func18 rfl<|zA<|zB rfl<|v0s<|veT<|zA<|zB rfl<|vrT 3<|vc (hm)<|ve (aH_)<|zA<|zA<|zB rfl<|veT<|vf<|zL<|zC<|zK<|zA<|zA<|zB rfl<|ve (aP_)<|vEf ((↑(Aa l+1):Int)) ((0:Int))<|zL<|zC<|zK<|zA<|zB rfl<|ve (True/\0<1/\ix (0:Int) (↑(Aa l+1):Int) (zA4 (p::l)≠[])/\0<Aa (zA4 (p::l)))<|zG<|vret (True)<|.inr rfl
end
end
section
open Go.RowKit
set_option maxRecDepth 4096
theorem flatW{Dm:List Va}:∀{fs:List Rn},(∀f∈fs,Tofa Dm f/\f.R.length=f.W.length)->fs.flatMap rnCW=((fs.map toFa).map (Fa.mp g1)).flatMap zAj
 |[],_=>rfl
 | f::fs,h=>by
  obtain⟨h1,h2⟩:=h f (A0 ..);have e:rnCW f=zAj ((toFa f).mp g1):=by
   have e:=cells_mp h1 h2 g1 λb=>[whD b];rw[fmS,fmS]at e;exact e
  rw[BU,flatW λg hg=>h g (A1 _ hg),e];rfl
theorem wsum_one:∀l:List (Rw×Nat),wsum Wh.n (mpL g1 l)=l.length
 |[]=>rfl
 |p::l=>by
  show 1+wsum Wh.n (mpL g1 l)=_;rw[wsum_one l,AL];omega
theorem ten_bd(h:k<=4):2*(10^Kw)^k<=Bz:=by
 obtain⟨m,hm⟩:∃m,m=2934:=⟨_,rfl⟩;have hk:=Kw_eq;have he:=Ez_eq;have h1:(10^Kw)^k<=10^(3*m):=by
  rw[<-BY];refine Bl (by omega) ?_;grind
 have h2:10^(3*m)<=2^(10*m):=by
  rw[BY,BY];exact BK (by decide) m
 have h3:2*2^(10*m)=2^(10*m+1):=by rw[Nat.pow_succ,Nat.mul_comm]
 have h4:2^(10*m+1)<=Bz:=Bl (by omega) (by omega);exact As (Cj 2 (As h1 h2)) (h3▸h4)
section
variable{n:Nat}{fs:List Rn}(hn:n ≤ 8)(hl:fs.length ≤ 4)(hs:∀ f ∈ fs, Rsm f)(hv:∀ f ∈ fs, ∀ x ∈ f.R, ∀ a ∈ x, Vi a)(h0:zFc n 0 fs = 0)
include hn hl hs hv h0
theorem totW:Pure An 18 [proD,iD (n:Nat), .row (fs.flatMap rnCW) fs.length] [] (.tup [whD (((zKt popN rcmp Sw ((fs.map toFa).map (Fa.mp g1)) ((Ay n).filter λv=>!(0:Nat).testBit v)).l.map (·.2)).headD w0),iD 0])/\okW (((zKt popN rcmp Sw ((fs.map toFa).map (Fa.mp g1)) ((Ay n).filter λv=>!(0:Nat).testBit v)).l.map (·.2)).headD w0):=by
 obtain⟨_,_,h1,h2⟩:=wrongP_0 h0;have ht:=zQa (by omega) h1 hs;have hD:=errL_dom h1 hv;have hmm:∀f∈fs,Tofa (domP fs) f/\f.R.length=f.W.length:=λf hf=>⟨ht f hf,rn_len (zCl h1 f hf)⟩;have hcv:=cov_fa h2 ht;have hok:∀g∈(fs.map toFa).map (Fa.mp g1),FOk rcmp (domP fs) g:=λg hg=>by
  obtain⟨b,hb,rfl⟩:=Av.1 hg;obtain⟨f,hf,rfl⟩:=Av.1 hb;exact mp_ok _ (ht f hf).ok
 have hck:=zZ7 n 0 fs hn (by omega) (by omega) λf hf=>(hs f hf).z;rw[h0,flatW hmm]at hck;have hln:((fs.map toFa).map (Fa.mp g1)).length=fs.length:=by simp
 have s1:=pz_le (z:=rz) (b:=11) (l:=(fs.map toFa).map (Fa.mp g1)) λa ha=>by
  obtain⟨b,hb,rfl⟩:=Av.1 ha;obtain⟨f,hf,rfl⟩:=Av.1 hb;rw[mp_rz];exact(ht f hf).r
 have s2:=pz_le (z:=wz) (b:=10^Kw) (l:=(fs.map toFa).map (Fa.mp g1)) λa ha=>by
  obtain⟨b,hb,rfl⟩:=Av.1 ha;obtain⟨f,hf,rfl⟩:=Av.1 hb;unfold wz;refine BK ?_ _;have h3:cw ((toFa f).mp g1)=(toFa f).l.length:=wsum_one _;have h4:=(ht f hf).r;unfold rz at h4;omega
 rw[hln]at s1 s2;have s3:11^fs.length<=11^4:=Bl (by omega) hl;have e1:11^4=14641:=by decide
 have s4:2*pz wz ((fs.map toFa).map (Fa.mp g1))<=Bz:=As (Cj 2 s2) (ten_bd hl);have hm:=zY6 hD (zD5 _) n 0 _ hn (by omega) hok (by omega) (by omega) s4 (λv hv=>by
  obtain⟨f,hf,h3⟩:=hcv v hv;exact⟨_,Av.2 ⟨f,hf,rfl⟩,h3⟩) (by rw[hln];exact hck)
 rw[hln,<-flatW hmm]at hm;refine⟨total_cW _ _ _ _ hm,?_⟩;have hEn:((Ay n).filter λv=>!(0:Nat).testBit v).Nodup:=Cf.filter _;have hEc:∀v∈(Ay n).filter (λv=>!(0:Nat).testBit v),∃f∈(fs.map toFa).map (Fa.mp g1),v∈f.A:=λv h=>by
  obtain⟨f,hf,h3⟩:=hcv v (by have:=(Bn.1 h).1;simpa using this);exact⟨_,Av.2 ⟨f,hf,rfl⟩,h3⟩
 rw[zTf (pop:=popN) (S:=Sw) rcw (zD5 _) hEn (.refl _) hok hEc];have z2:=refP_z (S:=Sw) (z:=wz) (zTt (c:=rcmp)) ((fs.map toFa).map (Fa.mp g1)) (zB8 Sw);have z4:=refS_z (S:=Sw) (z:=wz) (fsum_wz (c:=rcmp)) ((Ay n).filter λv=>!(0:Nat).testBit v) (refP rcmp Sw (zB8 Sw) ((fs.map toFa).map (Fa.mp g1)));have h9:wz (zB8 Sw)<=2:=wz_one (by decide);have hall:=wz_ok (As z4 (As z2 (As (A7 _ h9) s4)));generalize refS rcmp Sw _ _=m at hall⊢;match hm:m.l with
 |[]=>exact zokW
 |p::l=>exact hall p (by rw[hm];exact A0 ..)
end
section
variable{n:Nat}{fs:List Rn}(hn:n ≤ 8)(hl:fs.length ≤ 4)(hs:∀ f ∈ fs, Rsm f)(hv:∀ f ∈ fs, ∀ x ∈ f.R, ∀ a ∈ x, Vi a)(h1:errL n fs = 0)(h2:covP n fs = true)
include hn hl hs hv h1 h2
theorem totWit:∃t:List (List Int),t.length=cntJ n fs/\t.length<16384/\(∀s∈t,s.length=fs.length)/\Pure An 18 [proD,iD (n:Nat), .row ((idF 0 fs).flatMap rnCW) fs.length] [] (.tup [.row (t.map zAd) t.length,iD 0]):=by
 obtain⟨h,ho⟩:=totW hn (by rw[zP0];exact hl) (zV2 hs hl) (λf hf=>by
  obtain⟨g,hg,k,rfl,_⟩:=zZe hf;exact hv g hg) (zVi hn h1 h2).1
 rw[zP0]at h;obtain⟨a1,a2⟩:=total_wit hn hl hs h1 h2 rfl;exact⟨_,a1,ho,a2,h⟩
end
end
section
open Go.RowKit
attribute [local irreducible] seqW awp zY zZ zR Weak updS zAe retL Pure Acts rP setP setQ cP nP fr
set_option maxRecDepth 4096
theorem acc_fit{n:Int}{V:List Int}{R:List Rw}{m:Nat}(h:chk n V R m=0):accL (V.length:Nat) R=0/\relR R=R:=by
 obtain⟨A,hA,hfit⟩:=zCj h;refine⟨accL_0 λj hj=>?_,relR_id hfit.srt⟩;have hm:R.getD j []∈R:=by rw[AX,AR hj];exact Bq hj
 have h1:=hfit.len _ hm;have h2:=hfit.vok _ hm;grind [accE,Az]
abbrev aaB(l:List D):Bk:=⟨l,75,3,Ab,Ac, .plain⟩
theorem af_snoc(l:List Rn)(f:Rn):(l++[f]).flatMap afC=l.flatMap afC++afC f:=by simp
set_option maxHeartbeats 4000000 in
theorem atoms_c(n:Nat)(h8:n<=8)(fs:List Rn)(hl:fs.length<=4)(hs:∀f∈fs,Rsm f):Pure An 16 [iD (n:Nat), .row (fs.flatMap rwD) fs.length] [] (if errL n fs=0 then .tup [.row (fs.flatMap afC) fs.length,bD (covP n fs)]else .tup [.row [] 0,bD Ac]):=by
 have hcov:=covered_c n fs (by omega) (by omega) λf hf=>by have:=(hs f hf).v;omega
 generalize hcv:covP n fs=cv at*;refine zJ zDw mixed Tryz.func16 rfl<|vAu<|vAe<|zA<|vAe<|zF<|zBp (λ(i:Nat)(a:List Rn)=>fr 56 [(0,iD (n:Int)),(1,Ae (Af rwD fs)<|Aa fs),(6,Ah 0 0 (Aa a) (Aa a*3) Ab),(7,iD (i:Int))]) (λ(i:Nat)(a:List Rn)=>[aaB<|a.flatMap afC]) (λi a=>fs.length-i) (λ(i:Nat)(a:List Rn)=>i<=fs.length/\a=fs.take i/\∀j,j<i->chkR n (fs.getD j Ai)=0) 0 [] ?_ ?_ ?_
 ·grind
 ·refine vk 0
 rintro i a ⟨h1,h2,h4⟩;have la:a.length<=1000:=by rw[h2];simp;omega
 have ca:(a.flatMap afC).length=a.length*3:=zHx zVb a;rcases Ax i fs.length with h3|h3
 ·have hm:=zAo fs Ai i h3;have hg2:=zQ0 zN4 fs i h3;have hle:=zHc zN4 fs i h3;have hne:=zEk zN4 (by decide) fs;have htk:=zBl fs i h3;rw[<-h2]at htk;have hsm:=hs _ hm;have hat:=zT1 h4 h3;generalize hff:fs.getD i Ai=f at*;obtain⟨V,R,W⟩:=f;have hV:=hsm.v;have hR:=hsm.r;simp only at hV hR;have hch:=rcheck_c n V R (natI W) (by omega) (by omega);have erw:rwD ⟨V,R,W⟩=[.row (V.map λz=>iD z) V.length, .row (R.map rowV) R.length, .row (nsD W) W.length]:=by
   simp_all
  have erd:rawD ⟨V,R,natI W⟩= .agg [.row (V.map λz=>iD z) V.length, .row (R.map rowV) R.length, .row (nsD W) W.length]:=congrArg Aw erw;rw[erw]at hg2;rw[erd,Az]at hch;have hof:=relOf_c (V.length:Nat) R R.length (by omega) (by omega) rfl (by omega);by_cases e0:chk n V R W.length=0
  ·obtain⟨q1,q2⟩:=acc_fit e0;rw[q1,if_pos rfl,q2]at hof;rw[e0]at hch;refine zA<|vAu<|vT ((i:Int)<↑(Aa fs))<|vKB<|zA<|vd [0,1,2,3,6,7,8,9,4,5,10,11,12,13,14,15,16,17]<|vr 3 (ix ↑i ↑(Aa fs) (Af rwD fs≠[]))<|vs 19 (AA<|Ag (Am (i:Int)*3)<|Af rwD fs) (AA (Ae (Ad (λ(z:Int)=>iD z) V) (Aa V)::Ae (Ad rowV R) (Aa R)::Ae (nsD W) (Aa W)::Af rwD (Ag (i+1) fs)))<|vr 4 (True/\ix ↑i ↑(Aa fs) (Af rwD fs≠[]))<|vs 25 (AA<|Ag (Am (i:Int)*3)<|Af rwD fs) (AA (Ae (Ad (λ(z:Int)=>iD z) V) (Aa V)::Ae (Ad rowV R) (Aa R)::Ae (nsD W) (Aa W)::Af rwD (Ag (i+1) fs)))<|vr 4 (True/\0<Aa (Ae (Ad (λ(z:Int)=>iD z) V) (Aa V)::Ae (Ad rowV R) (Aa R)::Ae (nsD W) (Aa W)::Af rwD (Ag (i+1) fs))/\0<Aa (Ae (Ad rowV R) (Aa R)::Ae (nsD W) (Aa W)::Af rwD (Ag (i+1) fs)))<|vc hof<|ve (aQ_)<|zA<|vA<|vr 4 (ix ↑i ↑(Aa fs) (Af rwD fs≠[]))<|vs 34 (AA<|Ag (Am (i:Int)*3)<|Af rwD fs) (AA (Ae (Ad (λ(z:Int)=>iD z) V) (Aa V)::Ae (Ad rowV R) (Aa R)::Ae (nsD W) (Aa W)::Af rwD (Ag (i+1) fs)))<|vr 1 (3<=Aa (Ae (Ad (λ(z:Int)=>iD z) V) (Aa V)::Ae (Ad rowV R) (Aa R)::Ae (nsD W) (Aa W)::Af rwD (Ag (i+1) fs)))<|vc hch<|ve (True/\True)<|vf<|vK<|vd [0,1,2,3,4,5,6,7,8,9,10]<|vr 4 (ix ↑i ↑(Aa fs) (Af rwD fs≠[]))<|vs 45 (AA<|Ag (Am (i:Int)*3)<|Af rwD fs) (AA (Ae (Ad (λ(z:Int)=>iD z) V) (Aa V)::Ae (Ad rowV R) (Aa R)::Ae (nsD W) (Aa W)::Af rwD (Ag (i+1) fs)))<|vr 7 (True/\0<Aa (Ae (Ad (λ(z:Int)=>iD z) V) (Aa V)::Ae (Ad rowV R) (Aa R)::Ae (nsD W) (Aa W)::Af rwD (Ag (i+1) fs))/\2<=2/\((1=1/\1<=3/\2=2/\3<=3/\True)/\Ab=Ab)/\(ax_)/\AS (aaB<|Af afC a)=Ab/\Aa (AC<|aaB<|Af afC a)=Aa a*3/\Aa a*3=Aa a*3/\AJ (aaB<|Af afC a)=75/\AK (aaB<|Af afC a)=3/\3=3/\0<3/\0<56/\75=75/\(Aa a+1)*56<=140737488355328/\3=3/\AO (Au<|aaB<|Af afC a)=Ac/\(Ac=Ac\/AQ (Au<|aaB<|Af afC a)=Ab))<|vnil<|zD<|vN<|zB rfl<|vr 3 (i6 (↑i+1))<|vnil<|zC<|⟨i+1,a++[⟨V,R,W⟩],⟨by omega,htk.symm,λj hj=>?_⟩,by omega,?_⟩
   ·rcases Ax j i with h|h
    ·exact h4 j h
    obtain rfl:j=i:=by omega
    rw[hff];exact e0
   rw[af_snoc,len_sn];refine vk 1
  have hat2:errL n fs=chk n V R W.length:=hat e0;rw[if_neg (by rw[hat2];exact e0)];obtain⟨x1,x2,x3,x4,hof⟩:∃(x1:Int)(x2:List D)(x3:Nat)(x4:Int),Pure An 36 [iD (V.length:Nat), .row (R.map rowV) R.length] [] (.tup [.agg [iD x1, .row x2 x3],iD x4]):=by
   grind
  generalize chk n V R W.length=e at*;refine zA<|vAu<|vT ((i:Int)<↑(Aa fs))<|vKB<|zA<|vd [0,1,2,3,6,7,8,9,4,5,10,11,12,13,14,15,16,17]<|vr 3 (ix ↑i ↑(Aa fs) (Af rwD fs≠[]))<|vs 19 (AA<|Ag (Am (i:Int)*3)<|Af rwD fs) (AA (Ae (Ad (λ(z:Int)=>iD z) V) (Aa V)::Ae (Ad rowV R) (Aa R)::Ae (nsD W) (Aa W)::Af rwD (Ag (i+1) fs)))<|vr 4 (True/\ix ↑i ↑(Aa fs) (Af rwD fs≠[]))<|vs 25 (AA<|Ag (Am (i:Int)*3)<|Af rwD fs) (AA (Ae (Ad (λ(z:Int)=>iD z) V) (Aa V)::Ae (Ad rowV R) (Aa R)::Ae (nsD W) (Aa W)::Af rwD (Ag (i+1) fs)))<|vr 4 (True/\0<Aa (Ae (Ad (λ(z:Int)=>iD z) V) (Aa V)::Ae (Ad rowV R) (Aa R)::Ae (nsD W) (Aa W)::Af rwD (Ag (i+1) fs))/\0<Aa (Ae (Ad rowV R) (Aa R)::Ae (nsD W) (Aa W)::Af rwD (Ag (i+1) fs)))<|vc hof<|ve (aQ_)<|zA<|vA<|vr 4 (ix ↑i ↑(Aa fs) (Af rwD fs≠[]))<|vs 34 (AA<|Ag (Am (i:Int)*3)<|Af rwD fs) (AA (Ae (Ad (λ(z:Int)=>iD z) V) (Aa V)::Ae (Ad rowV R) (Aa R)::Ae (nsD W) (Aa W)::Af rwD (Ag (i+1) fs)))<|vr 1 (3<=Aa (Ae (Ad (λ(z:Int)=>iD z) V) (Aa V)::Ae (Ad rowV R) (Aa R)::Ae (nsD W) (Aa W)::Af rwD (Ag (i+1) fs)))<|vc hch<|vew [] [(7,Ab)] (True/\(e !=(0:Int))=Ab) ?_;refine vt<|vAe<|zG<|zE<|zH<|zE<|zE<|zH<|zE<|vret (True)<|.inr rfl
 rw[AI (by omega)]at h2;have h0:=errL_0 (n:=n) (fs:=fs) λj hj=>h4 j (by omega);rw[h0,if_pos rfl];subst h2;have ht:=zFq zVb a _ rfl;refine zA<|vAu<|vF ((i:Int)<↑(Aa a))<|vZ2<|vA<|vrT 3<|vc hcov<|veT<|zG<|zBt (True) (D.tup [Ae (Ap (Aa a*3)<|Ag 0<|AC<|aaB<|Af afC a)<|Aa a,bD cv]) (D.tup [Ae (Af afC a)<|Aa a,Ar<|Bu cv]) (.inr rfl) (by simp(disch:=omega) only[AM,ht]) rfl
section
variable(n:Int)(cs:List D)(k:Nat)
theorem witsNo_c(b:Bool)(hb:b=Ac\/n<0\/8<n)(hfew:Pure An 7 [.row cs k] [] (bD b)):Pure An 4 [iD n, .row cs k] [] (bD Ab):=by
 cases b
 ·refine zJ zDw mixed B6 rfl<|vAu<|zA<|vA<|vc (zQo)<|veT<|vf<|vK<|zA<|vA<|vrT 1<|vc (hfew)<|veT<|vt<|vAe<|zG<|zE<|vret (True)<|.inr rfl
 have hb:n<0\/8<n:=by simpa using hb
 refine zJ zDw mixed B6 rfl ?_;by_cases h0:n<0
 ·refine vAu<|zA<|vA<|vc (zQo)<|veT<|vf<|vK<|zA<|vA<|vrT 1<|vc (hfew)<|vew [] [(7,Ab)] (decide (n<0)=Ab)<|vt<|vAe<|zG<|zE<|vret (True)<|.inr rfl
 refine vAu<|zA<|vA<|vc (zQo)<|veT<|vf<|vK<|zA<|vA<|vrT 1<|vc (hfew)<|vew [] [(7,Ac)] (decide (n<0)=Ac)<|vT (n>(8:Int))<|vAe<|zG<|zE<|vret (True)<|.inr rfl
theorem witsW_c(h0:0<=n)(h8:n<=8)(xs:List D)(m:Nat)(hfew:Pure An 7 [.row cs k] [] (bD Ab))(ha:Pure An 16 [iD n, .row cs k] [] (.tup [.row xs m,bD Ac])):Pure An 4 [iD n, .row cs k] [] (bD Ab):=by
 refine zJ zDw mixed B6 rfl<|vAu<|zA<|vA<|vc (zQo)<|veT<|vf<|vK<|zA<|vA<|vrT 1<|vc (hfew)<|vew [] [(7,Ac)] (decide (n<0)=Ac)<|vF (n>(8:Int))<|vK<|vA<|vrT 2<|vc (ha)<|ve (aT_)<|zA<|vAe<|vt<|vAe<|zG<|zE<|vret (True)<|.inr rfl
end
theorem rnW_snoc(l:List Rn)(f:Rn):(l++[f]).flatMap rnCW=l.flatMap rnCW++rnCW f:=by simp
theorem idv_succ{o:Nat}(h:o+k<64):(AN o (k+1)).map (λx=>whD (g1 x))=(AN o k).map (λx=>whD (g1 x))++[.row [.row [iD ((o+k:Nat):Int)] 1] 1]:=by
 rw[List.range'_1_concat,Cp];refine congrArg _ ?_;show[Ae [.row [iD (((o+k)%64:Nat):Int)] 1] 1]=_;rw[Nat.mod_eq_of_lt h]
set_option maxHeartbeats 8000000 in
theorem witsOk_c(n:Nat)(h8:n<=8)(fs:List Rn)(hl:fs.length<=4)(hs:∀f∈fs,Rsm f)(hr:∀f∈fs,∀r∈f.R,r.length<=2000000)(J:Nat)(hJ:J<=4000000000000000000)(z:Nat)(t:List (List Int))(ht1:t.length=J)(ht2:∀s∈t,s.length=fs.length)
  (hfew:Pure An 7 [.row (fs.flatMap rwD) fs.length] [] (bD Ab))(hat:Pure An 16 [iD (n:Nat), .row (fs.flatMap rwD) fs.length] [] (.tup [.row (fs.flatMap afC) fs.length,bD Ab]))
  (hT:Pure An 18 [proD,iD (n:Nat), .row ((idF 0 fs).flatMap rnCW) fs.length] [] (.tup [.row (t.map zAd) t.length,iD 0]))
  (hC:Pure An 19 [iD (n:Nat), .row (fs.flatMap afC) fs.length] [] (.tup [natD J,iD (z:Nat),iD 0])):Pure An 4 [iD (n:Nat), .row (fs.flatMap rwD) fs.length] [] (bD Ab):=by
 have hcm:=ncmp_c J J (Sm.of (by omega)) (Sm.of (by omega));have e0:cmpD (J:Int) (J:Int)=0:=by rcases zD8 (J:Int) J with h|h|h<;>omega
 rw[e0]at hcm;have hof:=of_c J (by omega);have m1:=zYh (n:=J) (by omega);have hlen:=zP0 fs 0;refine zJ zDw mixed B6 rfl<|vAu<|zA<|vA<|vc (zQo)<|veT<|vf<|vK<|zA<|vA<|vrT 1<|vc (hfew)<|vew [] [(7,Ac)] (decide ((n:Int)<0)=Ac)<|vF ((n:Int)>(8:Int))<|vK<|vA<|vrT 2<|vc (hat)<|ve (aT_)<|zA<|vAe<|vf<|vK<|vAe<|vAe<|zA<|vAe<|zF<|zBp (λ(i:Nat)(a:List Rn)=>fr 122 [(0,iD (n:Int)),(1,Ae (Af rwD fs)<|Aa fs),(4,bD Ac),(5,Ae (Af afC fs)<|Aa fs),(7,Ah 0 0 (Aa a) (Aa a*3) Ab),(8,iD (↑(ofs<|Ap i fs):Int)),(9,iD (i:Int))]) (λ(i:Nat)(a:List Rn)=>[fsBW<|a.flatMap rnCW]) (λi a=>fs.length-i) (λ(i:Nat)(a:List Rn)=>i<=fs.length/\a=idF 0 (fs.take i)) 0 [] ?_ ?_ ?_
 ·exact⟨by omega,rfl⟩
 ·refine vk 0
 rintro i a ⟨h1,h2⟩;have la:a.length=(fs.take i).length:=by rw[h2,zP0]
 have la2:a.length<=1000:=by rw[la];simp;omega
 have caW:(a.flatMap rnCW).length=a.length*3:=zHx zKj a;rcases Ax i fs.length with h3|h3
 ·have hm:=zAo fs Ai i h3;have hg2:=zQ0 zVb fs i h3;have hne:=zEk zVb (by decide) fs;have htk:=zBl fs i h3;have hsm:=hs _ hm;have hrr:=hr _ hm;have hid:=idF_snoc (fs.getD i Ai) (fs.take i) 0;have hofs:=ofs_snoc (fs.getD i Ai) (fs.take i);have hot:=ofs_le (fs:=fs.take (i+1)) λf hf=>hs f (BI hf);rw[htk,hofs]at hot;have ho4:(fs.take i++[fs.getD i Ai]).length<=4:=by rw[<-htk,A8];omega
  rw[<-htk,Nat.zero_add]at hid;rw[<-htk]at hofs;rw[<-h2]at hid;generalize fs.getD i Ai=f at*;generalize ofs (fs.take i)=o at*;obtain⟨V,R,W⟩:=f;have hR:=hsm.r;have hV:=hsm.v;simp only at hR hV hrr hid hofs hot;have hro:=rRows_c (V.length:Nat) R (by omega) hrr;refine zA<|vAu<|vT ((i:Int)<↑(Aa fs))<|vKB<|zA<|vd [0,1,2,3,5,6,7,8,4,9,10,11,12,13]<|vr 3 (ix ↑i ↑(Aa fs) (Af afC fs≠[]))<|vs 47 (AA<|Ag (Am (i:Int)*3)<|Af afC fs) (AA (Ae (Ad (λ(z:Int)=>iD z) V) (Aa V)::iD (Aa V)::Ae (Ad rowV R) (Aa R)::Af afC (Ag (i+1) fs)))<|vr 4 (True/\ix ↑i ↑(Aa fs) (Af afC fs≠[]))<|vs 52 (AA<|Ag (Am (i:Int)*3)<|Af afC fs) (AA (Ae (Ad (λ(z:Int)=>iD z) V) (Aa V)::iD (Aa V)::Ae (Ad rowV R) (Aa R)::Af afC (Ag (i+1) fs)))<|vr 3 (True/\0<Aa (Ae (Ad (λ(z:Int)=>iD z) V) (Aa V)::iD (Aa V)::Ae (Ad rowV R) (Aa R)::Af afC (Ag (i+1) fs))/\2<=Aa (iD (Aa V)::Ae (Ad rowV R) (Aa R)::Af afC (Ag (i+1) fs)))<|vc hro<|vr 3 (aJ_)<|vnil<|zC<|vnn (fr 122 [(0,iD n),(1,Ae (Af rwD fs)<|Aa fs),(4,bD Ac),(5,Ae (Af afC fs)<|Aa fs),(7,Ah 0 0 (Aa a) (Aa a*3) Ab),(8,iD o),(9,iD i),(10,Al 1 0),(42,bD<|decide ((i:Int)<↑(Aa fs))),(45,Ae (Af afC fs)<|Aa fs),(46,iD i),(47,AA (Ae (Ad (λ(z:Int)=>iD z) V) (Aa V)::iD (Aa V)::Ae (Ad rowV R) (Aa R)::Af afC (Ag (i+1) fs))),(48,AA (Ae (Ad (λ(z:Int)=>iD z) V) (Aa V)::iD (Aa V)::Ae (Ad rowV R) (Aa R)::Af afC (Ag (i+1) fs))),(49,Ae (Ad (λ(z:Int)=>iD z) V)<|Aa V),(50,Ae (Af afC fs)<|Aa fs),(51,iD i),(52,AA (Ae (Ad (λ(z:Int)=>iD z) V) (Aa V)::iD (Aa V)::Ae (Ad rowV R) (Aa R)::Af afC (Ag (i+1) fs))),(53,AA (iD (Aa V)::Ae (Ad rowV R) (Aa R)::Af afC (Ag (i+1) fs))),(54,Aw [iD<|Aa V,Ae (Ad rowV R)<|Aa R]),(55,Ae (Ad rowV R)<|Aa R),(56,Aw [Ae (Ad (λ(z:Int)=>iD z) V)<|Aa V,Ae (Ad rowV R)<|Aa R,nl])]) [fsBW<|Af rnCW a,Aj [Ae (Ad (λ(z:Int)=>iD z) V)<|Aa V,Ae (Ad rowV R)<|Aa R,nl] 79 0 Ac Ac Ak]<|zBh (Bo (j:=1) (i:=2) (ej:=fB1W (.row (V.map λz=>iD z) V.length) (.row (R.map rowV) R.length) nl) (zE1 []) (by kernel_rfl) rfl rfl rfl) ?_;refine zA<|vAu<|zF<|zN (λ(k:Nat)=>fr 122 [(0,iD n),(1,Ae (Af rwD fs)<|Aa fs),(4,bD Ac),(5,Ae (Af afC fs)<|Aa fs),(7,Ah 0 0 (Aa a) (Aa a*3) Ab),(8,iD ↑(o+k)),(9,iD i),(10,Al 1 0),(11,iD k)]) (λ(k:Nat)=>[fsBW<|a.flatMap rnCW,fB1W (.row (V.map λz=>iD z) V.length) (.row (R.map rowV) R.length)<|.osl 2 0 k k Ab,zE1 ((AN o k).map λx=>whD (g1 x))]) (λk=>R.length-k) (λ(k:Nat)=>k<=R.length) 0 ?_ ?_ ?_
  ·omega
  ·refine vk 3
  rintro k k1;have hkl:((AN o k).map λx=>whD (g1 x)).length=k:=by rw[Az,B3]
  rcases Ax k R.length with k2|k2
  ·have hsu:=idv_succ (o:=o) (k:=k) (by omega);refine zA<|vAs<|ve (aG_)<|vT ((k:Int)<↑(Aa R))<|vKB<|vA<|vr 9 (True/\0<1/\((1=1/\1<=1/\True)/\0<1/\1=1/\1<=16777216/\1<=9223372036854775807)/\((1=1/\1<=1/\True)/\0<1/\1=1/\1<=16777216/\1<=9223372036854775807)/\((1=1/\1<=1/\True)/\0<1/\1=1/\1<=16777216/\1<=9223372036854775807)/\(AS (zE1<|Ad (λ(x:Nat)=>whD (g1 x))<|AN o k)=Ab/\Aa (AC<|zE1<|Ad (λ(x:Nat)=>whD (g1 x))<|AN o k)=k*1/\k=k*1/\AJ (zE1<|Ad (λ(x:Nat)=>whD (g1 x))<|AN o k)=81/\AK (zE1<|Ad (λ(x:Nat)=>whD (g1 x))<|AN o k)=1/\1=1/\0<1/\0<24/\81=81/\(k+1)*24<=140737488355328/\1=1/\AO (Au<|zE1<|Ad (λ(x:Nat)=>whD (g1 x))<|AN o k)=Ac/\(Ac=Ac\/AQ (Au<|zE1<|Ad (λ(x:Nat)=>whD (g1 x))<|AN o k)=Ab))/\aS_)<|vb 1 (Aj [Ae (Ad (λ(z:Int)=>iD z) V)<|Aa V,Ae (Ad rowV R)<|Aa R,Ah 2 0 (k+1) ((k+1)*1) Ab] 79 0 Ac Ac Ak) (Aj [Ae (Ad (λ(z:Int)=>iD z) V)<|Aa V,Ae (Ad rowV R)<|Aa R,Ah 2 0 (k+1) (k+1) Ab] 79 0 Ac Ac Ak)<|veT<|zB rfl<|vr 3 (i6 (↑(o+k)+1))<|vnil<|zD<|vN<|zB rfl<|vr 3 (i6 (↑k+1))<|vnil<|zC<|⟨k+1,by omega,by omega,?_⟩;rw[hsu];refine vk 3
  obtain rfl:k=R.length:=by omega
  refine zA<|vAs<|ve (aG_)<|vF ((Aa R:Int)<↑(Aa R))<|vY2<|zC<|vnn (fr 122 [(0,iD n),(1,Ae (Af rwD fs)<|Aa fs),(4,bD Ac),(5,Ae (Af afC fs)<|Aa fs),(7,Ah 0 0 (Aa a) (Aa a*3) Ab),(8,iD ↑(o+Aa R)),(9,iD i),(10,Al 1 0),(11,iD<|Aa R),(61,bD<|decide ((Aa R:Int)<(Aa R:Int)))]) [fsBW<|Af rnCW a,fB1W (Ae (Ad (λ(z:Int)=>iD z) V)<|Aa V) (Ae (Ad rowV R)<|Aa R)<|Ah 2 0 (Aa R) (Aa R) Ab,zE1<|Ad (λ(x:Nat)=>whD (g1 x))<|AN o<|Aa R] ?_;have hf3:(((AN o R.length).map λx=>whD (g1 x)).drop 0).take R.length=(AN o R.length).map λx=>whD (g1 x):=by rw[AM,AI (by omega)]
  refine zBh (BG (j:=1) (i:=2) (d:= .osl 2 0 R.length R.length Ab) (x:= .row ((AN o R.length).map λx=>whD (g1 x)) R.length) (ks:=[2]) rfl rfl rfl rfl (by show Aq (Ae ((((AN o R.length).map λx=>whD (g1 x)).drop 0).take R.length) R.length,[2])=_;rw[hf3]) (by decide)) ?_;refine zB rfl<|v0s<|vr 5 (aB_ (AS (fsBW<|Af rnCW a)=Ab/\Aa (AC<|fsBW<|Af rnCW a)=Aa a*3/\Aa a*3=Aa a*3/\AJ (fsBW<|Af rnCW a)=79/\AK (fsBW<|Af rnCW a)=3/\3=3/\0<3/\0<72/\79=79/\(Aa a+1)*72<=140737488355328/\3=3/\AO (Au<|fsBW<|Af rnCW a)=Ac/\(Ac=Ac\/AQ (Au<|fsBW<|Af rnCW a)=Ab)))<|vnil<|zD<|vN<|zB rfl<|vr 3 (i6 (↑i+1))<|vnil<|zC<|⟨i+1,a++[rnId o ⟨V,R,W⟩],⟨by omega,hid.symm⟩,by omega,?_⟩;have e1:rnCW (rnId o ⟨V,R,W⟩)=[.row (V.map λz=>iD z) V.length, .row (R.map rowV) R.length, .row ((AN o R.length).map λx=>whD (g1 x)) R.length]:=by
   show[_,_,Ae ((AN o R.length).map λx=>whD (g1 x)) (AN o R.length).length]=_;rw[B3];rfl
  rw[rnW_snoc,len_sn,e1,hofs];refine vk 1
 rw[AI (by omega)]at h2 la;have hfl:a.flatMap rnCW=(idF 0 fs).flatMap rnCW:=by rw[h2]
 rw[<-hfl,<-la]at hT;have ht3:=zFq zKj a _ rfl;have hts:∀i,i<t.length->(t.getD i []).length=fs.length:=λi hi=>ht2 _ (zAo t [] i hi);subst ht1;refine zA<|vAu<|vF ((i:Int)<↑(Aa fs))<|vZ2<|vA<|vr 4 (True/\Ab=Ab)<|vcl [D.ifc 84<|Aw [],iD n,Ae (Ap (Aa a*3)<|Ag 0<|AC<|fsBW<|Af rnCW a)<|Aa a] [D.ifc 84<|Aw [],iD n,Ae (Af rnCW a)<|Aa a] (LeL.of_eq (by simp(disch:=omega) only[AM,ht3])) (by exact hT)<|ve (aT_)<|vA<|vrT 2<|vc hC<|ve (0<3/\1<3/\2<3)<|zA<|vA<|vr 10 (True/\True/\u6 (Aa t:Int))<|vc hof<|vrT 1<|vc hcm<|veT<|vf<|vK<|zA<|vAe<|zF<|zN (λ(q:Nat)=>fr 122 [(1,Ae (Af rwD fs)<|Aa fs),(12,Ae (Ad zAd t)<|Aa t),(17,iD q)]) (λ(q:Nat)=>[⟨a.flatMap rnCW,79,3,Ab,Ab,.plain⟩]) (λq=>t.length-q) (λ(q:Nat)=>q<=t.length) 0 ?_ ?_ ?_
 ·omega
 ·refine vk 1
 rintro q q1;rcases Ax q t.length with q2|q2
 ·have hx:=zK7 t q q2;have hn2:t.map zAd≠[]:=zV;have hln:=hts q q2;generalize t.getD q []=s at*;refine zA<|vAu<|vT ((q:Int)<↑(Aa t))<|vKB<|vA<|vr 3 (ix ↑q ↑(Aa t) (Ad zAd t≠[]))<|vp 116 q (Ad zAd t)<|vr 1 (0<Aa (Ag q<|Ad zAd t))<|vsh 117 hx<|veT<|zGf (t:=(Aa s:Int)!=(Aa fs:Int)) (by kernel_rfl) (by simpa using by omega)<|zL<|zD<|vN<|zB rfl<|vr 3 (i6 (↑q+1))<|vnil<|zC<|⟨q+1,by omega,by omega,?_⟩;refine vk 1
 refine zA<|vAu<|vF ((q:Int)<(Aa t:Int))<|vZ2<|vAe<|zG<|vret (True)<|.inr rfl
theorem wits_all(n:Int)(l:List Raw)(hn:inK .i64 n)(hl:∀f∈l,RawOk f):Pure An 4 [iD n, .row (l.flatMap rawC) l.length] [] (bD Ab):=by
 have hfew:=few_c l;by_cases hf:fewP l=Ab;case neg=>
  rw[Bool.not_eq_true]at hf;rw[hf]at hfew;exact witsNo_c n _ _ Ac (.inl rfl) hfew
 rw[hf]at hfew;by_cases h8:n<0\/8<n
 ·grind [witsNo_c]
 obtain⟨hl4,fs,rfl,hs⟩:=fewP_rn hf;rw[Az]at hl4;have hvv:∀f∈fs,∀x∈f.R,∀a∈x,Vi a:=λf hf=>(hl (rnR f) (Av.2 ⟨f,hf,rfl⟩)).r;have e:(fs.map rnR).flatMap rawC=fs.flatMap rwD:=by rw[BW]
 rw[e,Az]at hfew⊢;obtain⟨N,rfl⟩:∃N:Nat,n=N:=⟨n.toNat,by omega⟩;have hN:N<=8:=by omega
 have ha:=atoms_c N hN fs hl4 hs;by_cases h1:errL N fs=0;case neg=>
  rw[if_neg h1]at ha;exact witsW_c N _ _ (by omega) (by omega) _ _ hfew ha
 rw[if_pos h1]at ha;by_cases h2:covP N fs=Ab;case neg=>
  rw[Bool.not_eq_true]at h2;rw[h2]at ha;exact witsW_c N _ _ (by omega) (by omega) _ _ hfew ha
 rw[h2]at ha;have hrr:∀f∈fs,∀r∈f.R,r.length<=2000000:=λf hf r hr=>by
  obtain⟨A,hA,hfit⟩:=zCj (zCl h1 f hf);have h3:=hfit.len r hr;have h4:=(hs f hf).v;grind
 obtain⟨t,ht1,ht3,ht2,hT⟩:=totWit hN hl4 hs hvv h1 h2;have hj:cntJ N fs<16384:=ht1▸ht3;obtain⟨z,hc⟩:=cntL_c hN hl4 hs h1 h2 (by omega);generalize cntJ N fs=J at*;exact witsOk_c N hN fs hl4 hs hrr J (by omega) z t ht1 ht2 hfew ha hT hc
end
end Go.Proofs.YtmfamhoopjeaiaaGreatDoor
