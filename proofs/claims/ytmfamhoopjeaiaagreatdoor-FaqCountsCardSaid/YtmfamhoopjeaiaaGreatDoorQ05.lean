/- Texts of this claim, joined. -/
import Derived.Test.YtmfamhoopjeaiaaGreatDoorQ04
import Derived.Shelf.Spec.SlicesGrow
import Derived.Ground.Names8Prog
import Derived.Test.YtmfamhoopjeaiaaGreatDoorProg
import Derived.Lib.RowBridge
import Derived.Lib.AppendZeros
set_option linter.unusedVariables false
set_option linter.unusedSimpArgs false
namespace Go.Proofs.YtmfamhoopjeaiaaGreatDoor
open _root_.List renaming length->Aa,map->Ae,flatMap->Af,drop->Ag,take->Am,getD->An,length_map->Ay,range->AA,mem_map->AD,getD_eq_getElem?_getD->AE,replicate->AI,take_of_length_le->AK,getElem?_eq_getElem->AM,drop_zero->AP,cons_append->AX,nil_append->AY,length_append->AZ,all_eq_true->A3,mem_filter->A4,length_cons->A5,length_drop->A6,map_map->A8,getElem_mem->A9,mem_cons->Ba,headD->Bb,mem_cons_of_mem->Bj,mem_cons_self->Bl,length_filter_le->Bp,append_nil->Bu,flatMap_cons->Bv,getElem?_map->By,take_succ_eq_append_getElem->BA,eq_nil_of_length_eq_zero->BC,map_append->BF,map_congr_left->BG,flatMap_map->BI,all->BJ,filter_append->BM,length_take->BO,mem_range->BP,not_mem_nil->BQ,foldl_append->BR,take_length->BS,length_nil->BW,drop_eq_getElem_cons->B3,mem_of_mem_drop->B6,drop_of_length_le->B7,map_cons->B_,length_replicate->Ca,filter_map->Cb,filter_congr->Cc,mem_of_mem_take->Ch,filter_cons->Cj,flatMap_append->Ck,pairwise_lt_range->Cm,mem_iff_getElem->Cp,getElem_take->Cq,sum_cons->Cr,any_eq_true->Cs,length_eq_zero_iff->Ct,getElem_of_mem->Cu,nodup_range->Cv
open _root_.Bool renaming true->Ab,false->Ac,and_eq_true->Bn,eq_iff_iff->BE,not_eq_true'->BN,not_eq_false'->B9,or_eq_true->Cn,eq_false_iff->Co
open D renaming row->Ad,osl->Ah,own->Al,agg->Aq,val->As,ptr->AH,ifc->A7,clo->Bc
open _root_.Inhabited renaming default->Ai
open Kd renaming plain->Aj,isMap->AR,isSh->AS
open Bk renaming mk->Ak,kd->Az,cells->AJ,ty->AN,sz->AO,arr->AU,fz->A1
open _root_.Go.Proofs.Tryz renaming prog->Ao,func284->Cd,func285->Ce,func5->Cg
open _root_.Int renaming toNat->Ap,toNat_natCast->AG,fdiv->BL
open _root_.Option renaming some->Ar,none->Au,getD_some->Cf
open _root_.Nat renaming lt_or_ge->Av,le_trans->AB,le_mul_of_pos_right->AV,mul_one->A2,le_refl->Bi,mul_le_mul_right->Bm,pow_le_pow_right->Br,zero_le->Bt,eq_zero_or_pos->Bx,le_of_eq->BT,zero_add->BX,add_sub_cancel->BZ,mul_assoc->B5,lt_of_lt_of_le->Ci,one_le_two_pow->Cl
open _root_.BitVec renaming ofInt->Aw,toNat->AQ
open IntKind renaming u32->Ax,wrap->AT,i64->Bh
open Fa renaming A->AC,l->A0,mk->Bq
open Value renaming int->AF,string->AL,slice->AW,agg->BB,bool->BH
open _root_.ByteArray renaming mk->A_
open TypeInfo renaming desc->Bd,mk->Bf
open TypeDesc renaming string->Bg
open Weak renaming nilC->Bo,osr->BD,fzCell->B8
open _root_.Prod renaming fst->Bs
open Lib renaming bitLen->Bw,run_eql_slice_nil->BY
open LeL renaming of_eq->BK
open _root_.Array renaming toArray_toList->BU,size_append->BV
section
open Go.RowKit
attribute [local irreducible] seqW awp zAa zAb zR Weak updS zAd retL Pure Acts rP setP setQ cP nP fr
set_option maxRecDepth 4096
theorem max_nat(a b:Nat):(if((b:Nat):Int)>(a:Nat)then((b:Nat):Int)else((a:Nat):Int))=((max a b:Nat):Int):=by split<;>omega
theorem zTi{α:Type}(v:Nat)(fs:List (Fa α))(k:Nat)(h:k<fs.length):uniM v (fs.take (k+1))=if v∈(fs.getD k Ai).A then uniM v (fs.take k)|||msk (fs.getD k Ai).A else uniM v (fs.take k):=by
 rw[zBm fs k h];unfold uniM;rw[BR];rfl
theorem zWu{α:Type}(v:Nat)(fs:List (Fa α))(k:Nat)(h:k<fs.length):bigL v (fs.take (k+1))=if v∈(fs.getD k Ai).A then max (bigL v (fs.take k)) (fs.getD k Ai).A.length else bigL v (fs.take k):=by
 rw[zBm fs k h];unfold bigL;rw[BR];rfl
theorem zM3{α:Type}(v:Nat):∀(fs:List (Fa α))(m:Nat),m<4294967296->(∀f∈fs,∀w∈f.A,w<32)->fs.foldl (λm f=>if v∈f.A then m|||msk f.A else m) m<4294967296
 |[],m,h,_=>h
 |f::fs,m,h,hf=>by
  rw[List.foldl_cons];refine zM3 v fs _ ?_ λg hg=>hf g (Bj _ hg);split
  ·exact zP1 h (zCf (hf f (Bl ..)))
  exact h
theorem ch_succ{α:Type}(fs:List (Fa α))(E:List Nat)(i:Nat)(h:i<E.length)(s0:Int×Nat):(E.take (i+1)).foldl (zEd popN fs) s0=zEd popN fs ((E.take i).foldl (zEd popN fs) s0) (E.getD i 0):=by
 rw[BA h,BR,AE,AM h];rfl
set_option maxHeartbeats 8000000 in
theorem cheapest_c(fs:List (Fa Nat))(E:List Nat)(hE:Asc E)(hne:E≠[])(hA:∀f∈fs,Asc f.A)(hl:fs.length<=1000):
  Pure Ao 47 [.row (fs.flatMap faAc) fs.length,u32D (msk E)] [] (iD (zA9 popN fs E:Nat)):=by
 have hm:=zKa (msk E) (zCf hE.2);rw[zHh hE]at hm;have nE:=zCw hE;refine zH zDt mixed Tryz.func47 rfl<|vAu<|vAe<|zB<|vA<|vrT 1<|vc (hm)<|veT<|zF<|zA2 (λ(i:Nat)(b:Int)(l:Nat)=>fr 59 [(0,Ad (Af faAc fs)<|Aa fs),(4,iD 0),(5,iD b),(6,iD (l:Int)),(15,Ad (nsD E)<|Aa E),(16,iD (Aa E:Int)),(17,iD (i:Int))]) (λ(i:Nat)(b:Int)(l:Nat)=>[]) (λi b l=>E.length-i) (λ(i:Nat)(b:Int)(l:Nat)=>i<=E.length/\(b,l)=(E.take i).foldl (zEd popN fs) (-1,0)) 0 (-1) 0 ?_ ?_ ?_
 ·exact⟨by omega,rfl⟩
 ·refine vk 0
 rintro i b l ⟨h1,h2⟩;rcases Av i E.length with h3|h3
 ·have hz:=zA6 E i h3;have hneE:nsD E≠[]:=zW;have hst:=ch_succ fs E i h3 (-1,0);rw[<-h2]at hst;have hv32:=hE.2 _ (zDv E i h3);generalize E.getD i 0=v at*;refine vAu<|zB<|vT ((i:Int)<↑(Aa E))<|vKB<|vA<|vr 1 (ix ↑i ↑(Aa E) (nsD E≠[]))<|vp 19 i (nsD E)<|vr 1 (0<Aa (Ag i<|nsD E))<|vsh 20 hz<|veT<|vAe<|vAe<|zB<|vAe<|zF<|zN (λ(k:Nat)=>fr 59 [(0,Ad (Af faAc fs)<|Aa fs),(4,iD 0),(5,iD b),(6,iD l),(8,iD v),(9,u32D<|uniM v<|Am k fs),(10,iD (↑(bigL v<|Am k fs):Int)),(15,(q10_ E)),(16,iD<|Aa E),(17,iD i),(21,Ad (Af faAc fs)<|Aa fs),(22,iD<|Aa fs),(23,iD k)]) (λ(k:Nat)=>[]) (λk=>fs.length-k) (λ(k:Nat)=>k<=fs.length) 0 ?_ ?_ ?_
  ·omega
  ·refine vk 0
  rintro k k1;rcases Av k fs.length with k2|k2
  ·have hmf:=zAx fs Ai k k2;have hg2:=zDg zBe fs k k2;have hle:=zFp zBe fs k k2;have hne2:=zEi zBe (by decide) fs;have hAf:=hA _ hmf;have nAf:=zCw hAf;have u1:=zTi v fs k k2;have u2:=zWu v fs k k2;have u3:uniM v (fs.take k)<4294967296:=zM3 v (fs.take k) 0 (by omega) λf hf=>(hA f (Ch hf)).2;have sA:=zQu (fs.getD k Ai).A _ rfl (by omega) hAf.2 (rwsD (fs.getD k Ai).l) (vlsD (fs.getD k Ai).l) (fs.getD k Ai).l.length (fs.getD k Ai).l.length;have hma:=zCf hAf.2;have w1:=bit_b hma v;have w2:=bit_w hma v;rw[zCv]at w1 w2;have w3:=zG7 (msk (fs.getD k Ai).A) hv32;have w4:=zWs u3 hma;have w5:=zCm (zP1 u3 hma);have w6:=max_nat (bigL v (fs.take k)) (fs.getD k Ai).A.length;generalize fs.getD k Ai=f at*;focus
    refine vAu<|zB<|vT ((k:Int)<↑(Aa fs))<|vKB<|vA<|vr 2 (ix ↑k ↑(Aa fs) (Af faAc fs≠[])/\3<=Aa (Ag (k*3)<|Af faAc fs))<|vs 26 (Aq<|Am 3<|Ag (k*3)<|Af faAc fs) (Aq<|faAc f) (hd:=by simp(disch:=omega) only[hg2])<|ve (Ac=Ac/\Ab=Ab/\3=3/\3<=3)<|vA<|vr 1 (3<=3)<|vc sA<|vr 2 ((0:Int)<=(v:Int))<|vs 30 (As<|AF Ax<|BL (↑(msk<|AC f):Int) ((2:Int)^min (Ap (v:Int)) 32)) (dig (msk (AC f)>>>v)) (hd:=by simp(disch:=omega) only[AG,w3])<|vrT 1<|vs 31 (As<|AF Ax<|AT Ax (↑(AQ (Aw 32 (↑(msk (AC f)>>>v):Int)&&&Aw 32 (1:Int))):Int)) (dig<|AQ (Aw 32 (↑(msk (AC f)>>>v):Int)&&&Aw 32 (1:Int))) (hd:=by simp(disch:=omega) only[zBx])<|vrT 1<|vs 32 (bD ((↑(AQ (Aw 32 (↑(msk (AC f)>>>v):Int)&&&Aw 32 (1:Int))):Int)==(1:Int))) (bD<|decide (v∈AC f)) (hd:=by simp(disch:=omega) only[w1])<|veT<|vcD (v∈AC f) (λhc=>?_)<|λhc=>?_;refine vA<|vr 2 (3<=3)<|vc sA<|vrT 1<|vs 36 (As<|AF Ax<|AT Ax (↑(AQ (Aw 32 (↑(uniM v<|Am k fs):Int)|||Aw 32 (↑(msk<|AC f):Int))):Int)) (dig (uniM v (Am k fs)|||msk (AC f))) (hd:=by simp(disch:=omega) only[w5,w4])<|veT<|zA rfl<|vr 5 (True/\0<3)<|vs 41 (iD (if(Aa (AC f):Int)>(↑(bigL v<|Am k fs):Int)then(Aa (AC f):Int)else(↑(bigL v<|Am k fs):Int))) (iD (↑(max (bigL v<|Am k fs)<|Aa<|AC f):Int)) (hd:=by simp(disch:=omega) only[w6])<|vrT 1<|vnil<|zD<|vN<|zA rfl<|vr 2 (i6 (↑k+1))<|vnil<|zC ?_;rotate_left;refine zM<|zD<|vN<|zA rfl<|vr 2 (i6 (↑k+1))<|vnil<|zC ?_;rotate_left
   ·rw[if_pos hc]at u1 u2;refine⟨k+1,by omega,by omega,?_⟩;rw[u1,u2];refine vk 0
   rw[if_neg hc]at u1 u2;refine⟨k+1,by omega,by omega,?_⟩;rw[u1,u2];refine vk 0
  obtain rfl:k=fs.length:=by omega
  have u3:uniM v fs<4294967296:=zM3 v fs 0 (by omega) λf hf=>(hA f hf).2;have hp:=popN_c (uniM v fs) u3;rw[BS];have hco:zGv popN fs v=if popN (uniM v fs)=bigL v fs then 0 else popN (uniM v fs):=rfl
  unfold zEd at hst;generalize popN (uniM v fs)=q at*;focus
   refine vAu<|zB<|vF ((Aa fs:Int)<↑(Aa fs))<|vZ2<|vA<|vrT 1<|vc hp<|veT<|zB<|vAe<|zAi (t:=(q:Int)==↑(bigL v fs)) (by kernel_rfl) (λhc=>?_)<|λhc=>?_;simp only[beq_iff_eq]at hc;refine zA rfl<|veT<|vA<|vrT 3<|vspD 50 (b<0) (λhc=>?_)<|λhc=>?_;refine veT<|vt<|zA rfl<|vrT 4<|vnil<|zD<|vN<|zA rfl<|vr 2 (i6 (↑i+1))<|vnil<|zC ?_;rotate_left;refine veT<|vcD ((0:Int)<(l:Int)) (λhc=>?_)<|λhc=>?_;refine zA rfl<|vrT 4<|vnil<|zD<|vN<|zA rfl<|vr 2 (i6 (↑i+1))<|vnil<|zC ?_;rotate_left;refine zM<|zD<|vN<|zA rfl<|vr 2 (i6 (↑i+1))<|vnil<|zC ?_;rotate_left;simp only[beq_eq_false_iff_ne]at hc;refine vK<|vA<|vrT 3<|vspD 50 (b<0) (λhc=>?_)<|λhc=>?_;refine veT<|vt<|zA rfl<|vrT 4<|vnil<|zD<|vN<|zA rfl<|vr 2 (i6 (↑i+1))<|vnil<|zC ?_;rotate_left;refine veT<|vcD ((q:Int)<↑l) (λhc=>?_)<|λhc=>?_;refine zA rfl<|vrT 4<|vnil<|zD<|vN<|zA rfl<|vr 2 (i6 (↑i+1))<|vnil<|zC ?_;rotate_left;refine zM<|zD<|vN<|zA rfl<|vr 2 (i6 (↑i+1))<|vnil<|zC ?_;rotate_left
  ·have e:zGv popN fs v=0:=by rw[hco,if_pos (by omega)]
   rw[e,if_pos (by simp only;omega)]at hst;refine⟨i+1,(v:Int),0,⟨by omega,hst.symm⟩,by omega,?_⟩;refine vk 0
  ·have e:zGv popN fs v=0:=by rw[hco,if_pos (by omega)]
   rw[e,if_pos (by simp only;omega)]at hst;refine⟨i+1,(v:Int),0,⟨by omega,hst.symm⟩,by omega,?_⟩;refine vk 0
  ·have e:zGv popN fs v=0:=by rw[hco,if_pos (by omega)]
   rw[e,if_neg (by simp only;omega)]at hst;refine⟨i+1,b,l,⟨by omega,hst.symm⟩,by omega,?_⟩;refine vk 0
  ·have e:zGv popN fs v=q:=by rw[hco,if_neg (by omega)]
   rw[e,if_pos (by simp only;omega)]at hst;refine⟨i+1,(v:Int),q,⟨by omega,hst.symm⟩,by omega,?_⟩;refine vk 0
  ·have e:zGv popN fs v=q:=by rw[hco,if_neg (by omega)]
   rw[e,if_pos (by simp only;omega)]at hst;refine⟨i+1,(v:Int),q,⟨by omega,hst.symm⟩,by omega,?_⟩;refine vk 0
  have e:zGv popN fs v=q:=by rw[hco,if_neg (by omega)]
  rw[e,if_neg (by simp only;omega)]at hst;refine⟨i+1,b,l,⟨by omega,hst.symm⟩,by omega,?_⟩;refine vk 0
 rw[AK (by omega)]at h2;have hcm:=(zHp popN fs hne).2;rw[<-h2]at hcm;refine vAu<|zB<|vF ((i:Int)<↑(Aa E))<|vZ2<|vAe<|zG<|vre (True) (As<|AF Bh b) (.inr rfl) ?_;rw[<-hcm]
end
section
open Go.Shelf
set_option maxRecDepth 16384
def Tryz.grow140_ren:Go.Shelf.Ren:=⟨λ|4=>140|n=>n,λ|22=>61|25=>90|3=>3|4=>4|9=>9|20=>20|0=>0|n=>n,λ|n=>n⟩
theorem Tryz.grow140:Go.Proofs.Lays8.n4 Ao Tryz.grow140_ren:={
 mixed:=by kernel_rfl
 f4:=⟨Tryz.f140.name,by decide,Tryz.func140.trans (congrArg Ar (by kernel_rfl))⟩
 t0:=Tryz.underlying0
 a0:=Tryz.isAgg0
 z0:=Tryz.sizeOf0
 v0:=Tryz.zeroValue0
 t3:=Tryz.underlying3
 a3:=Tryz.isAgg3
 z3:=Tryz.sizeOf3
 v3:=Tryz.zeroValue3
 t4:=Tryz.underlying4
 a4:=Tryz.isAgg4
 z4:=Tryz.sizeOf4
 v4:=Tryz.zeroValue4
 t9:=Tryz.underlying9
 a9:=Tryz.isAgg9
 z9:=Tryz.sizeOf9
 v9:=Tryz.zeroValue9
 t20:=Tryz.underlying20
 a20:=Tryz.isAgg20
 z20:=Tryz.sizeOf20
 v20:=Tryz.zeroValue20
 t22:=Tryz.underlying61
 a22:=Tryz.isAgg61
 z22:=Tryz.sizeOf61
 v22:=Tryz.zeroValue61}
def Tryz.grow161_ren:Go.Shelf.Ren:=⟨λ|4=>161|n=>n,λ|22=>87|25=>94|3=>3|4=>4|9=>9|20=>20|0=>0|n=>n,λ|n=>n⟩
theorem Tryz.grow161:Go.Proofs.Lays8.n4 Ao Tryz.grow161_ren:={
 mixed:=by kernel_rfl
 f4:=⟨Tryz.f161.name,by decide,Tryz.func161.trans (congrArg Ar (by kernel_rfl))⟩
 t0:=Tryz.underlying0
 a0:=Tryz.isAgg0
 z0:=Tryz.sizeOf0
 v0:=Tryz.zeroValue0
 t3:=Tryz.underlying3
 a3:=Tryz.isAgg3
 z3:=Tryz.sizeOf3
 v3:=Tryz.zeroValue3
 t4:=Tryz.underlying4
 a4:=Tryz.isAgg4
 z4:=Tryz.sizeOf4
 v4:=Tryz.zeroValue4
 t9:=Tryz.underlying9
 a9:=Tryz.isAgg9
 z9:=Tryz.sizeOf9
 v9:=Tryz.zeroValue9
 t20:=Tryz.underlying20
 a20:=Tryz.isAgg20
 z20:=Tryz.sizeOf20
 v20:=Tryz.zeroValue20
 t22:=Tryz.underlying87
 a22:=Tryz.isAgg87
 z22:=Tryz.sizeOf87
 v22:=Tryz.zeroValue87}
end
section
open Go.RowKit
set_option maxRecDepth 4096
abbrev fsB(l:List D):Bk:=⟨l,90,3,Ab,Ac, .plain⟩
theorem grow_c(n:Nat)(hn:0<n)(hb:n<=1000000):Pure Ao 140 [nl,iD (n:Nat)] [fsB []] (.osl 0 0 0 0 Ab):=by
 obtain⟨i0,hi0⟩:∃i0,Ao.info? 90=Ar i0/\i0.size=3/\i0.bytes=72/\i0.zero=Ar (.agg #[.slice Au 0 0, .slice Au 0 0, .slice Au 0 0]):=⟨(Ao.info? 90).getD Ai,by kernel_rfl,by kernel_rfl,by kernel_rfl,by kernel_rfl⟩;obtain⟨h1,h2,h3,h4⟩:=hi0;intro I w vs hr hi hg;rw[zHy [.slice Au 0 0, .int .i64 n] vs hr];have hc:=Any8.slices_Grow_grow Tryz.grow140 i0 _ h1 h4 (by omega) Au 0 0 n [] w (Bi _) (by omega) (by rw[h3];omega) (by omega) (by simp) (λ_=>rfl) (λa h=>by cases h);have hge:=grownCap_ge w (0+n) 0 (Tryz.grow140_ren.t 25);have hmx:=grownCap_le_maxLen w (0+n) 0 (Tryz.grow140_ren.t 25) (by unfold maxLen;omega);generalize grownCap w (0+n) 0 (Tryz.grow140_ren.t 25)=G at*;refine hc.mono ?_;rintro e w' ⟨rfl,rfl⟩;have key:∀{k b c:Nat},(if k=0 then Ar (w.heap.size,G)else Au)=Ar (b,c)->k=0/\b=w.heap.size/\c=G:=λ{k b c} h=>by
  split at h
  ·rename_i e;cases h;exact⟨e,rfl,rfl⟩
  cases h
 have hext:∀o,Ext w (w.drew.alloc o):=λo=>(Ext.drew w).trans (Ext.alloc _ o);refine⟨_,I,λk=>if k=0 then Ar (w.heap.size,G)else Au,rfl,hext _,λb o hb=>Ci (hi b o hb) (hext _).size,Fix.ext (hext _) λ_ _ h=>h,λ_ _ h=> .inl h,λk b c h=>?_,λk b c h=>?_,λk k' b c c' h h'=>?_,λk b c j e h he hij=>?_,λk y h=>?_,?_,by simp⟩
 ·exact BT (key h).2.1.symm
 ·obtain⟨rfl,rfl,rfl⟩:=key h;refine⟨fsB [],rfl,OwnC.r ⟨(#[]++Builtin.zeroCells (BB #[AW Au 0 0,AW Au 0 0,AW Au 0 0]).cells (0+n-0)++Builtin.zeroCells (BB #[AW Au 0 0,AW Au 0 0,AW Au 0 0]).cells (c-(0+n))).toList,?_,Bt _,?_,λ_=>?_,hmx⟩ rfl⟩
  ·rw[BU];exact heap_alloc_new w.drew _
  ·rfl
  rw[Array.length_toList,BV,BV,size_zeroCells,size_zeroCells,show(BB #[AW Au 0 0,AW Au 0 0,AW Au 0 0]).cells.size=3 from rfl];simp only[List.size_toArray,BW];show _=c*3;omega
 ·rw[(key h).1,(key h').1]
 ·have:=hi b j hij
  have:=(key h).2.1
  omega
 ·have:=(key h).1
  simp;omega
 simp only[Rel];exact .inr (.inr ⟨w.heap.size,G,G,rfl,rfl,Bt _,hmx,λ_=>by simp⟩)
theorem grow0_c:Pure Ao 140 [nl,iD ((0:Nat):Int)] [] nl:=
 zC4 (us:=[.slice Au 0 0, .int .i64 ((0:Nat):Int)]) (λw=>(Any8.slices_Grow_room Tryz.grow140 Au 0 0 0 w (by omega) (by omega) (by omega) (by omega)).mono λe w' h=>⟨h.1,h.2.symm⟩)
end
section
open Go.RowKit
attribute [local irreducible] seqW awp zAa zAb zR Weak updS zAd retL Pure Acts rP setP setQ cP nP fr
set_option maxRecDepth 4096
set_option maxHeartbeats 2000000 in
theorem concat_c(a b:List D)(n m:Nat)(ha:a.length=n*3)(hb:b.length=m*3)(hn:n<=1000)(hm:m<=1000)(n1:∀d∈a,True):Pure Ao 90 [.row [.row a n, .row b m] 2] [] (.row (a++b) (n+m)):=by
 have zadd:(n:Int)+(m:Int)=((n+m:Nat):Int):=by omega
 have ht:(a++b).take ((n+m)*3)=a++b:=AK (by rw[AZ];omega);rcases Bx (n+m)with h|h
 ·obtain rfl:n=0:=by omega
  obtain rfl:m=0:=by omega
  obtain rfl:a=[]:=BC (by omega);obtain rfl:b=[]:=BC (by omega);refine zH zDt mixed Tryz.func90 rfl<|vAu<|vAe<|zB<|vAe<|zF<|zAj<|vAe<|zB<|vt<|vKB<|vA<|ve (ix (0:Int) (↑(2:Nat):Int) ([Ad [] 0,Ad [] 0]≠[])/\0<2)<|vA<|ve (i6 ((0:Int)+(↑(0:Nat):Int)))<|vAe<|vf<|zM<|zD<|vN<|zA rfl<|vr 2 (i6 ((0:Int)+(1:Int)))<|vnil<|zC<|zAj ?_;refine vAe<|zB<|vt<|vKB<|vA<|ve (ix (1:Int) (↑(2:Nat):Int) ([Ad [] 0,Ad [] 0]≠[])/\0<1)<|vA<|ve (i6 ((0:Int)+(↑(0:Nat):Int)+(↑(0:Nat):Int)))<|vAe<|vf<|zM<|zD<|vN<|zA rfl<|vr 2 (i6 ((1:Int)+(1:Int)))<|vnil<|zC<|zAj<|vAe<|zB<|vf<|vZ2<|vA<|vrT 1<|vc grow0_c<|veT<|zB<|vAe<|zF<|zAj<|vAe<|zB<|vt<|vKB<|vA<|ve (ix (0:Int) (↑(2:Nat):Int) ([Ad [] 0,Ad [] 0]≠[])/\0<2)<|zA rfl<|vr 4 (0=0/\0<3/\0<72/\90=90/\0<=140737488355328/\3=3)<|vnil<|zD<|vN<|zA rfl<|vr 2 (i6 ((0:Int)+(1:Int)))<|vnil<|zC<|zAj<|vAe<|zB<|vt<|vKB<|vA<|ve (ix (1:Int) (↑(2:Nat):Int) ([Ad [] 0,Ad [] 0]≠[])/\0<1)<|zA rfl<|vr 4 (Ab=Ab/\0=0/\0=0/\90=90/\3=3/\0=0/\0<3/\0<72/\90=90/\0<=140737488355328/\3=3/\Ac=Ac/\(Ac=Ac\/Ac=Ab))<|vnil<|zD<|vN<|zA rfl<|vr 2 (i6 ((1:Int)+(1:Int)))<|vnil<|zC<|zAj<|vAe<|zB<|vf<|vZ2<|vAe<|zG<|vret (True)<|.inr rfl
 have hg:=grow_c (n+m) h (by omega);refine zH zDt mixed Tryz.func90 rfl<|vAu<|vAe<|zB<|vAe<|zF<|zAj<|vAe<|zB<|vt<|vKB<|vA<|ve (ix (0:Int) (↑(2:Nat):Int) ([Ad a n,Ad b m]≠[])/\0<2)<|vA<|vr 4 (i6 ((0:Int)+(n:Int)))<|vs 18 (iD ((0:Int)+(n:Int))) (iD (n:Int)) (hd:=by simp(disch:=omega) only[Int.zero_add])<|veT<|vAe<|vF ((n:Int)<0)<|zM<|zD<|vN<|zA rfl<|vr 2 (i6 ((0:Int)+(1:Int)))<|vnil<|zC<|zAj<|vAe<|zB<|vt<|vKB<|vA<|ve (ix (1:Int) (↑(2:Nat):Int) ([Ad a n,Ad b m]≠[])/\0<1)<|vA<|ve (i6 ((n:Int)+(m:Int)))<|vAe<|vF ((↑(n+m):Int)<0)<|zM<|zD<|vN<|zA rfl<|vr 2 (i6 ((1:Int)+(1:Int)))<|vnil<|zC<|zAj<|vAe<|zB<|vf<|vZ2<|vA<|vrT 1<|vn (hg)<|veT<|zB<|vAe<|zF<|zAj<|vAe<|zB<|vt<|vKB<|vA<|ve (ix (0:Int) (↑(2:Nat):Int) ([Ad a n,Ad b m]≠[])/\0<2)<|zA rfl<|vr 4 (Ab=Ab/\0=0/\0=0/\90=90/\3=3/\Aa a=n*3/\0<3/\0<72/\90=90/\(0+n)*72<=140737488355328/\3=3/\Ac=Ac/\(Ac=Ac\/Ac=Ab))<|vs 6 (Ah 0 0 (0+n) ((0+n)*3) Ab) (Ah 0 0 n (n*3) Ab) (hd:=by simp(disch:=omega) only[BX])<|vnil<|zD<|vN<|zA rfl<|vr 2 (i6 ((0:Int)+(1:Int)))<|vnil<|zC<|zAj<|vAe<|zB<|vt<|vKB<|vA<|ve (ix (1:Int) (↑(2:Nat):Int) ([Ad a n,Ad b m]≠[])/\0<1)<|zA rfl<|vr 4 (AU (Ak a 90 3 Ab Ac Aj)=Ab/\Aa a=n*3/\n*3=n*3/\AN (Ak a 90 3 Ab Ac Aj)=90/\AO (Ak a 90 3 Ab Ac Aj)=3/\Aa b=m*3/\0<3/\0<72/\90=90/\(n+m)*72<=140737488355328/\3=3/\AR (Az<|Ak a 90 3 Ab Ac Aj)=Ac/\(Ac=Ac\/AS (Az<|Ak a 90 3 Ab Ac Aj)=Ab))<|vnil<|zD<|vN<|zA rfl<|vr 2 (i6 ((1:Int)+(1:Int)))<|vnil<|zC<|zAj<|vAe<|zB<|vf<|vZ2<|vAe<|zG<|zB3 (True) (Ad (Am ((n+m)*3)<|Ag 0 (a++b)) (n+m)) (Ad (a++b) (n+m)) (.inr rfl) (by simp(disch:=omega) only[AP,ht]) rfl
theorem info_fas:(Ao.info? 90).map (λi=>(i.zero,i.size,i.bytes))=Ar (Ar (.agg #[.slice Au 0 0, .slice Au 0 0, .slice Au 0 0]),3,72):=by kernel_rfl
set_option maxHeartbeats 400000 in
theorem clone0_fas:Pure Ao 46 [.row [] 0] [⟨[],90,3,Ab,Ac, .plain⟩] (.osl 0 0 0 0 Ab):=by
 refine zHd λI w vs hr=>?_;simp only[RelT,Rel]at hr;obtain⟨v,ys,rfl,⟨a,c,rfl,_,_,hc,_⟩,rfl⟩:=hr;cases a with
 |none=>
  obtain rfl:=hc rfl;have he:=λ(w:World)=>BY (P:=Ao) w 61 90 Au 0 0 0 0 Tryz.underlying61;go_enter Tryz.func46,Tryz.ntmps46;go_wp2;go_ret;exact .inl ⟨rfl,Ext.refl _⟩
 |some x=>
  obtain⟨i0,hi,hz0,hz1,hz2⟩:=info_parts info_fas;have he:=λ(w:World)=>BY (P:=Ao) w 61 90 (Ar x) 0 c 0 0 Tryz.underlying61;have hS:RowAt (λ_=>True) w (Ar x) []:= .inl rfl;go_enter Tryz.func46,Tryz.ntmps46;go_wp2_with (at_builtin;refine zBy rfl _ _ 61 rfl w.heap.size 90 i0 (.agg #[.slice Au 0 0, .slice Au 0 0, .slice Au 0 0]) 3 72 Tryz.underlying61 hi hz0 hz1 hz2 rfl (by decide) (.slice (Ar ⟨w.heap.size,0,Au⟩) 0 0) 0 [] rfl (World.ownsRow_made _ #[] 0 (Bi _) (Bt _) rfl) x 0 c [] rfl (by simp) (by simp) (by simp) (by simp[maxLen]) (by decide) (by simp) ?_;intro v' w' hown hgrow hdr);go_ret;have hext:Ext w w':=⟨((Below.refl _ _).alloc (Bi _) _).grown hgrow (by simp) (by simp[Value.ownBlock]),hdr⟩;obtain⟨_,⟨rfl,_⟩|⟨g,cap,cur,rfl,hb,hg,_,hc1,hs,_⟩⟩:=hown
  ·exact .inl ⟨rfl,hext⟩
  exact .inr ⟨g,cur.toList,cap,rfl,hb,hext,by rw[BU];exact hg,by simpa using hs,hc1⟩
theorem cloneF_c(a:List D)(n:Nat)(ha:a.length=n*3)(hn:n<=1000):Pure Ao 46 [.row a n] [] (.row a n):=by
 by_cases h0:n=0
 ·subst h0;obtain rfl:a=[]:=BC (by omega);exact clone0_fas.frozen rfl rfl
 have h1:0<n:=by omega
 have ht:a.take (n*3)=a:=AK (by omega);refine zH zDt mixed Tryz.func46 rfl<|vAu<|zB<|vA<|ve (0<n)<|vf<|vK<|vA<|vr 4 ((True/\0<3/\3=3/\0<=16777216/\0<=9223372036854775807)/\Ab=Ab/\0=0/\0=0/\90=90/\3=3/\Aa a=n*3/\0<3/\0<72/\90=90/\(0+n)*72<=140737488355328/\3=3/\Ac=Ac/\(Ac=Ac\/Ac=Ab))<|vs 2 (Ah 0 0 (0+n) ((0+n)*3) Ab) (Ah 0 0 n (n*3) Ab) (hd:=by simp(disch:=omega) only[BX])<|veT<|zG<|zB3 (True) (Ad (Am (n*3)<|Ag 0 a) n) (Ad a n) (.inr rfl) (by simp(disch:=omega) only[AP,ht]) rfl
theorem zQ0(l:List (Fa Nat)):(l.flatMap faAc).length=l.length*3:=zG3 zBe l
theorem with_succ(v:Nat)(fs:List (Fa Nat))(k:Nat)(h:k<fs.length):zDx v (fs.take (k+1))=zDx v (fs.take k)++(if v∈(fs.getD k Ai).A then[fs.getD k Ai]else[])/\zDy v (fs.take (k+1))=zDy v (fs.take k)++(if v∈(fs.getD k Ai).A then[]else[fs.getD k Ai]):=by
 rw[zBm fs k h];unfold zDx zDy;rw[BM,BM];constructor<;>congr 1<;>by_cases hc:v∈(fs.getD k Ai).A<;>simp[Cj,hc]
theorem zF6{α:Type}(l:List α)(x:α):(l++[x]).length=l.length+1:=by simp
theorem zYc(l:List (Fa Nat))(f:Fa Nat):(l++[f]).flatMap faAc=l.flatMap faAc++faAc f:=by simp
section
variable {Dm : List Va}
set_option maxHeartbeats 8000000 in
theorem zYf(hD:Okv Dm)(fs:List (Fa Nat))(v:Nat)(hf:∀f∈fs,FOk rcmp Dm f)(hl:fs.length<=500)(hr:pz rz fs<=900000)(hz:pz vz fs<=4000000000000000000)(hv:∃f∈fs,v∈f.A)(hv32:v<32):
  Pure Ao 48 [cntD, .row (fs.flatMap faAc) fs.length,iD (v:Nat)] [] (.row ((elim rcmp Sn v fs).flatMap faAc) (elim rcmp Sn v fs).length):=by
 have hg:∀f∈fs,Gof Dm f:=λf h=>⟨hf f h,AB (zLz zFe h) hr,AB (zLz zM0 h) hz⟩;refine zH zDt mixed Tryz.func48 rfl<|vAu<|vAe<|zB<|vAe<|zF<|zA2 (λ(k:Nat)(a:List (Fa Nat))(b:List (Fa Nat))=>fr 65 [(0,cntD),(2,iD (v:Int)),(6,nl),(7,Ah 0 0 (Aa a) (Aa a*3) Ab),(8,Ah 1 0 (Aa b) (Aa b*3) Ab),(14,Ad (Af faAc fs)<|Aa fs),(15,iD (Aa fs:Int)),(16,iD (k:Int))]) (λ(k:Nat)(a:List (Fa Nat))(b:List (Fa Nat))=>[fsB<|a.flatMap faAc,fsB<|b.flatMap faAc]) (λk a b=>fs.length-k) (λ(k:Nat)(a:List (Fa Nat))(b:List (Fa Nat))=>k<=fs.length/\a=zDx v (fs.take k)/\b=zDy v (fs.take k)) 0 [] [] ?_ ?_ ?_
 ·exact⟨by omega,rfl,rfl⟩
 ·refine vk 0
 rintro k a b ⟨h1,ha,hb⟩;rcases Av k fs.length with h2|h2
 ·have hmf:=zAx fs Ai k h2;have hg2:=zDg zBe fs k h2;have hle:=zFp zBe fs k h2;have hne2:=zEi zBe (by decide) fs;have hAf:=(hf _ hmf).asc;have nAf:=zCw hAf;have sA:=zQu (fs.getD k Ai).A _ rfl (by omega) hAf.2 (rwsD (fs.getD k Ai).l) (vlsD (fs.getD k Ai).l) (fs.getD k Ai).l.length (fs.getD k Ai).l.length;have hma:=zCf hAf.2;have w1:=bit_b hma v;have w2:=bit_w hma v;rw[zCv]at w1 w2;have w3:=zG7 (msk (fs.getD k Ai).A) hv32;obtain⟨u1,u2⟩:=with_succ v fs k h2;rw[<-ha]at u1;rw[<-hb]at u2;have la:a.length<=500:=by rw[ha];exact AB (Bp _ _) (by simp;omega)
  have lb:b.length<=500:=by rw[hb];exact AB (Bp _ _) (by simp;omega)
  have ca:=zQ0 a;have cb:=zQ0 b;generalize fs.getD k Ai=f at*;focus
   refine vAu<|zB<|vT ((k:Int)<↑(Aa fs))<|vKB<|vA<|vr 2 (ix ↑k ↑(Aa fs) (Af faAc fs≠[])/\3<=Aa (Ag (k*3)<|Af faAc fs))<|vs 19 (Aq<|Am 3<|Ag (k*3)<|Af faAc fs) (Aq<|faAc f) (hd:=by simp(disch:=omega) only[hg2])<|ve (Ac=Ac/\Ab=Ab/\3=3/\3<=3)<|vA<|vr 1 (3<=3)<|vc sA<|vr 2 ((0:Int)<=(v:Int))<|vs 23 (As<|AF Ax<|BL (↑(msk<|AC f):Int) ((2:Int)^min (Ap (v:Int)) 32)) (dig (msk (AC f)>>>v)) (hd:=by simp(disch:=omega) only[AG,w3])<|vrT 1<|vs 24 (As<|AF Ax<|AT Ax (↑(AQ (Aw 32 (↑(msk (AC f)>>>v):Int)&&&Aw 32 (1:Int))):Int)) (dig<|AQ (Aw 32 (↑(msk (AC f)>>>v):Int)&&&Aw 32 (1:Int))) (hd:=by simp(disch:=omega) only[zBx])<|vrT 1<|vs 25 (bD ((↑(AQ (Aw 32 (↑(msk (AC f)>>>v):Int)&&&Aw 32 (1:Int))):Int)==(1:Int))) (bD<|decide (v∈AC f)) (hd:=by simp(disch:=omega) only[w1])<|veT<|vcD (v∈AC f) (λhc=>?_)<|λhc=>?_;refine zA rfl<|vr 5 (3<=3/\((3=3/\3<=3/\True)/\0<3/\3=3/\3<=16777216/\1<=9223372036854775807)/\AU (fsB<|Af faAc a)=Ab/\Aa (AJ<|fsB<|Af faAc a)=Aa a*3/\Aa a*3=Aa a*3/\AN (fsB<|Af faAc a)=90/\AO (fsB<|Af faAc a)=3/\3=3/\0<3/\0<72/\90=90/\(Aa a+1)*72<=140737488355328/\3=3/\AR (Az<|fsB<|Af faAc a)=Ac/\(Ac=Ac\/AS (Az<|fsB<|Af faAc a)=Ab))<|vnil<|zD<|vN<|zA rfl<|vr 2 (i6 (↑k+1))<|vnil<|zC ?_;rotate_left;refine zA rfl<|vr 5 (3<=3/\((3=3/\3<=3/\True)/\0<3/\3=3/\3<=16777216/\1<=9223372036854775807)/\AU (fsB<|Af faAc b)=Ab/\Aa (AJ<|fsB<|Af faAc b)=Aa b*3/\Aa b*3=Aa b*3/\AN (fsB<|Af faAc b)=90/\AO (fsB<|Af faAc b)=3/\3=3/\0<3/\0<72/\90=90/\(Aa b+1)*72<=140737488355328/\3=3/\AR (Az<|fsB<|Af faAc b)=Ac/\(Ac=Ac\/AS (Az<|fsB<|Af faAc b)=Ab))<|vnil<|zD<|vN<|zA rfl<|vr 2 (i6 (↑k+1))<|vnil<|zC ?_;rotate_left
  ·rw[if_pos hc]at u1 u2;rw[Bu]at u2;refine⟨k+1,a++[f],b,⟨by omega,u1.symm,u2.symm⟩,by omega,?_⟩;rw[zYc,zF6];refine vk 2
  rw[if_neg hc]at u1 u2;rw[Bu]at u1;refine⟨k+1,a,b++[f],⟨by omega,u1.symm,u2.symm⟩,by omega,?_⟩;rw[zYc,zF6];refine vk 2
 rw[AK (by omega)]at ha hb;have hperm:=zEm v fs;rw[<-ha,<-hb]at hperm;have hpr:=zNi rz hperm;have hpv:=zNi vz hperm;have hmem:=λf=>hperm.mem_iff (a:=f);have hvin:∀f∈a,v∈f.A:=λf h=>by
  rw[ha,zDx,A4]at h;simpa using h.2
 have hlen:=hperm.length_eq;rw[AZ]at hlen;cases a with
 |nil=>
  exfalso;obtain⟨f,h5,h6⟩:=hv;have:f∈zDx v fs:=A4.2 ⟨h5,by simpa using h6⟩;rw[<-ha]at this;simp at this
 | cons p ws=>
  have hel:elim rcmp Sn v fs=b++[fsum rcmp Sn v (zCd rcmp Sn p ws b)]:=by
   unfold elim;rw[<-ha,<-hb]
  rw[hel];clear hel ha hb hv;have h0:((p::ws).flatMap faAc).take 3=faAc p:=rfl;have hfa:=zE6 zBe (p::ws) (ws.length+1) rfl;have hfb:=zE6 zBe b _ rfl;refine vAu<|zB<|vF ((k:Int)<↑(Aa fs))<|vZ2<|vA<|vr 5 (((0:Int)<=(0:Int)/\(0:Int)<(↑(Aa ws+1):Int))/\3<=Aa (Ag 0<|AJ<|fsB<|Af faAc (p::ws))/\Ac=Ac/\Ab=Ab/\3=3/\3<=3)<|vnil<|zC<|vnn (fr 65 [(0,cntD),(2,iD v),(6,nl),(7,Ah 0 0 (Aa (p::ws)) (Aa (p::ws)*3) Ab),(8,Ah 1 0 (Aa b) (Aa b*3) Ab),(11,Al 2 0),(14,Ad (Af faAc fs)<|Aa fs),(15,iD<|Aa fs),(16,iD k),(17,bD<|decide ((k:Int)<↑(Aa fs))),(35,Ah 0 0 (Aa ws+1) ((Aa ws+1)*3) Ab),(36,Al 0 0),(37,Aq [Ad (nsD<|AC p)<|Aa<|AC p,Ad (rwsD<|A0 p)<|Aa<|A0 p,Ad (vlsD<|A0 p)<|Aa<|A0 p])]) [fsB<|Af faAc (p::ws),fsB<|Af faAc b,Ak [Ad (nsD<|AC p)<|Aa<|AC p,Ad (rwsD<|A0 p)<|Aa<|A0 p,Ad (vlsD<|A0 p)<|Aa<|A0 p] 90 0 Ac Ac Aj] ?_;clear h1 h2 hperm;refine zBf (((BD (s:=7) (k:=0) (off:=0) (n:=ws.length+1) (m:=(ws.length+1)*3) (wh:=Ab) (cs:=(p::ws).flatMap faAc) (by kernel_rfl) (by exact(show Ar (Ad ((((p::ws).flatMap faAc).drop 0).take ((ws.length+1)*3)) (ws.length+1),[0])=_ by rw[AP,hfa]))).trans (BD (s:=8) (k:=1) (off:=0) (n:=b.length) (m:=b.length*3) (wh:=Ab) (cs:=b.flatMap faAc) (by kernel_rfl) (by exact(show Ar (Ad (((b.flatMap faAc).drop 0).take (b.length*3)) b.length,[1])=_ by rw[AP,hfb])))).trans<|Weak.leS (s:=7) (d':= .row ((p::ws).flatMap faAc) (ws.length+1)) (by kernel_rfl)<|LeD.osr_row 0 0 (ws.length+1) ((ws.length+1)*3) Ab<|(p::ws).flatMap faAc) ?_;have hs1:((p::ws).flatMap faAc).drop 3=ws.flatMap faAc:=rfl;have hs2:(ws.flatMap faAc).take (ws.length*3)=ws.flatMap faAc:=zE6 zBe ws _ rfl;have hwl:ws.length<=500:=by simp only[A5]at hlen;omega
  refine zB<|vAs<|vr 2 ((0:Int)<=(1:Int)/\True/\True/\0<3/\1<=Aa ws+1/\Aa ws+1<=Aa ws+1/\Aa ws+1=Aa ws+1)<|vs 39 (Ad (Am ((Aa ws+1-1)*3)<|Ag 3<|Af faAc (p::ws)) (Aa ws+1-1)) (Ad (Af faAc ws)<|Aa ws) (hd:=by simp(disch:=omega) only[BZ,hs2,hs1])<|veT<|zF ?_;have hp1:=hf p ((hmem p).1 (by simp));have hws:∀f∈ws,f∈fs:=λf h=>(hmem f).1 (List.mem_append_left _ (Bj _ h));have hbs:∀f∈b,f∈fs:=λf h=>(hmem f).1 (List.mem_append_right _ h);have b1:rz p*pz rz ws<=900000:=by
   rw[zNj,zCi]at hpr;exact AB (AV _ (zFh zFe b)) (by omega)
  have b2:vz p*pz vz ws<=4000000000000000000:=by
   rw[zNj,zCi]at hpv;exact AB (AV _ (zFh zM0 b)) (by omega)
  refine zA2 (λ(t:Nat)(A:List Nat)(l:List (Rw×Nat))=>fr 65 [(0,cntD),(2,iD v),(6,nl),(7,Ad (Af faAc (p::ws)) (Aa ws+1)),(8,D.osr 1 0 (Aa b) (Aa b*3) Ab<|Af faAc b),(11,Al 2 0),(39,Ad (Af faAc ws)<|Aa ws),(40,iD<|Aa ws),(41,iD t)]) (λ(t:Nat)(A:List Nat)(l:List (Rw×Nat))=>[⟨(p::ws).flatMap faAc,90,3,Ab,Ab,.plain⟩,⟨b.flatMap faAc,90,3,Ab,Ab,.plain⟩,fB1 (.row (nsD A) A.length) (.row (rwsD l) l.length)<|.row (vlsD l) l.length]) (λt A l=>ws.length-t) (λ(t:Nat)(A:List Nat)(l:List (Rw×Nat))=>t<=ws.length/\zCd rcmp Sn ⟨A,l⟩ (ws.drop t) b=zCd rcmp Sn p ws b/\FOk rcmp Dm ⟨A,l⟩/\rz (⟨A,l⟩:Fa Nat)*pz rz (ws.drop t)<=900000/\vz (⟨A,l⟩:Fa Nat)*pz vz (ws.drop t)<=4000000000000000000/\v∈A) 0 p.A p.l ?_ ?_ ?_
  ·exact⟨by omega,rfl,hp1,b1,b2,hvin p (by simp)⟩
  ·refine vk 3
  rintro t A l ⟨t1,t2,t3,t4,t5,t6⟩;rcases Av t ws.length with t7|t7
  ·have hmf:=zAx ws Ai t t7;have hg2:=zDg zBe ws t t7;have hle:=zFp zBe ws t t7;have hne2:=zEi zBe (by decide) ws;have hdr:ws.drop t=ws.getD t Ai::ws.drop (t+1):=by
    rw[B3 t7,AE,AM t7];rfl
   rw[hdr]at t2 t4 t5;rw[zCi,<-B5]at t4 t5;have q1:rz (⟨A,l⟩:Fa Nat)*rz (ws.getD t Ai)<=900000:=AB (AV _ (zFh zFe _)) t4;have q2:vz (⟨A,l⟩:Fa Nat)*vz (ws.getD t Ai)<=4000000000000000000:=AB (AV _ (zFh zM0 _)) t5;have gA:Gof Dm ⟨A,l⟩:=⟨t3,AB (AV _ (zFe _)) q1,AB (AV _ (zM0 _)) q2⟩;have hmul:=zNt hD ⟨A,l⟩ (ws.getD t Ai) (ws.drop (t+1)++b) gA (hg _ (hws _ hmf)) (λo ho=>by
    rcases List.mem_append.1 ho with h|h
    ·exact hg _ (hws _ (B6 h))
    exact hg _ (hbs _ h)) (by rw[AZ,A6];simp only[A5]at hlen;omega) q1
   have r1:=zJn (c:=rcmp) Sn ⟨A,l⟩ (ws.getD t Ai) (ws.drop (t+1)++b);have r2:=zSt (c:=rcmp) ⟨A,l⟩ (ws.getD t Ai) (ws.drop (t+1)++b);have r3:=zHm (S:=Sn) rcw t3 (hf _ (hws _ hmf)) (ws.drop (t+1)++b);have r4:=AB (Bm (pz rz (ws.drop (t+1))) r1) t4;have r5:=AB (Bm (pz vz (ws.drop (t+1))) r2) t5;have r6:v∈(fmul rcmp Sn ⟨A,l⟩ (ws.getD t Ai) (ws.drop (t+1)++b)).A:=zEt.2 ⟨hv32, .inl t6⟩;rw[zCd]at t2;have hcc:=concat_c ((ws.drop (t+1)).flatMap faAc) (b.flatMap faAc) (ws.drop (t+1)).length b.length (zQ0 _) (zQ0 _) (by rw[A6];simp only[A5]at hlen;omega) (by simp only[A5]at hlen;omega) (λ_ _=>trivial);rw[<-Ck,<-AZ]at hcc;have hsl:((p::ws).flatMap faAc).drop ((t+2)*3)=(ws.drop (t+1)).flatMap faAc:=by
    rw[zN7 zBe];rfl
   have hsn:ws.length+1-(t+2)=(ws.drop (t+1)).length:=by rw[A6];omega
   have hst:=zE6 zBe (ws.drop (t+1)) _ rfl;generalize ws.getD t Ai=f at*;generalize fmul rcmp Sn ⟨A,l⟩ f (ws.drop (t+1)++b)=q at*;obtain⟨A',l'⟩:=q;have cast2:(t:Int)+2=((t+2:Nat):Int):=by omega
   refine vAu<|zB<|vT ((t:Int)<↑(Aa ws))<|vKB<|vA<|vr 3 (ix ↑t ↑(Aa ws) (Af faAc ws≠[])/\3<=Aa (Ag (t*3)<|Af faAc ws))<|vs 45 (Aq<|Am 3<|Ag (t*3)<|Af faAc ws) (Aq<|faAc f) (hd:=by simp(disch:=omega) only[hg2])<|ve (Ac=Ac/\Ab=Ab/\3=3/\3<=3)<|vd [0,3,4,5,6,7,1,2,8,9,10,11]<|vr 5 (i6 (↑t+2)/\(0:Int)<=(↑(t+2):Int)/\True/\True/\0<3/\Ap (↑(t+2):Int)<=Aa ws+1/\Aa ws+1<=Aa ws+1/\Aa ws+1=Aa ws+1)<|vs 52 (Ad (Am ((Aa ws+1-Ap (↑(t+2):Int))*3)<|Ag (Ap (↑(t+2):Int)*3)<|Af faAc (p::ws)) (Aa ws+1-Ap (↑(t+2):Int))) (Ad (Af faAc<|Ag (t+1) ws)<|Aa<|Ag (t+1) ws) (hd:=by simp(disch:=omega) only[AG,hsn,hsl,hst])<|vr 4 (3<=3/\3<=3/\(1=1/\1<=2/\1=1/\2<=2/\True)/\0<1/\1=1/\2<=16777216/\2<=9223372036854775807)<|vc hcc<|vc hmul<|vr 1 (A1 (fB1 (Ad (nsD A)<|Aa A) (Ad (rwsD l)<|Aa l)<|Ad (vlsD l)<|Aa l)=Ac/\Ab=Ab/\3=3/\3<=3)<|vnil<|zD<|vN<|zA rfl<|vr 2 (i6 (↑t+1))<|vnil<|zC<|⟨t+1,A',l',⟨by omega,t2,r3,r4,r5,r6⟩,by omega,?_⟩;refine vk 3
  rw[B7 t7]at t2 t4 t5;simp only[pz,List.foldr_nil,A2,zCd]at t2 t4 t5;have hsum:=sumOutF_c hD ⟨A,l⟩ ⟨t3,t4,t5⟩ v t6;rw[<-t2,zYc,zF6];have cb:=zQ0 b;generalize fsum rcmp Sn v ⟨A,l⟩=q at*;obtain⟨A',l'⟩:=q;have ht:(b.flatMap faAc++faAc ⟨A',l'⟩).take ((b.length+1)*3)=b.flatMap faAc++faAc ⟨A',l'⟩:=AK (by rw[AZ,cb];show _+3<=_;omega);refine vAu<|zB<|vF ((t:Int)<↑(Aa ws))<|vZ2<|vA<|vr 4 (3<=3)<|vc hsum<|ve (((3=3/\3<=3/\True)/\0<3/\3=3/\3<=16777216/\1<=9223372036854775807)/\Ab=Ab/\Aa (Af faAc b)=Aa b*3/\Aa b*3=Aa b*3/\90=90/\3=3/\3=3/\0<3/\0<72/\90=90/\(Aa b+1)*72<=140737488355328/\3=3/\AR Aj=Ac/\(Ac=Ac\/AS Aj=Ab))<|zG<|zB3 (True) (Ad (Am ((Aa b+1)*3)<|Ag 0 (Af faAc b++[Ad (nsD A')<|Aa A',Ad (rwsD l')<|Aa l',Ad (vlsD l')<|Aa l'])) (Aa b+1)) (Ad (Af faAc b++faAc (Bq A' l')) (Aa b+1)) (.inr rfl) (by simp(disch:=omega) only[AP,ht]) rfl
end
end
section
open Go.RowKit
theorem an_bit{a b:Nat}(ha:a<4294967296)(hb:b<4294967296)(i:Nat):((Aw 32 (a:Int)&&&~~~Aw 32 (b:Int)).toNat).testBit i=(a.testBit i&&!b.testBit i):=by
 have e:∀{c:Nat},c<4294967296->(Aw 32 (c:Int)).getLsbD i=c.testBit i:=λ{c} hc=>by
  rw[<-BitVec.testBit_toNat,bv_nat hc]
 rw[BitVec.testBit_toNat,BitVec.getLsbD_and,BitVec.getLsbD_not,e ha,e hb];by_cases h:i<32
 ·simp[h]
 have:=Nat.testBit_lt_two_pow (Ci (show a<2^32 from ha) (Br (by omega) (Nat.le_of_not_lt h)))
 rw[this];simp
theorem an_eq{a b d:Nat}(ha:a<4294967296)(hb:b<4294967296)(h:∀i,d.testBit i=(a.testBit i&&!b.testBit i)):(Aw 32 (a:Int)&&&~~~Aw 32 (b:Int)).toNat=d:=
 Nat.eq_of_testBit_eq λi=>by rw[an_bit ha hb,h]
theorem an_keep{n keep:Nat}(hn:n<=32)(hk:keep<4294967296):(Aw 32 ((2^n-1:Nat):Int)&&&~~~Aw 32 (keep:Int)).toNat=msk ((AA n).filter λv=>!keep.testBit v):=by
 have h2:2^n<=4294967296:=Br (n:=2) (by omega) hn;refine an_eq (by omega) hk λi=>?_;rw[zCv,Nat.testBit_two_pow_sub_one,BE];simp
theorem an_less{E:List Nat}(hE:Asc E){v:Nat}(hv:v<32):(Aw 32 ((msk E:Nat):Int)&&&~~~Aw 32 ((2^v:Nat):Int)).toNat=msk (less E v):=by
 refine an_eq (zCf hE.2) (zR9 hv) λi=>?_;rw[zCv,zCv,Nat.testBit_two_pow,BE];simp only[Bn,BN,decide_eq_true_eq,decide_eq_false_iff_not,zC1];exact⟨λh=>⟨h.1,λe=>h.2 e.symm⟩,λh=>⟨h.1,λe=>h.2 e.symm⟩⟩
theorem msk_ne{E:List Nat}(h:E≠[]):msk E≠0:=λe=>by
 cases E with
 |nil=>exact h rfl
 |cons v E=>
  have:=zCv (v::E) v
  rw[e,Nat.zero_testBit]at this;simp at this
theorem elim_len{α:Type}{c:Rw->Rw->Int}{S:Sr α}(v:Nat)(fs:List (Fa α)):(elim c S v fs).length<=fs.length:=by
 have hp:=(zEm v fs).length_eq;unfold elim;split
 ·exact Bi _
 rename_i p ws e;rw[e,AZ,A5]at hp;rw[AZ,A5,BW];omega
end
section
open Go.RowKit
attribute [local irreducible] seqW awp zAa zAb zR Weak updS zAd retL Pure Acts rP setP setQ cP nP fr
set_option maxRecDepth 4096
section
variable {Dm : List Va}
set_option maxHeartbeats 8000000 in
theorem zQo(hD:Okv Dm)(hDn:Dm.Nodup)(n keep:Nat)(fs:List (Fa Nat))(hn:n<=8)(hk:keep<4294967296)(hf:∀f∈fs,FOk rcmp Dm f)(hl:fs.length<=500)(hr:2*pz rz fs<=900000)(hz:2*pz vz fs<=4000000000000000000)
  (hcv:∀v,v<n->∃f∈fs,v∈f.A)(hck:Pure Ao 45 [iD (n:Nat),u32D keep, .row (fs.flatMap faAc) fs.length] [] (iD 0)):
  Pure Ao 26 [cntD,iD (n:Nat),u32D keep, .row (fs.flatMap faAc) fs.length] [] (.tup [faA (zGp popN rcmp Sn fs ((AA n).filter λv=>!keep.testBit v)),iD 0]):=by
 have hcl:=cloneF_c (fs.flatMap faAc) fs.length (zQ0 fs) (by omega);have w2:=zG8 (v:=n) (by omega);have h2n:2^n<=256:=Br (n:=2) (by omega) hn;have h1n:=Cl (n:=n);have w3:((2^n:Nat):Int)-1=((2^n-1:Nat):Int):=by omega
 have w4:=zCm (n:=2^n-1) (by omega);have w5:=an_keep (n:=n) (by omega) hk;have hEa:Asc ((AA n).filter λv=>!keep.testBit v):=⟨(Cm (n:=n)).filter _,λv hv=>by have:=(A4.1 hv).1;simp at this;omega⟩;have hEc:∀v∈(AA n).filter (λv=>!keep.testBit v),∃f∈fs,v∈f.A:=λv hv=>hcv v (by have:=(A4.1 hv).1;simpa using this);generalize (AA n).filter (λv=>!keep.testBit v)=E at*;have w6:=zCm (zCf hEa.2);refine zH (T:=Tc) (zPy _ _ _) mixed Tryz.func26 rfl<|vAu<|zB<|vA<|vrT 3<|vc (hck)<|veT<|vAe<|vf<|vK<|vA<|vrT 1<|vc (hcl)<|veT<|zB<|vA<|vr 2 ((0:Int)<=(n:Int))<|vs 28 (As<|AF Ax<|AT Ax ((1:Int)*(2:Int)^min (Ap (n:Int)) 32)) (dig ((2:Nat)^n)) (hd:=by simp(disch:=omega) only[AG,w2])<|vr 1 (u3 ((↑((2:Nat)^n):Int)-(1:Int)))<|vs 29 (As<|AF Ax ((↑((2:Nat)^n):Int)-(1:Int))) (dig ((2:Nat)^n-1)) (hd:=by simp(disch:=omega) only[w3])<|vrT 2<|vs 31 (As<|AF Ax<|AT Ax (↑(AQ (Aw 32 (↑((2:Nat)^n-1):Int)&&&~~~Aw 32 (keep:Int))):Int)) (dig<|msk E) (hd:=by simp(disch:=omega) only[w6,w5])<|veT<|zF<|zA2 (λ(i:Nat)(L:List (Fa Nat))(F:List Nat)=>fr 68 [(0,cntD),(8,Al 0 0),(9,iD 0),(11,Ad (Af faAc L)<|Aa L),(12,u32D<|msk F)]) (λ(i:Nat)(L:List (Fa Nat))(F:List Nat)=>[fB1 nl nl nl]) (λi L F=>i) (λ(i:Nat)(L:List (Fa Nat))(F:List Nat)=>i=F.length/\Asc F/\(∀v∈F,∃f∈L,v∈f.A)/\(∀f∈L,FOk rcmp Dm f)/\L.length<=500/\2*pz rz L<=900000/\2*pz vz L<=4000000000000000000/\zD8 popN rcmp Sn F.length L F=zD8 popN rcmp Sn E.length fs E) E.length fs E ?_ ?_ ?_
 ·exact⟨rfl,hEa,hEc,hf,hl,hr,hz,rfl⟩
 ·refine vk 1
 rintro i L F ⟨rfl,f1,f2,f3,f4,f5,f6,f7⟩;by_cases hF:F=[]
 ·subst hF;have hL:zD8 popN rcmp Sn E.length fs E=L:=f7.symm;have hres:zGp popN rcmp Sn fs E=zCd rcmp Sn (zCb Sn) L []:=by unfold zGp;rw[hL]
  rw[hres];have m0:msk []=0:=rfl;rw[m0];obtain⟨o,ho⟩:∃o:Nat,o=1:=⟨1,rfl⟩;refine zB<|vAu<|vf<|vZ2<|vA<|vr 3 ((True/\0<3/\3=3/\0<=16777216/\0<=9223372036854775807)/\(1=1/\1<=1/\True)/\0<1/\1=1/\1<=16777216/\1<=9223372036854775807)<|vc (cone_c o ho)<|vr 4 (((1=1/\1<=1/\True)/\0<1/\1=1/\1<=16777216/\1<=9223372036854775807)/\((1=1/\2<=3/\1=1/\3<=3/\True)/\Ab=Ab)/\Ac=Ac/\Ab=Ab/\3=3/\3<=3)<|vnil<|zC<|vnn (fr 68 [(0,cntD),(8,Al 0 0),(9,iD 0),(11,Ad (Af faAc L)<|Aa L),(12,u32D 0),(14,Al 4 0),(33,bD Ac),(45,Ah 1 0 0 0 Ab),(46,Ah 2 0 1 1 Ab),(47,A7 29<|Aq []),(48,natD o),(49,Ah 3 0 1 1 Ab),(50,Aq [nl,Ah 2 0 1 1 Ab,Ah 3 0 1 1 Ab])]) [fB1 nl nl nl,Ak [] 107 3 Ab Ab Aj,Ak [Ad [] 0] 110 1 Ab Ac Aj,Ak [natD o] 50 1 Ab Ac Aj,Ak [nl,Ah 2 0 1 1 Ab,Ah 3 0 1 1 Ab] 90 0 Ac Ac Aj] ?_;clear hck hcl hcv hEa hEc w5 w6 f1 f2 f7 hL hres;refine zBf ((B8 (j:=4) (i:=1) (d:= .osl 2 0 1 1 Ab) (x:= .row [.row [] 0] 1) (ks:=[2]) rfl rfl rfl rfl (by exact rfl) (by decide)).trans<|(B8 (j:=4) (i:=2) (d:= .osl 3 0 1 1 Ab) (x:= .row [natD o] 1) (ks:=[3]) rfl rfl rfl rfl (by exact rfl) (by decide)).trans<|Weak.leC (j:=4) (i:=0) (d':= .row [] 0) rfl rfl rfl LeD.nil_row) ?_;refine zB<|vAu<|zF ?_;have hu:(zCb Sn:Fa Nat)=⟨[],[([],o)]⟩:=by rw[ho];rfl
  have hU:FOk rcmp Dm (⟨[],[([],o)]⟩:Fa Nat):=hu▸zGd;have u1:rz (⟨[],[([],o)]⟩:Fa Nat)=2:=rfl;have u2:vz (⟨[],[([],o)]⟩:Fa Nat)=2:=by rw[ho];rfl
  rw[hu];refine zA2 (λ(t:Nat)(A:List Nat)(l:List (Rw×Nat))=>fr 68 [(0,cntD),(8,Al 0 0),(9,iD 0),(11,Ad (Af faAc L)<|Aa L),(14,Al 4 0),(51,Ad (Af faAc L)<|Aa L),(52,iD<|Aa L),(53,iD t)]) (λ(t:Nat)(A:List Nat)(l:List (Rw×Nat))=>[fB1 nl nl nl,⟨[],107,3,Ab,Ab,.plain⟩,⟨[.row [] 0],110,1,Ab,Ab,.plain⟩,⟨[natD o],50,1,Ab,Ab,.plain⟩,fB1 (.row (nsD A) A.length) (.row (rwsD l) l.length)<|.row (vlsD l) l.length]) (λt A l=>L.length-t) (λ(t:Nat)(A:List Nat)(l:List (Rw×Nat))=>t<=L.length/\zCd rcmp Sn ⟨A,l⟩ (L.drop t) []=zCd rcmp Sn ⟨[],[([],o)]⟩ L []/\FOk rcmp Dm ⟨A,l⟩/\rz (⟨A,l⟩:Fa Nat)*pz rz (L.drop t)<=900000/\vz (⟨A,l⟩:Fa Nat)*pz vz (L.drop t)<=4000000000000000000) 0 [] [([],o)] ?_ ?_ ?_
  ·exact⟨by omega,rfl,hU,by rw[u1];exact f5,by rw[u2];exact f6⟩
  ·refine vk 5
  rintro t A l ⟨t1,t2,t3,t4,t5⟩;rcases Av t L.length with t7|t7
  ·have hmf:=zAx L Ai t t7;have hg2:=zDg zBe L t t7;have hle:=zFp zBe L t t7;have hne2:=zEi zBe (by decide) L;have hdr:L.drop t=L.getD t Ai::L.drop (t+1):=by
    rw[B3 t7,AE,AM t7];rfl
   rw[hdr]at t2 t4 t5;rw[zCi,<-B5]at t4 t5;have q1:rz (⟨A,l⟩:Fa Nat)*rz (L.getD t Ai)<=900000:=AB (AV _ (zFh zFe _)) t4;have q2:vz (⟨A,l⟩:Fa Nat)*vz (L.getD t Ai)<=4000000000000000000:=AB (AV _ (zFh zM0 _)) t5;have gA:Gof Dm ⟨A,l⟩:=⟨t3,AB (AV _ (zFe _)) q1,AB (AV _ (zM0 _)) q2⟩;have hg:∀f∈L,Gof Dm f:=λf h=>⟨f3 f h,AB (zLz zFe h) (by omega),AB (zLz zM0 h) (by omega)⟩;have hmul:=zNt hD ⟨A,l⟩ (L.getD t Ai) (L.drop (t+1)) gA (hg _ hmf) (λo ho=>hg _ (B6 ho)) (by rw[A6];omega) q1;have r1:=zJn (c:=rcmp) Sn ⟨A,l⟩ (L.getD t Ai) (L.drop (t+1));have r2:=zSt (c:=rcmp) ⟨A,l⟩ (L.getD t Ai) (L.drop (t+1));have r3:=zHm (S:=Sn) rcw t3 (f3 _ hmf) (L.drop (t+1));have r4:=AB (Bm (pz rz (L.drop (t+1))) r1) t4;have r5:=AB (Bm (pz vz (L.drop (t+1))) r2) t5;rw[zCd,Bu]at t2;have hsl:(L.flatMap faAc).drop ((t+1)*3)=(L.drop (t+1)).flatMap faAc:=zN7 zBe L (t+1);have hsn:L.length-(t+1)=(L.drop (t+1)).length:=by rw[A6]
   have hst:=zE6 zBe (L.drop (t+1)) _ rfl;generalize L.getD t Ai=f at*;generalize fmul rcmp Sn ⟨A,l⟩ f (L.drop (t+1))=q at*;obtain⟨A',l'⟩:=q;refine vAu<|zB<|vT ((t:Int)<↑(Aa L))<|vKB<|vA<|vr 3 (ix ↑t ↑(Aa L) (Af faAc L≠[])/\3<=Aa (Ag (t*3)<|Af faAc L))<|vs 57 (Aq<|Am 3<|Ag (t*3)<|Af faAc L) (Aq<|faAc f) (hd:=by simp(disch:=omega) only[hg2])<|ve (Ac=Ac/\Ab=Ab/\3=3/\3<=3)<|vd [0,3,4,5,6,1,2,7,8]<|vr 5 (i6 (↑t+1)/\(0:Int)<=(↑(t+1):Int)/\True/\True/\0<3/\Ap (↑(t+1):Int)<=Aa L/\Aa L<=Aa L/\Aa L=Aa L)<|vs 64 (Ad (Am ((Aa L-Ap (↑(t+1):Int))*3)<|Ag (Ap (↑(t+1):Int)*3)<|Af faAc L) (Aa L-Ap (↑(t+1):Int))) (Ad (Af faAc<|Ag (t+1) L)<|Aa<|Ag (t+1) L) (hd:=by simp(disch:=omega) only[AG,hsn,hsl,hst])<|vr 2 (3<=3/\3<=3)<|vc hmul<|vr 1 (A1 (fB1 (Ad (nsD A)<|Aa A) (Ad (rwsD l)<|Aa l)<|Ad (vlsD l)<|Aa l)=Ac/\Ab=Ab/\3=3/\3<=3)<|vnil<|zD<|vN<|zA rfl<|vr 2 (i6 (↑t+1))<|vnil<|zC<|⟨t+1,A',l',⟨by omega,t2,r3,r4,r5⟩,by omega,?_⟩;refine vk 5
  rw[B7 t7]at t2;simp only[zCd]at t2;rw[<-t2];refine vAu<|zB<|vF ((t:Int)<↑(Aa L))<|vZ2<|vA<|ve (3<=3/\Ac=Ac/\Ab=Ab/\3=3/\3<=3)<|zG<|vret (3<=3)<|.inr rfl
 have hm:=zHp popN L hF;have hch:=cheapest_c L F f1 hF (λf h=>(f3 f h).asc) (by omega);have hv32:=f1.2 _ hm.1;have hel:=zYf hD L (zA9 popN L F) f3 f4 (by omega) (by omega) (f2 _ hm.1) hv32;have hmn:=msk_ne hF;have x1:=zG8 hv32;have x2:=an_less f1 hv32;have x3:=zCm (zCf (zKd f1 (zA9 popN L F)).2);have hz1:=elim_z (c:=rcmp) (S:=Sn) (z:=rz) (zJn Sn) (zX2 Sn) (zA9 popN L F) L;have hz2:=elim_z (c:=rcmp) (S:=Sn) (z:=vz) zSt (λv f=>BT (fsum_vz v f)) (zA9 popN L F) L;have hlen:=elim_len (c:=rcmp) (S:=Sn) (zA9 popN L F) L;have hA:=elim_A (c:=rcmp) (S:=Sn) (fs:=L) (λf h=>(f3 f h).asc.2) (zA9 popN L F);have hok:=zYg (S:=Sn) rcw f3 (zA9 popN L F);have hll:=zSk f1.nd hm.1;have hla:=zKd f1 (zA9 popN L F);have hmg:zD8 popN rcmp Sn F.length L F=zD8 popN rcmp Sn (less F (zA9 popN L F)).length (elim rcmp Sn (zA9 popN L F) L) (less F (zA9 popN L F)):=by
  rw[<-hll];rfl
 have hcm:=hm.1;generalize zA9 popN L F=v at*;generalize elim rcmp Sn v L=L' at*;refine zB<|vAu<|zFm (t:=(↑(msk F):Int)!=(0:Int)) (by kernel_rfl) (by simpa using by omega)<|vK<|zF<|vA<|vrT 2<|vc hch<|veT<|vA<|vrT 3<|vc hel<|veT<|zA rfl<|vr 3 ((0:Int)<=(v:Int))<|vs 43 (As<|AF Ax<|AT Ax ((1:Int)*(2:Int)^min (Ap (v:Int)) 32)) (dig ((2:Nat)^v)) (hd:=by simp(disch:=omega) only[AG,x1])<|vrT 1<|vs 44 (As<|AF Ax<|AT Ax (↑(AQ (Aw 32 (↑(msk F):Int)&&&~~~Aw 32 (↑((2:Nat)^v):Int))):Int)) (dig<|msk<|less F v) (hd:=by simp(disch:=omega) only[x3,x2])<|vrT 1<|vnil<|zD<|zC<|⟨(less F v).length,L',less F v,⟨rfl,hla,λw hw=>(hA w).2 ⟨f2 w (zC1.1 hw).1,(zC1.1 hw).2⟩,hok,by omega,by omega,by omega,by rw[<-hmg];exact f7⟩,by omega,?_⟩;refine vk 1
end
section
variable (n e : Int) (keep : Nat) (cs : List D) (m : Nat)
theorem total_c(f:Fa Nat)(hm:Pure Ao 26 [cntD,iD n,u32D 0, .row cs m] [] (.tup [faA f,iD 0])):Pure Ao 11 [cntD,iD n, .row cs m] [] (.tup [natD ((f.l.map (·.2)).headD 0),iD 0]):=by
 obtain⟨A,l⟩:=f;rcases l with _|⟨p,l⟩
 ·skip;obtain⟨z,hz⟩:∃z:Nat,z=0:=⟨0,rfl⟩;have hr:natD (([]:List (Rw×Nat)).map (·.2)|>.headD 0)=natD z:=by rw[hz];rfl
  simp only[hr];refine zH (T:=Tc) (zPy _ _ _) mixed Tryz.func11 rfl<|vAu<|vA<|vrT 3<|vc (hm)<|ve (0<2/\1<2/\Ac=Ac/\Ab=Ab/\3=3/\3<=3)<|zB<|vAe<|vf<|vK<|zB<|vA<|ve (True/\0<1/\True)<|vt<|vA<|vrT 1<|vc (czero_c z hz)<|veT<|zG<|zE<|vret (True)<|.inr rfl
 skip;show Pure _ _ _ _ (.tup [natD p.2,iD 0]);have hx:(vlsD (p::l)).headD .unk=natD p.2:=rfl;have hne:vlsD (p::l)≠[]:=by simp
 refine zH (T:=Tc) (zPy _ _ _) mixed Tryz.func11 rfl<|vAu<|vA<|vrT 3<|vc (hm)<|ve (0<2/\1<2/\Ac=Ac/\Ab=Ab/\3=3/\3<=3)<|zB<|vAe<|vf<|vK<|zB<|vA<|ve (True/\0<1/\True)<|vEf ((↑(Aa l+1):Int)) ((0:Int))<|vK<|vA<|ve (True/\0<1/\ix (0:Int) (↑(Aa l+1):Int) (vlsD (p::l)≠[])/\0<Aa (vlsD (p::l)))<|zG<|vret (True)<|.inr rfl
end
set_option maxHeartbeats 4000000 in
theorem rcheck_c (n : Int) (V : List Int)(R:List Rw)(W:List Int)(hV:V.length<=1000000)(hR:R.length<=1000000):
    Pure Ao 29 [iD n,rawD ⟨V,R,W⟩] [] (iD (chk n V R W.length)):=by
  obtain⟨m,hm⟩:∃m,m=W.length:=⟨_,rfl⟩;refine zH zDt mixed Tryz.func29 rfl<|vAu<|zB<|vAe<|zF<|zN (λ(i:Nat)=>fr 145 [(0,iD n),(3,Al 0 0),(5,iD (i:Int))]) (λ(i:Nat)=>[rB (.row (V.map λz=>iD z) V.length) (.row (R.map rowV) R.length)<|.row (W.map λz=>iD z) W.length]) (λi=>V.length-i) (λ(i:Nat)=>i<=V.length/\∀j,j<i->zE8 n V j=Ab) 0 ?_ ?_ ?_
  ·exact⟨by omega,λj h=>by omega⟩
  ·refine vk 1
  rintro i ⟨h1,h2⟩;rcases Av i V.length with h3|h3
  · have hne:(V.map λz=>iD z)≠[]:=zW
    have hx:=zB0 V i h3;by_cases hs:zE8 n V i=Ab
    · have hs2:=hs
      simp only[zE8,Bn,Cn,decide_eq_true_eq]at hs2;obtain⟨s1,s2,s3⟩:=hs2;rcases i with _|k
      · rw[AP]at hx
        refine zB<|vAs<|ve (True/\0<3)<|vT ((↑(0:Nat):Int)<↑(Aa V))<|vKB<|zB<|vd [0,2,1,3,4,5,6,7,9,12,8,10,11,13,14,15,16,17,18,19,21,22,25,27,20,23,24,26,28,29,30,31,32]<|vr 5 (True/\0<3/\ix ↑(0:Nat) ↑(Aa V) (Ae (λ(z:Int)=>iD z) V≠[])/\0<Aa (Ae (λ(z:Int)=>iD z) V))<|vsh 22 hx<|vw 8 [] [(6,Ac)] (decide (An V 0 (0:Int)<0)=Ac/\True/\0<3/\ix ↑(0:Nat) ↑(Aa V) (Ae (λ(z:Int)=>iD z) V≠[])/\0<Aa (Ae (λ(z:Int)=>iD z) V)) (vsh 29 hx<|vew [] [(15,Ac)] (decide (An V 0 (0:Int)>=n)=Ac) (vf<|zM<|zD<|vN<|zA rfl<|vr 3 (i6 (↑(0:Nat)+1))<|vnil<|zC ?_) (by exact decide_eq_false (by omega))) ⟨(by exact decide_eq_false (by omega)),trivial,(by omega),⟨(by omega),⟨(by omega),(by assumption)⟩⟩,(by(simp;omega))⟩;refine⟨1,⟨by omega,λj hj=>?_⟩,by omega,?_⟩
        · obtain rfl:j=0:=by omega
          exact hs
        refine vk 1
      · have hx2:=zB0 V k (by omega)
        have s4:V.getD k 0<V.getD (k+1) 0:=by
          rcases s3 with h|h
          ·omega
          exact h
        refine zB<|vAs<|ve (True/\0<3)<|vT ((↑(k+1):Int)<↑(Aa V))<|vKB<|zB<|vd [0,2,1,3,4,5,6,7,9,12,8,10,11,13,14,15,16,17,18,19,21,22,25,27,20,23,24,26,28,29,30,31,32]<|vr 4 (True/\0<3/\ix ↑(k+1) ↑(Aa V) (Ae (λ(z:Int)=>iD z) V≠[]))<|vp 21 (k+1) (Ae (λ(z:Int)=>iD z) V)<|vr 1 (0<Aa (Ag (k+1)<|Ae (λ(z:Int)=>iD z) V))<|vsh 22 hx<|vw 7 [] [(6,Ac)] (decide (An V (k+1) (0:Int)<0)=Ac/\True/\0<3/\ix ↑(k+1) ↑(Aa V) (Ae (λ(z:Int)=>iD z) V≠[])) (vp 28 (k+1) (Ae (λ(z:Int)=>iD z) V)<|vr 1 (0<Aa (Ag (k+1)<|Ae (λ(z:Int)=>iD z) V))<|vsh 29 hx<|vw 9 [] [(15,Ac),(18,Ab)] (decide (An V (k+1) (0:Int)>=n)=Ac/\decide ((↑(k+1):Int)>(0:Int))=Ab/\True/\i6 (↑(k+1)-1)) (vs 40 (iD (↑(k+1)-1)) (iD k) (hd:=by simp(disch:=omega) only[zR8])<|vr 4 (True/\0<3/\ix ↑k ↑(Aa V) (Ae (λ(z:Int)=>iD z) V≠[]))<|vp 41 k (Ae (λ(z:Int)=>iD z) V)<|vr 1 (0<Aa (Ag k<|Ae (λ(z:Int)=>iD z) V))<|vsh 42 hx2<|vr 2 (0<3/\ix ↑(k+1) ↑(Aa V) (Ae (λ(z:Int)=>iD z) V≠[])) ?_) ⟨(by exact decide_eq_false (by omega)),(by exact decide_eq_true (by omega)),trivial,(by omega)⟩) ⟨(by exact decide_eq_false (by omega)),trivial,(by omega),⟨(by omega),⟨(by omega),(by assumption)⟩⟩⟩;refine vp 46 (k+1) (Ae (λ(z:Int)=>iD z) V)<|vr 1 (0<Aa (Ag (k+1)<|Ae (λ(z:Int)=>iD z) V))<|vsh 47 hx<|veT<|vF (An V k (0:Int)>=An V (k+1) (0:Int))<|zM<|zD<|vN<|zA rfl<|vr 3 (i6 (↑(k+1)+1))<|vnil<|zC<|⟨k+2,⟨by omega,λj hj=>?_⟩,by omega,?_⟩
        · rcases Av j (k+1)with h|h
          ·exact h2 j h
          · obtain rfl:j=k+1:=by omega
            exact hs
        refine vk 1
    · have hc3:chk n V R W.length=3:=chk_v h3 (by simpa using hs)
      rw[hc3];rcases i with _|k
      · rw[AP]at hx
        focus
          refine zB<|vAs<|ve (True/\0<3)<|vT ((↑(0:Nat):Int)<↑(Aa V))<|vKB<|zB<|vd [0,2,1,3,4,5,6,7,9,12,8,10,11,13,14,15,16,17,18,19,21,22,25,27,20,23,24,26,28,29,30,31,32]<|vr 5 (True/\0<3/\ix ↑(0:Nat) ↑(Aa V) (Ae (λ(z:Int)=>iD z) V≠[])/\0<Aa (Ae (λ(z:Int)=>iD z) V))<|vsh 22 hx<|vrT 2<|vspD 24 (An V 0 (0:Int)<0) (λhc=>?_)<|λhc=>?_;refine veT<|vt<|vAe<|zG<|zJ<|zE<|zE<|zJ<|zE<|vret (True)<|.inr rfl;refine vr 6 (True/\0<3/\ix ↑(0:Nat) ↑(Aa V) (Ae (λ(z:Int)=>iD z) V≠[])/\0<Aa (Ae (λ(z:Int)=>iD z) V))<|vsh 29 hx<|vrT 3<|vspD 33 (An V 0 (0:Int)>=n) (λhc=>?_)<|λhc=>?_;refine veT<|vt<|vAe<|zG<|zJ<|zE<|zE<|zJ<|zE<|vret (True)<|.inr rfl;refine veT<|vf<|zM<|zD<|vN<|zA rfl<|vr 3 (i6 (↑(0:Nat)+1))<|vnil<|zC ?_;rotate_left
        all_goals exact absurd (zKw (by omega) (by omega) (.inl rfl)) hs
      · have hx2:=zB0 V k (by omega)
        focus
          refine zB<|vAs<|ve (True/\0<3)<|vT ((↑(k+1):Int)<↑(Aa V))<|vKB<|zB<|vd [0,2,1,3,4,5,6,7,9,12,8,10,11,13,14,15,16,17,18,19,21,22,25,27,20,23,24,26,28,29,30,31,32]<|vr 4 (True/\0<3/\ix ↑(k+1) ↑(Aa V) (Ae (λ(z:Int)=>iD z) V≠[]))<|vp 21 (k+1) (Ae (λ(z:Int)=>iD z) V)<|vr 1 (0<Aa (Ag (k+1)<|Ae (λ(z:Int)=>iD z) V))<|vsh 22 hx<|vrT 2<|vspD 24 (An V (k+1) (0:Int)<0) (λhc=>?_)<|λhc=>?_;refine veT<|vt<|vAe<|zG<|zJ<|zE<|zE<|zJ<|zE<|vret (True)<|.inr rfl;refine vr 5 (True/\0<3/\ix ↑(k+1) ↑(Aa V) (Ae (λ(z:Int)=>iD z) V≠[]))<|vp 28 (k+1) (Ae (λ(z:Int)=>iD z) V)<|vr 1 (0<Aa (Ag (k+1)<|Ae (λ(z:Int)=>iD z) V))<|vsh 29 hx<|vrT 3<|vspD 33 (An V (k+1) (0:Int)>=n) (λhc=>?_)<|λhc=>?_;refine veT<|vt<|vAe<|zG<|zJ<|zE<|zE<|zJ<|zE<|vret (True)<|.inr rfl;refine vw 6 [] [(18,Ab)] (decide ((↑(k+1):Int)>(0:Int))=Ab/\True/\i6 (↑(k+1)-1))<|vs 40 (iD (↑(k+1)-1)) (iD k) (hd:=by simp(disch:=omega) only[zR8])<|vr 4 (True/\0<3/\ix ↑k ↑(Aa V) (Ae (λ(z:Int)=>iD z) V≠[]))<|vp 41 k (Ae (λ(z:Int)=>iD z) V)<|vr 1 (0<Aa (Ag k<|Ae (λ(z:Int)=>iD z) V))<|vsh 42 hx2<|vr 2 (0<3/\ix ↑(k+1) ↑(Aa V) (Ae (λ(z:Int)=>iD z) V≠[]))<|vp 46 (k+1) (Ae (λ(z:Int)=>iD z) V)<|vr 1 (0<Aa (Ag (k+1)<|Ae (λ(z:Int)=>iD z) V))<|vsh 47 hx<|veT<|vcD (An V k (0:Int)>=An V (k+1) (0:Int)) (λhc=>?_)<|λhc=>?_;refine vAe<|zG<|zJ<|zE<|zE<|zJ<|zE<|vret (True)<|.inr rfl;refine zM<|zD<|vN<|zA rfl<|vr 3 (i6 (↑(k+1)+1))<|vnil<|zC ?_;rotate_left
        all_goals exact absurd (zKw (by omega) (by omega) (.inr (by simp only[BZ];omega))) hs
  have hv:=zGh (p:=zE8 n V) (n:=V.length) λj hj=>h2 j (by omega);by_cases hlm:R.length=W.length;case neg=>
    rw[chk_l hv hlm];refine zB<|vAs<|ve (True/\0<3)<|vF ((i:Int)<↑(Aa V))<|vZ2<|zB<|vA<|ve (True/\0<2/\True/\0<1/\True)<|zFm (t:=(Aa R:Int)!=(Aa W:Int)) (by kernel_rfl) (by simpa using by omega)<|vAe<|zG<|zE<|vret (True)<|.inr rfl
  refine zB<|vAs<|ve (True/\0<3)<|vF ((i:Int)<↑(Aa V))<|vZ2<|zB<|vA<|ve (True/\0<2/\True/\0<1/\True)<|zG4 (t:=(Aa R:Int)!=(Aa W:Int)) (by kernel_rfl) (by simpa using by omega)<|vK<|zB<|vAe<|zF<|zN (λ(i:Nat)=>fr 145 [(3,Al 0 0),(6,iD i)]) (λ(i:Nat)=>[rB (.row (V.map λz=>iD z) V.length) (.row (R.map rowV) R.length)<|.row (W.map λz=>iD z) W.length]) (λi=>R.length-i) (λ(i:Nat)=>i<=R.length/\∀j,j<i->j<R.length->decide ((R.getD j []).length=V.length)=Ab) 0 ?_ ?_ ?_
  ·exact⟨by omega,λj h=>by omega⟩
  ·refine vk 1
  clear h1 h2 h3 i;rintro i ⟨h1,h2⟩;rcases Av i R.length with h3|h3
  · have hne:R.map rowV≠[]:=zW
    have hx:=zAh R i h3;have hca:=chk_a hv hlm h3;generalize hg:R.getD i []=r at*;focus
      refine zB<|vAs<|ve (True/\0<2)<|vT ((i:Int)<↑(Aa R))<|vKB<|zB<|vd [0,2,6,1,3,4,5,7,8,9]<|vr 5 (True/\True/\0<2/\ix ↑i ↑(Aa R) (Ae rowV R≠[]))<|vp 68 i (Ae rowV R)<|vr 1 (0<Aa (Ag i<|Ae rowV R))<|vsh 69 hx<|ve (0<3/\True)<|zAi (t:=(Aa r:Int)!=(Aa V:Int)) (by kernel_rfl) (λhc=>?_)<|λhc=>?_;simp only[bne_iff_ne]at hc;refine vAe<|zG<|zJ<|zE<|zE<|zJ<|zE<|vre (True) (As<|AF Bh 6) (.inr rfl) ?_;rotate_left;simp only[bne_eq_false_iff_eq]at hc;refine zM<|zD<|vN<|zA rfl<|vr 3 (i6 (↑i+1))<|vnil<|zC ?_;rotate_left
    ·rw[hca (by omega)]
    · refine⟨i+1,⟨by omega,λj hj hjl=>?_⟩,by omega,?_⟩
      · rcases Av j i with h|h
        ·exact h2 j h hjl
        · obtain rfl:j=i:=by omega
          rw[hg];exact decide_eq_true (by omega)
      refine vk 1
  have ha:=zEk (p:=λx:Rw=>decide (x.length=V.length)) (d:=[]) h3 h2;have hl:∀x∈R,x.length<=1000000000:=λx hx=>by
    have:=of_decide_eq_true (A3.1 ha x hx)
    omega
  refine zB<|vAs<|ve (True/\0<2)<|vF ((i:Int)<↑(Aa R))<|vZ2<|zB<|vAe<|zF<|zN (λ(i:Nat)=>fr 145 [(3,Al 0 0),(7,iD i)]) (λ(i:Nat)=>[rB (.row (V.map λz=>iD z) V.length) (.row (R.map rowV) R.length)<|.row (W.map λz=>iD z) W.length]) (λi=>R.length-i) (λ(i:Nat)=>i<=R.length/\∀j,j<i->j<R.length->(R.getD j []).all vok=Ab) 0 ?_ ?_ ?_
  ·exact⟨by omega,λj h=>by omega⟩
  ·refine vk 1
  clear h1 h2 h3 i;rintro i ⟨h1,h2⟩;rcases Av i R.length with h3|h3
  · have hne:R.map rowV≠[]:=zW
    have hx:=zAh R i h3;have hco:=chk_o hv hlm ha h3;have hlr:=hl _ (zAx R [] i h3);generalize hg:R.getD i []=r at*;refine zB<|vAs<|ve (True/\0<2)<|vT ((i:Int)<↑(Aa R))<|vKB<|vAe<|zF<|zN (λ(k:Nat)=>fr 145 [(3,Al 0 0),(7,iD i),(8,iD k)]) (λ(k:Nat)=>[rB (.row (V.map λz=>iD z) V.length) (.row (R.map rowV) R.length)<|.row (W.map λz=>iD z) W.length]) (λk=>r.length-k) (λ(k:Nat)=>k<=r.length/\∀j,j<k->j<r.length->vok (r.getD j Ai)=Ab) 0 ?_ ?_ ?_
    ·exact⟨by omega,λj h=>by omega⟩
    ·refine vk 1
    rintro k ⟨k1,k2⟩;rcases Av k r.length with k3|k3
    · have hno:vok (r.getD k Ai)=Ac->r.all vok=false:=all_no vok Ai r k k3
      generalize hv2:r.getD k Ai=v at*;focus
        refine zB<|vAs<|vr 5 (True/\0<2/\ix ↑i ↑(Aa R) (Ae rowV R≠[]))<|vp 86 i (Ae rowV R)<|vr 1 (0<Aa (Ag i<|Ae rowV R))<|vsh 87 hx<|veT<|vT ((k:Int)<↑(Aa r))<|vKB<|vA<|vr 4 (True/\0<2/\ix ↑i ↑(Aa R) (Ae rowV R≠[]))<|vp 95 i (Ae rowV R)<|vr 1 (0<Aa (Ag i<|Ae rowV R))<|vsh 96 hx<|vr 3 (ix ↑k ↑(Aa r) (zL r≠[])/\3<=Aa (Ag (k*3)<|zL r)) (vs 99 (Aq<|Am 3<|Ag (k*3)<|zL r) (Aq<|vaC v) (hd:=by simp(disch:=omega) only[zCu,hv2])<|ve (Ac=Ac/\Ab=Ab/\3=3/\3<=3)<|vA<|vr 4 (True/\0<3/\True) ?_) ⟨⟨(by omega),⟨(by omega),(by exact zFv _)⟩⟩,(by exact zEa _ _)⟩;refine vsp 103 (Va.kind v==(1:Int)) (λhc=>?_)<|λhc=>?_;simp only[beq_iff_eq]at hc;refine vr 3 (True/\0<1/\True)<|vs 106 (bD (ByteArray.toList (bs<|Va.str v)==ByteArray.toList (A_ #[]))) (bD<|List.isEmpty<|Va.str v) (hd:=by simp(disch:=omega) only[zKq,zP9,zTn])<|vrT 2<|vsp 108 (List.isEmpty<|Va.str v) (λhc=>?_)<|λhc=>?_;refine veT<|vf<|zM<|zD<|vN<|zA rfl<|vr 3 (i6 (↑k+1))<|vnil<|zC ?_;rotate_left;refine vew [] [(12,Ac)] (True/\0<3/\True/\(Va.kind v==(2:Int))=Ac)<|vt<|vAe<|zG<|zJ<|zE<|zE<|zJ<|zJ<|zE<|zE<|zJ ?_;refine zE<|vre (True) (q12_) (.inr rfl) ?_;rotate_left;simp only[beq_eq_false_iff_ne]at hc;refine vr 9 (True/\0<3/\True)<|vsp 112 (Va.kind v==(2:Int)) (λhc=>?_)<|λhc=>?_;simp only[beq_iff_eq]at hc;refine vr 5 (True/\0<2/\True)<|vsp 117 (Va.int v==(0:Int)) (λhc=>?_)<|λhc=>?_;simp only[beq_iff_eq]at hc;refine ve (True/\0<1)<|zAi (t:=!decide ((Aa (Va.str v):Int)<=(24:Int))) (by kernel_rfl) (λhc=>?_)<|λhc=>?_;simp only[BN]at hc;refine vAe<|zG<|zJ<|zE<|zE<|zJ<|zJ<|zE<|zE<|zJ<|zE<|vre (True) (q12_) (.inr rfl) ?_;rotate_left;simp only[B9]at hc;refine zM<|zD<|vN<|zA rfl<|vr 3 (i6 (↑k+1))<|vnil<|zC ?_;rotate_left;simp only[beq_eq_false_iff_ne]at hc;refine veT<|vt<|vAe<|zG<|zJ<|zE<|zE<|zJ<|zJ<|zE<|zE<|zJ ?_;refine zE<|vre (True) (q12_) (.inr rfl) ?_;rotate_left;simp only[beq_eq_false_iff_ne]at hc;refine veT<|vt<|vAe<|zG<|zJ<|zE<|zE<|zJ<|zJ<|zE<|zE<|zJ ?_;refine zE<|vre (True) (q12_) (.inr rfl) ?_;rotate_left
      · have hvk:vok v=true:=by simp[vok, *]<;>omega
        refine⟨k+1,⟨by omega,λj hj hjl=>?_⟩,by omega,?_⟩
        · rcases Av j k with h|h
          ·exact k2 j h hjl
          · obtain rfl:j=k:=by omega
            rw[hv2];exact hvk
        refine vk 1
      ·rw[hco (hno (by simp[vok, *]<;>omega))]
      ·rw[hco (hno (by have hd:=hc;simp only[decide_eq_false_iff_not,decide_eq_true_eq]at hd;simp[vok, *]<;>omega))]
      · have hvk:vok v=true:=by have hd:=hc;simp only[decide_eq_false_iff_not,decide_eq_true_eq]at hd;simp[vok, *]<;>omega
        refine⟨k+1,⟨by omega,λj hj hjl=>?_⟩,by omega,?_⟩
        · rcases Av j k with h|h
          ·exact k2 j h hjl
          · obtain rfl:j=k:=by omega
            rw[hv2];exact hvk
        refine vk 1
      ·rw[hco (hno (by simp[vok, *]<;>omega))]
      rw[hco (hno (by simp[vok, *]<;>omega))]
    · have hra:=zEk (p:=vok) (d:=Ai) k3 k2
      refine zB<|vAs<|vr 5 (True/\0<2/\ix ↑i ↑(Aa R) (Ae rowV R≠[]))<|vp 86 i (Ae rowV R)<|vr 1 (0<Aa (Ag i<|Ae rowV R))<|vsh 87 hx<|veT<|vF ((k:Int)<↑(Aa r))<|vY2<|zD<|vN<|zA rfl<|vr 3 (i6 (↑i+1))<|vnil<|zC<|⟨i+1,⟨by omega,λj hj hjl=>?_⟩,by omega,?_⟩
      · rcases Av j i with h|h
        ·exact h2 j h hjl
        · obtain rfl:j=i:=by omega
          rw[hg];exact hra
      refine vk 1
  have ho:=zEk (p:=λx:Rw=>x.all vok) (d:=[]) h3 h2;refine zB<|vAs<|ve (True/\0<2)<|vF ((i:Int)<↑(Aa R))<|vZ2<|zB<|vAe<|zF<|zN (λ(k:Nat)=>fr 145 [(3,Al 0 0),(10,iD (↑k+1))]) (λ(k:Nat)=>[rB (.row (V.map λz=>iD z) V.length) (.row (R.map rowV) R.length)<|.row (W.map λz=>iD z) W.length]) (λk=>R.length-k) (λ(k:Nat)=>k<=R.length/\∀j,j<=k->j<R.length->zK4 R j=Ab) 0 ?_ ?_ ?_
  · exact ⟨by omega, fun j h _ => by obtain rfl:j=0:=by omega
                                     rfl⟩
  ·refine vk 1
  clear h1 h2 h3 i;rintro k ⟨h1,h2⟩;rcases Av (k+1) R.length with h3|h3
  · have hne:R.map rowV≠[]:=zW
    have hx:=zAh R (k+1) h3;have hx0:=zAh R k (by omega);have hcs:=chk_s hv hlm ha ho h3;have hst:zK4 R (k+1)=decide (rcmp (R.getD k []) (R.getD (k+1) [])<0):=by simp[zK4]
    have hcm:=rless_c (R.getD k []) (R.getD (k+1) []) _ _ rfl rfl (hl _ (zAx R [] k (by omega))) (hl _ (zAx R [] (k+1) h3));generalize R.getD (k+1) []=r at*;generalize R.getD k []=r0 at*;focus
      refine zB<|vAs<|ve (True/\0<2)<|vT ((↑(k+1):Int)<↑(Aa R))<|vKB<|zB<|vd [0,2,3,6,8,1,4,5,7,9,10,11,12]<|vr 3 (True/\i6 (↑(k+1)-1))<|vs 135 (iD (↑(k+1)-1)) (iD k) (hd:=by simp(disch:=omega) only[zR8])<|vr 4 (True/\0<2/\ix ↑k ↑(Aa R) (Ae rowV R≠[]))<|vp 136 k (Ae rowV R)<|vr 1 (0<Aa (Ag k<|Ae rowV R))<|vsh 137 hx0<|vr 2 (0<2/\ix ↑(k+1) ↑(Aa R) (Ae rowV R≠[]))<|vp 141 (k+1) (Ae rowV R)<|vr 1 (0<Aa (Ag (k+1)<|Ae rowV R))<|vsh 142 hx<|vc hcm<|veT<|zAi (t:=!decide (rcmp r0 r<0)) (by kernel_rfl) (λhc=>?_)<|λhc=>?_;simp only[BN]at hc;refine vAe<|zG<|zJ<|zE<|zE<|zJ<|zE<|vre (True) (As<|AF Bh 16) (.inr rfl) ?_;rotate_left;simp only[B9]at hc;refine zM<|zD<|vN<|zA rfl<|vr 3 (i6 (↑(k+1)+1))<|vnil<|zC ?_;rotate_left
    ·rw[hcs (by rw[hst];simpa using hc)]
    · refine⟨k+1,⟨by omega,λj hj hjl=>?_⟩,by omega,?_⟩
      · rcases Av j (k+1)with h|h
        ·exact h2 j (by omega) hjl
        · obtain rfl:j=k+1:=by omega
          rw[hst];simpa using hc
      refine vk 1
  rw[chk_0 hv hlm ha ho (zGh λj hj=>h2 j (by omega) hj)];refine zB<|vAs<|ve (True/\0<2)<|vF ((k:Int)+(1:Int)<(Aa R:Int))<|vZ2<|vAe<|zG<|vret (True)<|.inr rfl
abbrev natI(W:List Nat):List Int:=W.map λw:Nat=>(w:Int)
abbrev rnR(f:Rn):Raw:=⟨f.V,f.R,natI f.W⟩
theorem max0(w:Nat):(if(0:Int)>(w:Nat)then 0 else((w:Nat):Int))=(w:Nat):=by split<;>omega
theorem wrap64u{n:Nat}(h:n<18446744073709551616):IntKind.u64.wrap (n:Int)=(n:Int):=zDu (k:= .u64) (by simp only[inK];omega)
theorem zK6(W:List Nat):(natI W).map (λz=>iD z)=nsD W:=by simp[natI]
set_option maxHeartbeats 2000000 in
theorem count_c(f:Rn)(hW:f.W.length<=1000)(hw:∀w∈f.W,w<=1000000):Pure Ao 25 [rawD (rnR f)] [] (.agg (rnC f)):=by
 obtain⟨V,R,W⟩:=f;simp only at hW hw;have e1:rawD (rnR ⟨V,R,W⟩)= .agg [.row (V.map λz=>iD z) V.length, .row (R.map rowV) R.length, .row (nsD W) W.length]:=by
  show Aq [_,_, .row ((natI W).map λz=>iD z) (natI W).length]=_;rw[zK6,Ay]
 rw[e1];refine zH zDt mixed Tryz.func25 rfl<|vAu<|vA<|vr 7 (True/\0<3/\True/\0<2/\((1=1/\1<=3/\1=1/\2<=3/\True)/\Ab=Ab)/\Ac=Ac/\Ab=Ab/\3=3/\3<=3)<|vnil<|zC<|vnn (fr 31 [(1,Al 0 0),(2,Al 1 0),(3,Al 2 0),(5,Al 0 0),(6,Ad (Ae (λ(z:Int)=>iD z) V)<|Aa V),(7,Al 0 1),(8,Ad (Ae rowV R)<|Aa R),(9,Aq [Ad (Ae (λ(z:Int)=>iD z) V)<|Aa V,Ad (Ae rowV R)<|Aa R,nl])]) [Ak [Ad (Ae (λ(z:Int)=>iD z) V)<|Aa V,Ad (Ae rowV R)<|Aa R,Ad (nsD W)<|Aa W] 42 0 Ac Ac Aj,Ak [nl,nl,nl] 90 0 Ac Ac Aj,Ak [Ad (Ae (λ(z:Int)=>iD z) V)<|Aa V,Ad (Ae rowV R)<|Aa R,nl] 90 0 Ac Ac Aj]<|zBf (Bo (j:=2) (i:=2) (natB []) rfl rfl rfl rfl) ?_;refine zB<|vAu<|zF<|zN (λ(i:Nat)=>fr 31 [(1,Al 0 0),(2,Al 1 0),(3,Al 2 0),(4,iD i)]) (λ(i:Nat)=>[rB (.row (V.map λz=>iD z) V.length) (.row (R.map rowV) R.length)<|.row (nsD W) W.length,fB1 nl nl nl,fB1 (.row (V.map λz=>iD z) V.length) (.row (R.map rowV) R.length)<|.osl 3 0 i i Ab,natB<|(W.take i).map natD]) (λi=>W.length-i) (λ(i:Nat)=>i<=W.length) 0 ?_ ?_ ?_
 ·omega
 ·refine vk 4
 rintro i h1;rcases Av i W.length with h2|h2
 ·have hne:nsD W≠[]:=zW;have hx:=zA6 W i h2;have hm:=zDv W i h2;have hb:=hw _ hm;have e0:(W.take (i+1)).map natD=(W.take i).map natD++[natD (W.getD i 0)]:=by
   rw[BA h2,BF,AE,AM h2];rfl
  have hl:((W.take i).map natD).length=i:=by simp;omega
  generalize W.getD i 0=w at*;have hof:=of_c w (by omega);have m0:=max0 w;have m1:=wrap64u (n:=w) (by omega);refine zB<|vAs<|ve (True/\0<1)<|vT ((i:Int)<↑(Aa W))<|vKB<|vd [0,2,4,1,3,5,6,7,8,9,10,11,12,13]<|vr 6 (True/\True/\0<1/\0<1/\ix ↑i ↑(Aa W) (nsD W≠[]))<|vp 22 i (nsD W)<|vr 1 (0<Aa (Ag i<|nsD W))<|vsh 23 hx<|vr 2 (u6 (w:Int))<|vc hof<|vr 4 (((1=1/\1<=1/\True)/\0<1/\1=1/\1<=16777216/\1<=9223372036854775807)/\(AU (natB<|Ae natD<|Am i W)=Ab/\Aa (AJ<|natB<|Ae natD<|Am i W)=i*1/\i=i*1/\AN (natB<|Ae natD<|Am i W)=50/\AO (natB<|Ae natD<|Am i W)=1/\1=1/\0<1/\0<24/\50=50/\(i+1)*24<=140737488355328/\1=1/\AR (Az<|natB<|Ae natD<|Am i W)=Ac/\(Ac=Ac\/AS (Az<|natB<|Ae natD<|Am i W)=Ab))/\True/\Ac=Ac/\Ab=Ab/\1=1/\3<=3)<|vb 2 (Ak [Ad (Ae (λ(z:Int)=>iD z) V)<|Aa V,Ad (Ae rowV R)<|Aa R,Ah 3 0 (i+1) ((i+1)*1) Ab] 90 0 Ac Ac Aj) (Ak [Ad (Ae (λ(z:Int)=>iD z) V)<|Aa V,Ad (Ae rowV R)<|Aa R,Ah 3 0 (i+1) (i+1) Ab] 90 0 Ac Ac Aj) (hd:=by simp(disch:=omega) only[A2])<|vnil<|zD<|vN<|zA rfl<|vr 3 (i6 (↑i+1))<|vnil<|zC<|⟨i+1,by omega,by omega,?_⟩;rw[e0];refine vk 4
 refine zB<|vAs<|ve (True/\0<1)<|vF ((i:Int)<(Aa W:Int))<|vZ2<|vA<|ve (3<=3/\Ac=Ac/\Ab=Ab/\3=3/\3<=3)<|zG<|zB3 (3<=3) (Aq [Ad (Ae (λ(z:Int)=>iD z) V)<|Aa V,Ad (Ae rowV R)<|Aa R,Ad (Am i<|Ag 0<|AJ<|natB<|Ae natD<|Am i W) i]) (Aq [Ad (Ae (λ(z:Int)=>iD z) V)<|Aa V,Ad (Ae rowV R)<|Aa R,Ad (Am i<|Ae natD<|Am i W) i]) (.inr rfl) (by simp(disch:=omega) only[AP]) ?_ (hc:=by omega);obtain rfl:i=W.length:=by omega
 rw[BS,AK (by simp)]
abbrev rwD(f:Rn):List D:=rawC (rnR f)
theorem zK1(f:Rn):(rwD f).length=3:=rfl
theorem len_sn{α:Type}(l:List α)(x:α):(l++[x]).length=l.length+1:=by simp
structure Rsm(f:Rn):Prop where
 v:f.V.length<=4
 r:f.R.length<=10
 w:f.W.length<=12
 b:∀w∈f.W,w<=1000
theorem headD_vl(l:List (Rw×Nat)){k:Nat}(h:k<l.length):((vlsD l).drop k).headD .unk=natD (l.getD k Ai).2:=by
 rw[<-zV2 l h];exact zEp (l.map (·.2)) k (by simpa using h)
set_option maxHeartbeats 4000000 in
theorem same_c(A:List Nat)(l:List (Rw×Nat))(hA:A.length<=1000)(hl:l.length<=1000000)(hr:∀p∈l,p.1.length<=1000000000)(hv:∀p∈l,p.2<=9223372036854775807):Pure Ao 27 [fcD A l,rfD A l] [] (bD Ab):=by
 refine zH zDt mixed Tryz.func27 rfl<|vAu<|zB<|vA<|vew [] [(7,Ac),(16,Ac)] (True/\0<3/\True/\0<3/\True/\((Aa A:Int)!=(Aa A:Int))=Ac/\True/\0<2/\True/\0<2/\True/\((Aa l:Int)!=(Aa l:Int))=Ac/\True/\0<1/\True/\0<1/\True)<|zG4 (t:=(Aa l:Int)!=(Aa l:Int)) (by kernel_rfl) (by simp)<|vK<|zB<|vAe<|zF<|zN (λ(i:Nat)=>fr 85 [(2,Al 0 0),(3,Al 1 0),(5,iD (i:Int))]) (λ(i:Nat)=>[fB1 (.row (nsD A) A.length) (.row (rwsD l) l.length)<|.row (vlsD l) l.length,rB (.row (nsD A) A.length) (.row (rwsD l) l.length)<|.row (isD l) l.length]) (λi=>A.length-i) (λ(i:Nat)=>i<=A.length) 0 ?_ ?_ ?_
 ·omega
 ·refine vk 2
 rintro i h1;rcases Av i A.length with h2|h2
 ·have hne:nsD A≠[]:=zW;have hx:=zA6 A i h2;refine zB<|vAs<|ve (True/\0<3)<|vT ((i:Int)<↑(Aa A))<|vKB<|zB<|vd [0,2,5,7,1,3,4,6,8,9,10]<|vr 6 (True/\True/\0<3/\ix ↑i ↑(Aa A) (nsD A≠[]))<|vp 42 i (nsD A)<|vr 1 (0<Aa (Ag i<|nsD A))<|vsh 43 hx<|vr 2 (0<3/\ix ↑i ↑(Aa A) (nsD A≠[]))<|vp 47 i (nsD A)<|vr 1 (0<Aa (Ag i<|nsD A))<|vsh 48 hx<|veT<|zG4 (t:=(↑(An A i 0):Int)!=(↑(An A i 0):Int)) (by kernel_rfl) (by simp)<|zM<|zD<|vN<|zA rfl<|vr 3 (i6 (↑i+1))<|vnil<|zC<|⟨i+1,by omega,by omega,?_⟩;refine vk 2
 refine zB<|vAs<|ve (True/\0<3)<|vF ((i:Int)<↑(Aa A))<|vZ2<|zB<|vAe<|zF<|zN (λ(i:Nat)=>fr 85 [(2,Al 0 0),(3,Al 1 0),(6,iD i)]) (λ(i:Nat)=>[fB1 (.row (nsD A) A.length) (.row (rwsD l) l.length)<|.row (vlsD l) l.length,rB (.row (nsD A) A.length) (.row (rwsD l) l.length)<|.row (isD l) l.length]) (λi=>l.length-i) (λ(i:Nat)=>i<=l.length) 0 ?_ ?_ ?_
 ·omega
 ·refine vk 2
 clear h1 h2 i;rintro i h1;rcases Av i l.length with h2|h2
 ·have hpm:=zAx l Ai i h2;have hx:=headD_rw l h2;have hy:=headD_vl l h2;have hz:=headD_is l h2;have hne:rwsD l≠[]:=zW (h:=by simp;omega);have hne2:vlsD l≠[]:=zW (h:=by simp;omega);have hne3:isD l≠[]:=zW (h:=by simp;omega);have hrp:=hr _ hpm;have hvp:=hv _ hpm;generalize l.getD i Ai=p at*;have hsa:=rsame_c p.1 _ rfl hrp;have hof:=of_c p.2 (by omega);have hcm:=ncmp_c p.2 p.2 (Sm.of (by omega)) (Sm.of (by omega));have e0:cmpD (p.2:Int) (p.2:Int)=0:=by rcases zD6 (p.2:Int) p.2 with h|h|h<;>omega
  rw[e0]at hcm;have m1:=wrap64u (n:=p.2) (by omega);refine zB<|vAs<|ve (True/\0<2)<|vT ((i:Int)<↑(Aa l))<|vKB<|zB<|vd [0,2,5,7,1,3,4,6,8,9,10,11,12,13,15,18,20,14,16,17,19,21,22,23,24,25,26,27]<|vr 6 (True/\True/\0<2/\ix ↑i ↑(Aa l) (rwsD l≠[]))<|vp 60 i (rwsD l)<|vr 1 (0<Aa (Ag i<|rwsD l))<|vsh 61 hx<|vr 2 (0<2/\ix ↑i ↑(Aa l) (rwsD l≠[]))<|vp 65 i (rwsD l)<|vr 1 (0<Aa (Ag i<|rwsD l))<|vsh 66 hx<|vc hsa<|vr 8 (True/\True/\0<1/\ix ↑i ↑(Aa l) (vlsD l≠[]))<|vp 73 i (vlsD l)<|vr 1 (0<Aa (Ag i<|vlsD l))<|vsh 74 hy<|vr 2 (0<1/\ix ↑i ↑(Aa l) (isD l≠[]))<|vp 78 i (isD l)<|vr 1 (0<Aa (Ag i<|isD l))<|vsh 79 hz<|vr 1 (u6 (↑(Prod.snd p):Int))<|vc hof<|vc hcm<|veT<|vf<|zM<|zD<|vN<|zA rfl<|vr 3 (i6 (↑i+1))<|vnil<|zC<|⟨i+1,by omega,by omega,?_⟩;refine vk 2
 refine zB<|vAs<|ve (True/\0<2)<|vF ((i:Int)<(Aa l:Int))<|vZ2<|vAe<|zG<|vret (True)<|.inr rfl
def fewR(f:Raw):Bool:=decide (f.R.length<=10)&&(decide (f.V.length<=4)&&(decide (f.W.length<=12)&&f.W.all λw=>decide (0<=w/\w<=1000)))
def fewP(l:List Raw):Bool:=((l.take 5).all fewR)&&decide (l.length<=4)
theorem fewP_rn{l:List Raw}(h:fewP l=Ab):l.length<=4/\∃fs:List Rn,l=fs.map rnR/\∀f∈fs,Rsm f:=by
 unfold fewP at h;rw[Bn,decide_eq_true_eq,A3]at h;refine⟨h.2,l.map λf=>⟨f.V,f.R,f.W.map Ap⟩,?_,?_⟩
 ·rw[A8];conv=>lhs;rw[<-List.map_id l]
  refine BG λf hf=>?_;have hf2:=h.1 f (by rw[AK (by omega)];exact hf);unfold fewR at hf2;simp only[Bn,decide_eq_true_eq,A3]at hf2;obtain⟨V,R,W⟩:=f;simp only[Function.comp,id];congr 1;show W=(W.map Ap).map λw:Nat=>(w:Int);rw[A8];conv=>lhs;rw[<-List.map_id W]
  refine BG λw hw=>?_
  have:=hf2.2.2.2 w hw
  simp only[id,Function.comp];omega
 intro f hf;obtain⟨g,hg,rfl⟩:=AD.1 hf;have hf2:=h.1 g (by rw[AK (by omega)];exact hg);unfold fewR at hf2;simp only[Bn,decide_eq_true_eq,A3]at hf2;refine⟨hf2.2.1,hf2.1,by simpa using hf2.2.2.1,λw hw=>?_⟩;obtain⟨z,hz,rfl⟩:=AD.1 hw
 have:=hf2.2.2.2 z hz
 omega
theorem fewP_no{l:List Raw}{i:Nat}(h:i<l.length)(h5:i<5)(hp:fewR (l.getD i Ai)=Ac):fewP l=false:=by
 unfold fewP;have:(l.take 5).all fewR=false:=by
  rw[Co];intro k;rw[A3]at k
  have:=k (l.getD i Ai) (by
   rw[AE,AM h];exact Cp.2 ⟨i,by rw[BO];omega,by rw[Cq];rfl⟩)
  rw[hp]at this;cases this
 rw[this];rfl
theorem fewP_yes{l:List Raw}(h:∀j,j<5->j<l.length->fewR (l.getD j Ai)=Ab):fewP l=decide (l.length<=4):=by
 unfold fewP;have:(l.take 5).all fewR=true:=by
  rw[A3];intro f hf;obtain⟨j,hj,rfl⟩:=Cp.1 hf;rw[BO]at hj
  have:=h j (by omega) (by omega)
  rw[AE,AM (by omega)]at this;rw[Cq];exact this
 rw[this];rfl
set_option maxHeartbeats 4000000 in
theorem few_c(l:List Raw):Pure Ao 7 [.row (l.flatMap rawC) l.length] [] (bD (fewP l)):=by
 refine zH zDt mixed Tryz.func7 rfl<|vAu<|zB<|vAe<|zF<|zN (λ(i:Nat)=>fr 73 [(0,Ad (Af rawC l)<|Aa l),(3,iD (i:Int))]) (λ(i:Nat)=>[]) (λi=>5-i) (λ(i:Nat)=>i<=5/\i<=l.length/\∀j,j<i->fewR (l.getD j Ai)=Ab) 0 ?_ ?_ ?_
 ·exact⟨by omega,by omega,λj h=>by omega⟩
 ·refine vk 0
 rintro i ⟨h0,h1,h2⟩;by_cases h3:i<l.length/\i<5
 ·obtain⟨h3,h4⟩:=h3;have hg2:=zSu zR5 l i h3;have hle:=zFp zR5 l i h3;have hne:=zEi zR5 (by decide) l;have hno:=fewP_no h3 h4;generalize hff:l.getD i Ai=f at*;obtain⟨V,R,W⟩:=f;by_cases hbad:R.length<=10/\V.length<=4/\W.length<=12
  ·obtain⟨b1,b2,b3⟩:=hbad;refine zB<|vAs<|vew [] [(4,Ab)] (decide ((i:Int)<↑(Aa l))=Ab)<|vT ((i:Int)<(5:Int))<|vKB<|zB<|vA<|vr 3 (ix ↑i ↑(Aa l) (Af rawC l≠[]))<|vs 17 (AH<|Ag (Ap (i:Int)*3)<|Af rawC l) (AH (Ad (Ae iD V) (Aa V)::Ad (Ae rowV R) (Aa R)::Ad (Ae iD W) (Aa W)::Af rawC (Ag (i+1) l))) (hd:=by simp(disch:=omega) only[AG,AX,AY,hg2])<|vw 8 [] [(7,Ac)] (True/\0<Aa (Ad (Ae rowV R) (Aa R)::Ad (Ae iD W) (Aa W)::Af rawC (Ag (i+1) l))/\decide ((Aa R:Int)>(10:Int))=Ac/\ix ↑i ↑(Aa l) (Af rawC l≠[]))<|vs 25 (AH<|Ag (Ap (i:Int)*3)<|Af rawC l) (AH (Ad (Ae iD V) (Aa V)::Ad (Ae rowV R) (Aa R)::Ad (Ae iD W) (Aa W)::Af rawC (Ag (i+1) l))) (hd:=by simp(disch:=omega) only[AG,AX,AY,hg2])<|vw 9 [] [(16,Ac)] (True/\0<Aa (Ad (Ae iD V) (Aa V)::Ad (Ae rowV R) (Aa R)::Ad (Ae iD W) (Aa W)::Af rawC (Ag (i+1) l))/\decide ((Aa V:Int)>(4:Int))=Ac/\ix ↑i ↑(Aa l) (Af rawC l≠[]))<|vs 34 (AH<|Ag (Ap (i:Int)*3)<|Af rawC l) (AH (Ad (Ae iD V) (Aa V)::Ad (Ae rowV R) (Aa R)::Ad (Ae iD W) (Aa W)::Af rawC (Ag (i+1) l))) (hd:=by simp(disch:=omega) only[AG,AX,AY,hg2])<|ve (True/\0<Aa (Ad (Ae iD W) (Aa W)::Af rawC (Ag (i+1) l)))<|vF ((Aa W:Int)>(12:Int))<|vK<|vAe<|zF<|zN (λ(k:Nat)=>fr 73 [(0,Ad (Af rawC l)<|Aa l),(3,iD i),(4,iD k)]) (λ(k:Nat)=>[]) (λk=>W.length-k) (λ(k:Nat)=>k<=W.length/\∀j,j<k->j<W.length->decide (0<=W.getD j 0/\W.getD j 0<=1000)=Ab) 0 ?_ ?_ ?_
   ·exact⟨by omega,λj h=>by omega⟩
   ·refine vk 0
   rintro k ⟨k1,k2⟩;rcases Av k W.length with k3|k3
   ·have hneW:(W.map λz=>iD z)≠[]:=zW;have hx:=zB0 W k k3;have hbw:¬(0<=W.getD k 0/\W.getD k 0<=1000)->fewR ⟨V,R,W⟩=false:=λhb=>by
     unfold fewR;rw[all_no (λw=>decide (0<=w/\w<=1000)) 0 W k k3 (decide_eq_false hb)];simp
    focus
     refine zB<|vAs<|vr 4 (ix ↑i ↑(Aa l) (Af rawC l≠[]))<|vs 43 (AH<|Ag (Ap (i:Int)*3)<|Af rawC l) (AH (Ad (Ae iD V) (Aa V)::Ad (Ae rowV R) (Aa R)::Ad (Ae iD W) (Aa W)::Af rawC (Ag (i+1) l))) (hd:=by simp(disch:=omega) only[AG,AX,AY,hg2])<|ve (True/\0<Aa (Ad (Ae iD W) (Aa W)::Af rawC (Ag (i+1) l)))<|vT ((k:Int)<↑(Aa W))<|vKB<|vA<|vr 3 (ix ↑i ↑(Aa l) (Af rawC l≠[]))<|vs 52 (AH<|Ag (Ap (i:Int)*3)<|Af rawC l) (AH (Ad (Ae iD V) (Aa V)::Ad (Ae rowV R) (Aa R)::Ad (Ae iD W) (Aa W)::Af rawC (Ag (i+1) l))) (hd:=by simp(disch:=omega) only[AG,AX,AY,hg2])<|vr 4 (True/\0<Aa (Ad (Ae iD W) (Aa W)::Af rawC (Ag (i+1) l))/\ix ↑k ↑(Aa W) (Ae iD W≠[]))<|vp 56 k (Ae iD W)<|vr 1 (0<Aa (Ag k<|Ae iD W))<|vsh 57 hx<|vrT 2<|vspD 59 (An W k (0:Int)<0) (λhc=>?_)<|λhc=>?_;refine veT<|vt<|vAe<|zG<|zJ<|zE<|zE<|zJ<|zJ<|zE<|zE<|zJ ?_;refine zE<|vre (True) (As<|BH Ac) (.inr rfl) ?_;rotate_left;refine vr 3 (ix ↑i ↑(Aa l) (Af rawC l≠[]))<|vs 62 (AH<|Ag (Ap (i:Int)*3)<|Af rawC l) (AH (Ad (Ae iD V) (Aa V)::Ad (Ae rowV R) (Aa R)::Ad (Ae iD W) (Aa W)::Af rawC (Ag (i+1) l))) (hd:=by simp(disch:=omega) only[AG,AX,AY,hg2])<|vr 4 (True/\0<Aa (Ad (Ae iD W) (Aa W)::Af rawC (Ag (i+1) l))/\ix ↑k ↑(Aa W) (Ae iD W≠[]))<|vp 66 k (Ae iD W)<|vr 1 (0<Aa (Ag k<|Ae iD W))<|vsh 67 hx<|veT<|vcD (An W k (0:Int)>(1000:Int)) (λhc=>?_)<|λhc=>?_;refine vAe<|zG<|zJ<|zE<|zE<|zJ<|zJ<|zE<|zE<|zJ<|zE<|vre (True) (As<|BH Ac) (.inr rfl) ?_;rotate_left;refine zM<|zD<|vN<|zA rfl<|vr 3 (i6 (↑k+1))<|vnil<|zC ?_;rotate_left
    ·rw[hno (hbw (by omega))]
    ·rw[hno (hbw (by omega))]
    refine⟨k+1,⟨by omega,λj hj hjl=>?_⟩,by omega,?_⟩
    ·rcases Av j k with h|h
     ·exact k2 j h hjl
     obtain rfl:j=k:=by omega
     exact decide_eq_true (by omega)
    refine vk 0
   have hw:=zEk (p:=λw:Int=>decide (0<=w/\w<=1000)) (d:=0) k3 k2;have hfr:fewR ⟨V,R,W⟩=true:=by
    unfold fewR;rw[hw];simp[b1,b2,b3]
   refine zB<|vAs<|vr 4 (ix ↑i ↑(Aa l) (Af rawC l≠[]))<|vs 43 (AH<|Ag (Ap (i:Int)*3)<|Af rawC l) (AH (Ad (Ae iD V) (Aa V)::Ad (Ae rowV R) (Aa R)::Ad (Ae iD W) (Aa W)::Af rawC (Ag (i+1) l))) (hd:=by simp(disch:=omega) only[AG,AX,AY,hg2])<|ve (True/\0<Aa (Ad (Ae iD W) (Aa W)::Af rawC (Ag (i+1) l)))<|vF ((k:Int)<↑(Aa W))<|vY2<|zD<|vN<|zA rfl<|vr 3 (i6 (↑i+1))<|vnil<|zC<|⟨i+1,⟨by omega,by omega,λj hj=>?_⟩,by omega,?_⟩
   ·rcases Av j i with h|h
    ·exact h2 j h
    obtain rfl:j=i:=by omega
    rw[hff];exact hfr
   refine vk 0
  have hfr:fewR ⟨V,R,W⟩=false:=by
   unfold fewR;rw[Co];intro k;simp only[Bn,decide_eq_true_eq]at k;exact hbad ⟨k.1,k.2.1,k.2.2.1⟩
  rw[hno hfr];focus
   refine zB<|vAs<|vew [] [(4,Ab)] (decide ((i:Int)<↑(Aa l))=Ab)<|vT ((i:Int)<(5:Int))<|vKB<|zB<|vA<|vr 3 (ix ↑i ↑(Aa l) (Af rawC l≠[]))<|vs 17 (AH<|Ag (Ap (i:Int)*3)<|Af rawC l) (AH (Ad (Ae iD V) (Aa V)::Ad (Ae rowV R) (Aa R)::Ad (Ae iD W) (Aa W)::Af rawC (Ag (i+1) l))) (hd:=by simp(disch:=omega) only[AG,AX,AY,hg2])<|vr 5 (True/\0<Aa (Ad (Ae rowV R) (Aa R)::Ad (Ae iD W) (Aa W)::Af rawC (Ag (i+1) l)))<|vspD 22 ((Aa R:Int)>(10:Int)) (λhc=>?_)<|λhc=>?_;refine veT<|vt<|vAe<|zG<|zE<|zJ<|zE<|zE<|zJ<|zE<|vret (True)<|.inr rfl;refine vr 3 (ix ↑i ↑(Aa l) (Af rawC l≠[]))<|vs 25 (AH<|Ag (Ap (i:Int)*3)<|Af rawC l) (AH (Ad (Ae iD V) (Aa V)::Ad (Ae rowV R) (Aa R)::Ad (Ae iD W) (Aa W)::Af rawC (Ag (i+1) l))) (hd:=by simp(disch:=omega) only[AG,AX,AY,hg2])<|vr 6 (True/\0<Aa (Ad (Ae iD V) (Aa V)::Ad (Ae rowV R) (Aa R)::Ad (Ae iD W) (Aa W)::Af rawC (Ag (i+1) l)))<|vspD 31 ((Aa V:Int)>(4:Int)) (λhc=>?_)<|λhc=>?_;refine veT<|vt<|vAe<|zG<|zE<|zJ<|zE<|zE<|zJ<|zE<|vret (True)<|.inr rfl;refine vr 3 (ix ↑i ↑(Aa l) (Af rawC l≠[]))<|vs 34 (AH<|Ag (Ap (i:Int)*3)<|Af rawC l) (AH (Ad (Ae iD V) (Aa V)::Ad (Ae rowV R) (Aa R)::Ad (Ae iD W) (Aa W)::Af rawC (Ag (i+1) l))) (hd:=by simp(disch:=omega) only[AG,AX,AY,hg2])<|ve (True/\0<Aa (Ad (Ae iD W) (Aa W)::Af rawC (Ag (i+1) l)))<|vT ((Aa W:Int)>(12:Int))<|vAe<|zG<|zE<|zJ<|zE<|zE<|zJ<|zE<|vret (True)<|.inr rfl
 rw[fewP_yes λj j5 jl=>h2 j (by omega)];have e4:decide ((l.length:Int)<=4)=decide (l.length<=4):=by rw[decide_eq_decide];omega
 focus
  refine zB<|vAs<|vrT 5<|vspD 9 ((i:Int)<↑(Aa l)) (λhc=>?_)<|λhc=>?_;refine veT<|vF ((i:Int)<(5:Int))<|vZ2<|vA<|vrT 3<|vs 72 (bD<|decide ((Aa l:Int)<=(4:Int))) (bD<|decide (Aa l<=4)) (hd:=by simp(disch:=omega) only[e4])<|veT<|zG<|vret (True)<|.inr rfl;refine veT<|vf<|vZ2<|vA<|vrT 3<|vs 72 (bD<|decide ((Aa l:Int)<=(4:Int))) (bD<|decide (Aa l<=4)) (hd:=by simp(disch:=omega) only[e4])<|veT<|zG<|vret (True)<|.inr rfl
theorem ixI_ge(V:List Int)(v:Int):0<=ixI V v↔v∈V:=by
 unfold ixI;split
 ·rename_i h;simp[h]
 rename_i h;simp[h]
set_option maxHeartbeats 4000000 in
theorem covered_c(n:Nat)(fs:List Rn)(hn:n<=1000)(hl:fs.length<=1000)(hs:∀f∈fs,f.V.length<=1000):Pure Ao 30 [iD (n:Nat), .row (fs.flatMap rwD) fs.length] [] (bD (covP n fs)):=by
 refine zH zDt mixed Tryz.func30 rfl<|vAu<|zB<|vAe<|zF<|zN (λ(v:Nat)=>fr 32 [(0,iD (n:Int)),(1,Ad (Af rwD fs)<|Aa fs),(5,iD (v:Int))]) (λ(v:Nat)=>[]) (λv=>n-v) (λ(v:Nat)=>v<=n/\∀j,j<v->(fs.any λf=>decide ((j:Int)∈f.V))=Ab) 0 ?_ ?_ ?_
 ·exact⟨by omega,λj h=>by omega⟩
 ·refine vk 0
 rintro v ⟨h1,h2⟩;rcases Av v n with h3|h3
 ·refine zB<|vAu<|vT ((v:Int)<(n:Int))<|vKB<|vAe<|zB<|vAe<|zF<|zN (λ(i:Nat)=>fr 32 [(0,iD (n:Int)),(1,Ad (Af rwD fs)<|Aa fs),(5,iD (v:Int)),(6,bD (List.any (Am i fs) λ(f:Rn)=>decide ((v:Int)∈Rn.V f))),(7,iD (i:Int))]) (λ(i:Nat)=>[]) (λi=>fs.length-i) (λ(i:Nat)=>i<=fs.length) 0 ?_ ?_ ?_
  ·omega
  ·refine vk 0
  rintro i k1;rcases Av i fs.length with k2|k2
  ·have hm:=zAx fs Ai i k2;have hg2:=zSu zK1 fs i k2;have hle:=zFp zK1 fs i k2;have hne:=zEi zK1 (by decide) fs;have hsf:=hs _ hm;have htk:((fs.take (i+1)).any λf=>decide ((v:Int)∈f.V))=(((fs.take i).any λf=>decide ((v:Int)∈f.V))||decide ((v:Int)∈(fs.getD i Ai).V)):=by
    rw[zBm fs i k2,List.any_append];simp
   generalize fs.getD i Ai=f at*;obtain⟨V,R,W⟩:=f;have hix:=rindex_c V _ v rfl (by simp only at hsf;omega);have hge:=ixI_ge V v;generalize ixI V v=x at*;generalize (fs.take i).any (λf=>decide ((v:Int)∈f.V))=b at*;focus
    refine zB<|vAu<|vT ((i:Int)<↑(Aa fs))<|vKB<|zA rfl<|vrT 2<|vsp 20 (b) (λhc=>?_)<|λhc=>?_;subst hc;refine vrT 10<|vnil<|zD<|vN<|zA rfl<|vr 3 (i6 (↑i+1))<|vnil<|zC ?_;rotate_left;subst hc;refine vr 3 (ix ↑i ↑(Aa fs) (Af rwD fs≠[]))<|vs 23 (AH<|Ag (Ap (i:Int)*3)<|Af rwD fs) (AH (Ad (Ae iD V) (Aa V)::Ad (Ae rowV R) (Aa R)::Ad (Ae iD<|natI W) (Aa<|natI W)::Af rwD (Ag (i+1) fs))) (hd:=by simp(disch:=omega) only[AG,AX,AY,hg2])<|vr 3 (True/\0<Aa (Ad (Ae iD V) (Aa V)::Ad (Ae rowV R) (Aa R)::Ad (Ae iD<|natI W) (Aa<|natI W)::Af rwD (Ag (i+1) fs)))<|vc hix<|vrT 3<|vnil<|zD<|vN<|zA rfl<|vr 3 (i6 (↑i+1))<|vnil<|zC ?_;rotate_left
   ·refine⟨i+1,by omega,by omega,?_⟩;rw[htk,Bool.true_or];refine vk 0
   have hge2:decide ((v:Int)∈V)=decide (x>=0):=decide_eq_decide.2 hge.symm;refine⟨i+1,by omega,by omega,?_⟩;rw[htk,Bool.false_or,hge2];refine vk 0
  rw [AK k2];focus
   refine zB<|vAu<|vF ((i:Int)<↑(Aa fs))<|vZ2<|vAe<|zAi (t:=!List.any fs λ(f:Rn)=>decide ((v:Int)∈Rn.V f)) (by kernel_rfl) (λhc=>?_)<|λhc=>?_;simp only[BN]at hc;refine vAe<|zG<|zJ<|zE<|zE<|zJ<|zE<|vre (True) (As<|BH Ac) (.inr rfl) ?_;rotate_left;simp only[B9]at hc;refine zM<|zD<|vN<|zA rfl<|vr 3 (i6 (↑v+1))<|vnil<|zC ?_;rotate_left
  ·rw[show covP n fs=Ac from zT1 h3 (by simpa using hc)]
  refine⟨v+1,⟨by omega,λj hj=>?_⟩,by omega,?_⟩
  ·rcases Av j v with h|h
   ·exact h2 j h
   obtain rfl:j=v:=by omega
   simpa using hc
  refine vk 0
 refine zB<|vAu<|vF ((v:Int)<(n:Int))<|vZ2<|vAe<|zG<|vre (True) (As<|BH Ab) (.inr rfl) ?_;rw[show covP n fs=Ab from zGh λj hj=>h2 j (by omega)]
end
section
open Go.RowKit
def ddp:List Va->List Va
 |[]=>[]
 |a::l=>if a∈ddp l then ddp l else a::ddp l
theorem zPf:∀{l:List Va}{a:Va},a∈ddp l↔a∈l
 |[],a=>by simp[ddp]
 | b::l,a=>by
  rw[ddp];split
  ·rename_i h;rw[zPf,Ba];constructor
   ·exact .inr
   rintro(rfl|h2)
   ·exact zPf.1 h
   exact h2
  rw[Ba,Ba,zPf]
theorem zDi:∀l:List Va,(ddp l).Nodup
 |[]=>by simp[ddp]
 |b::l=>by
  rw[ddp];split
  ·exact zDi l
  rename_i h;exact List.nodup_cons.2 ⟨h,zDi l⟩
def domP(fs:List Rn):List Va:=ddp (fs.flatMap λf=>f.R.flatten)
theorem domP_mem{fs:List Rn}{f:Rn}(hf:f∈fs){x:Rw}(hx:x∈f.R){a:Va}(ha:a∈x):a∈domP fs:=
 zPf.2 (List.mem_flatMap.2 ⟨f,hf,List.mem_flatten.2 ⟨x,hx,ha⟩⟩)
theorem domP_ok{fs:List Rn}(hv:∀f∈fs,∀x∈f.R,∀a∈x,Vi a)(hk:∀f∈fs,∀x∈f.R,x.all vok=Ab):Okv (domP fs):=λa ha=>by
 obtain⟨f,hf,h1⟩:=List.mem_flatMap.1 (zPf.1 ha);obtain⟨x,hx,h2⟩:=List.mem_flatten.1 h1;have h3:=hv f hf x hx a h2;have h4:=A3.1 (hk f hf x hx) a h2;refine⟨h4,?_⟩;obtain⟨k1,k2,k3⟩:=h3;simp only[inK]at k1 k2;refine⟨⟨k1.1,k1.2⟩,⟨k2.1,k2.2⟩,?_⟩;unfold vok at h4;split at h4
 ·have:a.str=[]:=by simpa using h4
  rw[this];simp
 split at h4
 ·simp only[Bn,decide_eq_true_eq]at h4;omega
 cases h4
def toFa(f:Rn):Fa Nat:=⟨f.V.map Ap,f.R.zip f.W⟩
theorem zip_fst(R:List Rw)(W:List Nat)(h:R.length=W.length):(R.zip W).map (·.1)=R:=List.map_fst_zip (by omega)
theorem zip_snd(R:List Rw)(W:List Nat)(h:R.length=W.length):(R.zip W).map (·.2)=W:=List.map_snd_zip (by omega)
structure Tofa(Dm:List Va)(f:Rn):Prop where
 c:rnC f=faAc (toFa f)
 w:rwD f=rfAc (toFa f)
 ok:FOk rcmp Dm (toFa f)
 r:rz (toFa f)<=11
 v:vz (toFa f)<=10001
 A:f.V=intL (toFa f).A
theorem sum_le_len{l:List Nat}{b:Nat}(h:∀w∈l,w<=b):l.sum<=l.length*b:=by
 induction l with
 |nil=>simp
 |cons a l ih=>
  have h1:=h a (Bl ..);have h2:=ih λw hw=>h w (Bj _ hw);rw[Cr,A5,Nat.succ_mul];omega
theorem tofa{n:Int}{Dm:List Va}{f:Rn}(hn:n<=32)(h:chkR n f=0)(hs:Rsm f)(hd:∀x∈f.R,∀a∈x,a∈Dm):Tofa Dm f:=by
 obtain⟨V,R,W⟩:=f;obtain⟨A,hA,hfit⟩:=zCl h;have hA:V=intL A:=hA;subst hA;have eA:((intL A).map λz=>iD z)=nsD A:=by simp[intL]
 have hm:R.length=W.length:=hfit.m;have z1:=zip_fst R W hm;have z2:=zip_snd R W hm;have zl:(R.zip W).length=R.length:=by rw[<-z1,Ay,z1]
 have tA:(intL A).map Ap=A:=zB5 A;have et:toFa ⟨intL A,R,W⟩=⟨A,R.zip W⟩:=by unfold toFa;simp only[tA]
 have hR:R.length<=10:=hs.r;refine⟨?_,?_,?_,?_,?_,?_⟩
 ·rw[et];show[Ad ((intL A).map λz=>iD z) (intL A).length, .row (R.map rowV) R.length, .row (W.map natD) W.length]=[.row (nsD A) A.length, .row (((R.zip W).map (·.1)).map rowV) (R.zip W).length, .row (((R.zip W).map (·.2)).map natD) (R.zip W).length];rw[eA,z1,z2,zl,Ay,hm]
 ·rw[et];show[Ad ((intL A).map λz=>iD z) (intL A).length, .row (R.map rowV) R.length, .row ((natI W).map λz=>iD z) (natI W).length]=[.row (nsD A) A.length, .row (((R.zip W).map (·.1)).map rowV) (R.zip W).length, .row (nsD ((R.zip W).map (·.2))) (R.zip W).length];rw[eA,zK6,z1,z2,zl,Ay,Ay,hm]
 ·rw[et];have hmem:∀p∈R.zip W,p.1∈R:=λp hp=>by rw[<-z1];exact AD.2 ⟨p,hp,rfl⟩
  refine⟨⟨hfit.asc,λv hv=>by have:=hfit.lt v hv;omega⟩,λp hp=>hfit.len p.1 (hmem p hp),?_,λp hp a ha=>hd p.1 (hmem p hp) a ha⟩
  have:=hfit.srt
  rw[<-z1]at this;exact List.pairwise_map.1 this
 ·rw[et];unfold rz;simp only[zl];omega
 ·rw[et];unfold vz;simp only[z2];have h1:=sum_le_len (l:=W) (b:=1000) hs.b;omega
 rw[et]
theorem zHn{n:Int}{fs:List Rn}(hn:n<=32)(h:errL n fs=0)(hs:∀f∈fs,Rsm f):∀f∈fs,Tofa (domP fs) f:=λf hf=>
 tofa hn (zCn h f hf) (hs f hf) λx hx a ha=>domP_mem hf hx ha
theorem zS0{n:Int}{fs:List Rn}(h:errL n fs=0)(hv:∀f∈fs,∀x∈f.R,∀a∈x,Vi a):Okv (domP fs):=
 domP_ok hv λf hf x hx=>by
  obtain⟨A,hA,hfit⟩:=zCl (zCn h f hf);exact hfit.vok x hx
theorem flat_c{Dm:List Va}:∀{fs:List Rn},(∀f∈fs,Tofa Dm f)->fs.flatMap rnC=(fs.map toFa).flatMap faAc/\fs.flatMap rwD=(fs.map toFa).flatMap rfAc
 |[],_=>⟨rfl,rfl⟩
 |f::fs,h=>by
  obtain⟨h1,h2⟩:=flat_c λg hg=>h g (Bj _ hg);have h3:=h f (Bl ..);constructor
  ·rw[Bv,h1,h3.c];rfl
  rw[Bv,h2,h3.w];rfl
theorem pz_le{α:Type}{z:α->Nat}{b:Nat}:∀{l:List α},(∀a∈l,z a<=b)->pz z l<=b^l.length
 |[],_=>by simp[pz]
 |a::l,h=>by
  rw[zCi,A5,Nat.pow_succ,Nat.mul_comm];exact Nat.mul_le_mul (pz_le λc hc=>h c (Bj _ hc)) (h a (Bl ..))
theorem sizes{Dm:List Va}{fs:List Rn}(hl:fs.length<=4)(h:∀f∈fs,Tofa Dm f):2*pz rz (fs.map toFa)<=900000/\2*pz vz (fs.map toFa)<=4000000000000000000:=by
 have h1:=pz_le (z:=rz) (b:=11) (l:=fs.map toFa) λa ha=>by
  obtain⟨f,hf,rfl⟩:=AD.1 ha;exact(h f hf).r
 have h2:=pz_le (z:=vz) (b:=10001) (l:=fs.map toFa) λa ha=>by
  obtain⟨f,hf,rfl⟩:=AD.1 ha;exact(h f hf).v
 rw[Ay]at h1 h2;have h3:11^fs.length<=11^4:=Br (by omega) hl;have h4:10001^fs.length<=10001^4:=Br (by omega) hl;have e1:11^4=14641:=by decide
 have e2:10001^4=10004000600040001:=by decide
 omega
theorem zWl{Dm:List Va}{n:Nat}{fs:List Rn}(hc:covP n fs=Ab)(h:∀f∈fs,Tofa Dm f):∀v,v<n->∃f∈fs.map toFa,v∈f.A:=λv hv=>by
 unfold covP at hc;rw[A3]at hc
 have:=hc v (by simpa using hv)
 rw[Cs]at this;obtain⟨f,h1,h2⟩:=this;refine⟨toFa f,AD.2 ⟨f,h1,rfl⟩,?_⟩;rw[(h f h1).A]at h2;exact zFj.1 (by simpa using h2)
abbrev atA(f:Rn):List Nat×List Rw:=(f.V.map Ap,f.R)
def rn1(f:Rn):Rn:=⟨f.V,f.R,AI f.R.length 1⟩
theorem kv_ones:∀(R:List Rw)(r:Rw),kv (R.zip (AI R.length 1)) r=if r∈R then Ar 1 else Au
 |[],r=>by simp[kv]
 | x ::R,r=>by
  have ih:=kv_ones R r;rw[A5,List.replicate_succ,List.zip_cons_cons];show(if x=r then Ar 1 else kv (R.zip (AI R.length 1)) r)=_;by_cases h:x=r
  ·rw[if_pos h,if_pos (by rw[h];exact Bl ..)]
  rw[if_neg h,ih];by_cases h2:r∈R
  ·rw[if_pos h2,if_pos (Bj _ h2)]
  rw[if_neg h2,if_neg (λk=>by
   rcases Ba.1 k with k|k
   ·exact h k.symm
   exact h2 k)]
theorem zVc(σ:Nat->Va):∀fs:List Rn,proF Sn ((fs.map rn1).map toFa) σ=if∀f∈fs,(f.V.map Ap).map σ∈f.R then Ar 1 else Au
 |[]=>by
  rw[if_pos (λf h=>by cases h)];rfl
 | f ::fs=>by
  have ih:=zVc σ fs;show omul Sn.mul (kv (f.R.zip (AI f.R.length 1)) ((f.V.map Ap).map σ)) (proF Sn ((fs.map rn1).map toFa) σ)=_;rw[ih,kv_ones];by_cases h1:(f.V.map Ap).map σ∈f.R
  ·rw[if_pos h1];by_cases h2:∀f∈fs,(f.V.map Ap).map σ∈f.R
   ·rw[if_pos h2,if_pos (λg hg=>by
     rcases Ba.1 hg with rfl|hg
     ·exact h1
     exact h2 g hg)];rfl
   rw[if_neg h2,if_neg (λk=>h2 λg hg=>k g (Bj _ hg))];rfl
  rw[if_neg h1,show∀x,omul Sn.mul (Au:Option Nat) x=Au from λx=>rfl,if_neg (λk=>h1 (k f (Bl ..)))]
theorem zZh:∀l:List (Rw×Nat),(∀p∈l,p.2=1)->(l.map (·.2)).sum=l.length
 |[],_=>rfl
 |p::l,h=>by
  rw[B_,Cr,zZh l λq hq=>h q (Bj _ hq),h p (Bl ..),A5];omega
theorem refS_vsum(vs:List Nat):∀f:Fa Nat,((refS rcmp Sn f vs).l.map (·.2)).sum=(f.l.map (·.2)).sum:=by
 induction vs with
 |nil=>exact λf=>rfl
 |cons v vs ih=>
  intro f;show((refS rcmp Sn (fsum rcmp Sn v f) vs).l.map (·.2)).sum=_;rw[ih,zV5]
theorem one_row{Dm:List Va}{m:Fa Nat}(h:FOk rcmp Dm m)(hA:m.A=[]):(m.l.map (·.2)).headD 0=(m.l.map (·.2)).sum:=by
 have hk:=h;match hm:m.l with
 |[]=>rfl
 |[a]=>simp
 |a::b::l=>
  have ha:=hk.len a (by rw[hm];simp);have hb:=hk.len b (by rw[hm];simp);have hs:=hk.srt;rw[hm]at hs
  have:=(List.pairwise_cons.1 hs).1 b (by simp)
  rw[hA]at ha hb;have e1:=Ct.1 ha;have e2:=Ct.1 hb;rw[e1,e2]at this;exact absurd this (rcw.irr [])
theorem zPb{n:Int}:∀{fs:List Rn},errL n fs=0->errL n (fs.map rn1)=0
 |[],_=>rfl
 | f::fs,h=>by
  have h3:=zCn h f (Bl ..);obtain⟨A,hA,hfit⟩:=zCl h3;have hm:=hfit.m;have h4:chkR n (rn1 f)=0:=by
   unfold chkR rn1;show chk n f.V f.R (AI f.R.length 1).length=0;rw[Ca,hm];exact h3
  have h5:errL n fs=0:=by
   rw[errL,if_neg (by rw[h3];exact λk=>k rfl)]at h;exact h
  show(if chkR n (rn1 f)≠0 then _ else errL n (fs.map rn1))=0;rw[if_neg (by rw[h4];exact λk=>k rfl)];exact zPb h5
theorem zFx{fs:List Rn}(hs:∀f∈fs,Rsm f):∀f∈fs.map rn1,Rsm f:=λf hf=>by
 obtain⟨g,hg,rfl⟩:=AD.1 hf;have h:=hs g hg;refine⟨h.v,h.r,?_,λw hw=>?_⟩
 ·show(AI g.R.length 1).length<=_;rw[Ca];have:=h.r;omega
 rw[List.eq_of_mem_replicate hw];omega
theorem zHr{n:Nat}{fs:List Rn}(hn:n<=8)(h1:errL n fs=0)(h2:covP n fs=Ab):zFu n 0 (fs.map rn1)=0/\covP n (fs.map rn1)=true:=by
 have e:covP n (fs.map rn1)=covP n fs:=by
  unfold covP;congr 1;funext v;rw[List.any_map];rfl
 rw[h2]at e;refine⟨?_,e⟩;unfold zFu;rw[if_neg (by rw[AG,Nat.zero_shiftRight];omega),if_neg (by rw[zPb h1];exact λk=>k rfl),AG,if_pos e]
section
variable {n : Nat} {fs : List Rn} (hn : n ≤ 8) (hl : fs.length ≤ 4) (hs : ∀ f ∈ fs, Rsm f) (h1 : errL n fs = 0) (h2 : covP n fs = true)
include hn hl hs h1 h2
theorem atoms_ok:AOk (mkC n (fs.map atA)) where
 n:=by show n<=32;omega
 na:=by show(fs.map atA).length<=1000;rw[Ay];omega
 p:=by show 1<=50000;omega
 v :=by
  have hg:∀a,a<(fs.map atA).length->∃f∈fs,(mkC n (fs.map atA)).vs a=f.V.map Ap:=λa ha=>by
   rw[Ay]at ha
   refine⟨fs[a],A9 ha,?_⟩
   show((fs.map atA).getD a Ai).1=_
   rw[AE,By,AM ha];rfl
  refine⟨λa ha=>?_,λa ha w hw=>?_,λv hv=>?_⟩
  ·obtain⟨f,hf,e⟩:=hg a ha
   obtain⟨A,hA,hfit⟩:=zCl (zCn h1 f hf)
   have e2:f.V.map Ap=A:=by rw[hA];exact zB5 A
   rw[e,e2];exact hfit.asc
  ·obtain⟨f,hf,e⟩:=hg a ha
   obtain⟨A,hA,hfit⟩:=zCl (zCn h1 f hf)
   have e2:f.V.map Ap=A:=by rw[hA];exact zB5 A
   rw[e,e2]at hw
   have:=hfit.lt w hw
   show w<n
   omega
  unfold covP at h2
  have h3:=A3.1 h2 v (BP.2 hv)
  obtain⟨f,hf,h4⟩:=Cs.1 h3
  have h4:=of_decide_eq_true h4
  obtain⟨a,ha,rfl⟩:=Cu hf
  refine⟨a,by show a<(fs.map atA).length;rwa[Ay],?_⟩
  show v∈((fs.map atA).getD a Ai).1
  rw[AE,By,AM ha]
  exact AD.2 ⟨_,h4,AG v⟩
 r:=λa ha=>by
  obtain⟨f,hf,rfl⟩:=AD.1 ha
  obtain⟨A,hA,hfit⟩:=zCl (zCn h1 f hf)
  have e2:f.V.map Ap=A:=by rw[hA];exact zB5 A
  refine⟨by have:=(hs f hf).r;show f.R.length<=_;omega,λr hr=>?_,hfit.srt⟩
  show r.length=(f.V.map Ap).length
  rw[e2];exact hfit.len r hr
theorem zKx:((zGp popN rcmp Sn ((fs.map rn1).map toFa) ((AA n).filter λv=>!(0:Nat).testBit v)).l.map (·.2)).headD 0=(jn (mkC n (fs.map atA))).length:=by
 have hE:=zPb h1;have hS:=zFx hs;obtain⟨hW,hC⟩:=zHr hn h1 h2;have ht:=zHn (by omega) hE hS;have hcv:=zWl hC ht;have hok:∀g∈(fs.map rn1).map toFa,FOk rcmp (domP (fs.map rn1)) g:=λg hg=>by
  obtain⟨f,hf,rfl⟩:=AD.1 hg;exact(ht f hf).ok
 have hlt:∀g∈(fs.map rn1).map toFa,∀v∈g.A,v<n:=λg hg v hgv=>by
  obtain⟨f,hf,rfl⟩:=AD.1 hg;obtain⟨A,hA,hfit⟩:=zCl (zCn hE f hf);have e:=(ht f hf).A;have:(v:Int)∈f.V:=by rw[e];exact zFj.2 hgv
  rw[hA]at this
  have:=hfit.lt v (zFj.1 this)
  omega
 have hEn:((AA n).filter λv=>!(0:Nat).testBit v).Nodup:=Cv.filter _;have hEm:∀v,v∈(AA n).filter (λv=>!(0:Nat).testBit v)↔v<n:=λv=>by simp
 have hEc:∀v∈(AA n).filter (λv=>!(0:Nat).testBit v),∃f∈(fs.map rn1).map toFa,v∈f.A:=λv h=>hcv v ((hEm v).1 h);rw[zSf (pop:=popN) (S:=Sn) rcw (zDi _) hEn (.refl _) hok hEc];have hP:=zR2 (S:=Sn) rcw ((fs.map rn1).map toFa) (zCb Sn) zGd hok;have hPA:∀v,v∈(refP rcmp Sn (zCb Sn) ((fs.map rn1).map toFa)).A↔v<n:=λv=>by
  rw[refP_A (c:=rcmp) (S:=Sn) _ (zCb Sn) (by simp[zCb]) (λf h=>(hok f h).asc.2)];constructor
  ·rintro(h|⟨f,hf,h⟩)
   ·simp[zCb]at h
   exact hlt f hf v h
  exact λh=> .inr (hcv v h)
 have hPd:=λσ=>zR3 (S:=Sn) rcw σ ((fs.map rn1).map toFa) (zCb Sn) zGd hok;have hm:=zR1 (S:=Sn) rcw ((AA n).filter λv=>!(0:Nat).testBit v) _ hP;have hmA:=refS_A (c:=rcmp) (S:=Sn) ((AA n).filter λv=>!(0:Nat).testBit v) (refP rcmp Sn (zCb Sn) ((fs.map rn1).map toFa));have hmz:(refS rcmp Sn (refP rcmp Sn (zCb Sn) ((fs.map rn1).map toFa)) ((AA n).filter λv=>!(0:Nat).testBit v)).A=[]:=by
  rw[List.eq_nil_iff_forall_not_mem];intro w hw;obtain⟨h3,h4⟩:=(hmA w).1 hw;exact h4 ((hEm w).2 ((hPA w).1 h3))
 rw[one_row hm hmz,refS_vsum];clear hm hmA hmz;generalize refP rcmp Sn (zCb Sn) ((fs.map rn1).map toFa)=P at*;have ePA:P.A=AA n:=Asc.ext hP.asc ⟨Cm,λv hv=>by have:=BP.1 hv;omega⟩ λv=>by rw[hPA,BP]
 have hrow:∀y:Rw,y.length=n->kv P.l y=if∀f∈fs,(f.V.map Ap).map (λv=>y.getD v Ai)∈f.R then Ar 1 else none:=λy hy=>by
  have h3:=hPd λv=>y.getD v Ai;rw[zVc]at h3;unfold den at h3;rw[ePA]at h3;have e:(AA n).map (λv=>y.getD v Ai)=y:=by
   apply List.ext_getElem (by simp[hy]);intro i h4 h5;simp[AM h5]
  rw[e]at h3;rw[h3];show omul Sn.mul (Ar 1) _=_;split
  ·rfl
  rfl
 have hnd:=hP.ndk rcw;have hone:∀p∈P.l,p.1.length=n/\p.2=1/\∀f∈fs,(f.V.map Ap).map (λv=>p.1.getD v Ai)∈f.R:=λp hp=>by
  have h3:=hP.len p hp;rw[ePA,List.length_range]at h3;have h4:=(zE2 hnd (r:=p.1) (u:=p.2)).2 hp;rw[hrow p.1 h3]at h4;split at h4
  ·rename_i h5;exact⟨h3,(Option.some.inj h4).symm,h5⟩
  cases h4
 rw[zZh _ λp hp=>(hone p hp).2.1];obtain⟨j1,j2⟩:=jn_spec (atoms_ok hn hl hs h1 h2);have hjn:(jn (mkC n (fs.map atA))).Nodup:=j1.imp λh e=>by rw[e]at h;exact rcw.irr _ h
 rw[<-Ay (f:=λp:Rw×Nat=>p.1)];refine List.Perm.length_eq ((List.perm_ext_iff_of_nodup hnd hjn).2 λy=>?_);have hat:∀(f:Rn)(y:Rw)(a:Nat)(h:a<fs.length),fs[a]=f->prj (mkC n (fs.map atA)).vs a 0 y=(f.V.map Ap).map (λv=>y.getD v Ai)/\((mkC n (fs.map atA)).A.getD a Ai).2=f.R:=λf y a h e=>by
  have e2:(fs.map atA).getD a Ai=atA f:=by
   rw[AE,By,AM h,e];rfl
  constructor
  ·unfold prj;show(((fs.map atA).getD a Ai).1.filter _).map _=_;rw[e2,List.filter_eq_self.2 λw _=>decide_eq_true (Bt w)]
  show((fs.map atA).getD a Ai).2=_;rw[e2]
 rw[j2];constructor
 ·intro hy;obtain⟨p,hp,rfl⟩:=AD.1 hy;obtain⟨h3,h4,h5⟩:=hone p hp;refine⟨h3,λa ha=>?_⟩;have ha:a<fs.length:=by have ha:a<(fs.map atA).length:=ha;rwa[Ay]at ha
  obtain⟨e1,e2⟩:=hat fs[a] p.1 a ha rfl;rw[e1,e2];exact h5 _ (A9 ha)
 rintro⟨h3,h4⟩;have h3:y.length=n:=h3;have h5:=hrow y h3;rw[if_pos (λf hf=>by
  obtain⟨a,ha,e⟩:=Cu hf;obtain⟨e1,e2⟩:=hat f y a ha e;have h6:=h4 a (by show a<(fs.map atA).length;rwa[Ay]);rwa[e1,e2]at h6)]at h5
 exact AD.2 ⟨_,(zE2 hnd).1 h5,rfl⟩
end
structure Hm{α β:Type}(S:Sr α)(S':Sr β)(g:α->β):Prop where
 add:∀a b,g (S.add a b)=S'.add (g a) (g b)
 mul:∀a b,g (S.mul a b)=S'.mul (g a) (g b)
 one:g S.one=S'.one
section
variable {α β : Type} (g : α → β)
def mpL(l:List (Rw×α)):List (Rw×β):=l.map λp=>(p.1,g p.2)
def Fa.mp(f:Fa α):Fa β:=⟨f.A,mpL g f.l⟩
variable {c : Rw → Rw → Int} {S : Sr α} {S' : Sr β} {g}
theorem putP_mp{f:α->α->α}{f':β->β->β}(h:∀a b,g (f a b)=f' (g a) (g b))(r:Rw)(v:α):∀l,mpL g (putP c f r v l)=putP c f' r (g v) (mpL g l)
 |[]=>rfl
 | (s,u)::l=>by
  have ih:=putP_mp h r v l;show mpL g (if c s r<0 then(s,u)::putP c f r v l else if s=r then(s,f u v)::l else(r,v)::(s,u)::l)=if c s r<0 then(s,g u)::putP c f' r (g v) (mpL g l)else if s=r then(s,f' (g u) (g v))::mpL g l else(r,g v)::(s,g u)::mpL g l
  split
  ·rw[<-ih];rfl
  split
  ·rw[<-h];rfl
  rfl
theorem acc_mp{f:α->α->α}{f':β->β->β}(h:∀a b,g (f a b)=f' (g a) (g b)):∀L l,mpL g (acc c f l L)=acc c f' (mpL g l) (mpL g L)
 |[],l=>rfl
 |p::L,l=>by
  show mpL g (acc c f (putP c f p.1 p.2 l) L)=acc c f' (putP c f' p.1 (g p.2) (mpL g l)) (mpL g L);rw[acc_mp h L,putP_mp h]
theorem zZ7{f:α->α->α}{f':β->β->β}(h:∀a b,g (f a b)=f' (g a) (g b))(A B:List Nat)(lb:List (Rw×α)):∀la,mpL g (zCa f A la B lb)=zCa f' A (mpL g la) B (mpL g lb)
 |[]=>rfl
 |p::la=>by
  have ih:=zZ7 h A B lb la;unfold zCa at ih⊢;rw[show mpL g (p::la)=(p.1,g p.2)::mpL g la from rfl,Bv,Bv,<-ih];unfold mpL;rw[BF,Cb,A8,A8];congr 1;refine BG λq _=>?_;show(_,g (f p.2 q.2))=(_,f' (g p.2) (g q.2));rw[h]
theorem okO_mp(U:List Nat)(s:Rw)(o:Fa α):okO U s (o.mp g)=okO U s o:=by
 unfold okO Fa.mp mpL;rw[List.any_map];rfl
theorem fmul_mp(h:Hm S S' g)(f k:Fa α)(os:List (Fa α)):(fmul c S f k os).mp g=fmul c S' (f.mp g) (k.mp g) (os.map (Fa.mp g)):=by
 unfold fmul;show Bq _ (mpL g _)=Bq _ _;refine congrArg (Bq _) ?_;rw[acc_mp h.add];refine congrArg (acc c S'.add []) ?_;show Ae _ (List.filter _ _)=List.filter _ (zCa S'.mul f.A (mpL g f.l) k.A (mpL g k.l));rw[<-zZ7 h.mul];unfold mpL;rw[Cb];refine congrArg (Ae _) (Cc λp _=>?_);show(os.all λo=>okO (un f.A k.A) p.1 o)=((os.map (Fa.mp g)).all λo=>okO (un f.A k.A) p.1 o);rw[List.all_map];congr 1;funext o;exact(okO_mp _ _ _).symm
theorem fsum_mp(h:Hm S S' g)(v:Nat)(f:Fa α):(fsum c S v f).mp g=fsum c S' v (f.mp g):=by
 unfold fsum;show Bq _ (mpL g _)=Bq _ _;refine congrArg (Bq _) ?_;rw[acc_mp h.add];refine congrArg (acc c S'.add []) ?_;show Ae _ (zJc f.A v f.l)=zJc f.A v (mpL g f.l);unfold zJc mpL;rw[A8,A8];rfl
theorem zS2(h:Hm S S' g):∀(fs:List (Fa α))(p:Fa α)(os:List (Fa α)),(zCd c S p fs os).mp g=zCd c S' (p.mp g) (fs.map (Fa.mp g)) (os.map (Fa.mp g))
 |[],p,os=>rfl
 |f::fs,p,os=>by
  rw[zCd,zS2 h fs,fmul_mp h,BF];rfl
theorem with_mp(v:Nat)(fs:List (Fa α)):zDx v (fs.map (Fa.mp g))=(zDx v fs).map (Fa.mp g)/\zDy v (fs.map (Fa.mp g))=(zDy v fs).map (Fa.mp g):=by
 unfold zDx zDy;rw[Cb,Cb];exact⟨rfl,rfl⟩
theorem elim_mp(h:Hm S S' g)(v:Nat)(fs:List (Fa α)):(elim c S v fs).map (Fa.mp g)=elim c S' v (fs.map (Fa.mp g)):=by
 obtain⟨h1,h2⟩:=with_mp (g:=g) v fs;unfold elim;rw[h1,h2];cases zDx v fs with
 |nil=>rfl
 |cons p ws=>
  show Ae (Fa.mp g) (_++[_])=_++[_];rw[BF,B_,List.map_nil,fsum_mp h,zS2 h]
theorem cost_mp(pop:Nat->Nat)(fs:List (Fa α))(v:Nat):zGv pop (fs.map (Fa.mp g)) v=zGv pop fs v:=by
 have e1:uniM v (fs.map (Fa.mp g))=uniM v fs:=List.foldl_map;have e2:bigL v (fs.map (Fa.mp g))=bigL v fs:=List.foldl_map;unfold zGv;rw[e1,e2]
theorem cheap_mp(pop:Nat->Nat)(fs:List (Fa α))(E:List Nat):zA9 pop (fs.map (Fa.mp g)) E=zA9 pop fs E:=by
 have e:zEd pop (fs.map (Fa.mp g))=zEd pop fs:=by
  funext s v;unfold zEd;rw[cost_mp]
 unfold zA9;rw[e]
theorem margL_mp(pop:Nat->Nat)(h:Hm S S' g):∀(n:Nat)(fs:List (Fa α))(E:List Nat),(zD8 pop c S n fs E).map (Fa.mp g)=zD8 pop c S' n (fs.map (Fa.mp g)) E
 |0,fs,E=>rfl
 |n+1,fs,E=>by
  rw[zD8,margL_mp pop h n,elim_mp h,zD8,cheap_mp]
theorem margP_mp(pop:Nat->Nat)(h:Hm S S' g)(fs:List (Fa α))(E:List Nat):(zGp pop c S fs E).mp g=zGp pop c S' (fs.map (Fa.mp g)) E:=by
 unfold zGp;rw[zS2 h,margL_mp pop h];have:(zCb S).mp g=zCb S':=by
  show Bq _ [(_,g S.one)]=_;rw[h.one];rfl
 rw[this];rfl
theorem mp_head(f:Fa α)(z:α):(((f.mp g).l.map (·.2)).headD (g z))=g ((f.l.map (·.2)).headD z):=by
 obtain⟨A,l⟩:=f;cases l<;>rfl
end
def omin:Option Nat->Option Nat->Option Nat
 |none,y=>y
 |some x,Au=>Ar x
 |some x,Ar y=>Ar (min x y)
def oplus:Option Nat->Option Nat->Option Nat
 |some x,Ar y=>Ar (x+y)
 |_,_=>Au
def Sk:Sr (Option Nat):=⟨omin,oplus,Ar 0,
 λa=>by cases a<;>simp[oplus],
 λa b=>by cases a<;>cases b<;>simp[omin,Nat.min_comm],
 λa b d=>by cases a<;>cases b<;>cases d<;>simp[omin,Nat.min_assoc],
 λa b=>by cases a<;>cases b<;>simp[oplus,Nat.add_comm],
 λa b d=>by cases a<;>cases b<;>cases d<;>simp[oplus,Nat.add_assoc],
 λa b d=>by cases a<;>cases b<;>cases d<;>simp[oplus,omin,Nat.add_min_add_left]⟩
def Sr.prod{α β:Type}(S:Sr α)(T:Sr β):Sr (α×β):=⟨λa b=>(S.add a.1 b.1,T.add a.2 b.2),λa b=>(S.mul a.1 b.1,T.mul a.2 b.2),(S.one,T.one),
 λa=>by simp[S.om,T.om],λa b=>by simp[S.ac a.1 b.1,T.ac a.2 b.2],λa b d=>by simp[S.aa,T.aa],λa b=>by simp[S.mc a.1 b.1,T.mc a.2 b.2],λa b d=>by simp[S.ma,T.ma],λa b d=>by simp[S.dl,T.dl]⟩
def Sp:Sr (Nat×Option Nat):=Sr.prod Sn Sk
theorem hm1:Hm Sp Sn Bs:=⟨λ_ _=>rfl,λ_ _=>rfl,rfl⟩
theorem hm2:Hm Sp Sk Prod.snd:=⟨λ_ _=>rfl,λ_ _=>rfl,rfl⟩
def sk(f:Fa (Option Nat)):Nat:=(f.l.map λp=>p.2.getD 0).foldr max 0
section
variable {c : Rw → Rw → Int}
def kz(f:Fa (Option Nat)):Nat:=2^sk f
def qz(f:Fa (Nat×Option Nat)):Nat:=vz (f.mp Bs)*kz (f.mp Prod.snd)
end
@[irreducible] def Ez:Nat:=30000
theorem Ez_eq:Ez=30000:=by unfold Ez;rfl
def Bz:Nat:=2^Ez
end
section
open Go.RowKit
attribute [local irreducible] seqW awp zAa zAb zR Weak updS zAd retL Pure Acts rP setP setQ cP nP fr
set_option maxRecDepth 4096
def okC(x:Option Nat):Prop:=Sm (x.getD 0)
def okP(p:Nat×Option Nat):Prop:=Sm p.1/\okC p.2
end
section
open Go.RowKit
set_option maxRecDepth 4096
abbrev FnK:Type:=List Nat×List (Rw×(Option Nat))
section
variable (A B : List Nat) (lb : List (Rw × (Option Nat))) (ok : Rw → Bool)
variable {A B lb ok}
end
end
section
open Go.RowKit
attribute [local irreducible] seqW awp zAa zAb zR Weak updS zAd retL Pure Acts rP setP setQ cP nP fr
set_option maxRecDepth 4096
structure FVK(f:FnK):Prop where
 asc:Asc f.1
 len:∀p∈f.2,p.1.length=f.1.length
 vs:∀p∈f.2,∀x∈p.1,Vs x
 sz:f.2.length<=1000000
 sm:∀p∈f.2,okC p.2
 nd:Ndk f.2
end
section
open Go.RowKit
set_option maxRecDepth 4096
structure GofK(Dm:List Va)(f:Fa (Option Nat)):Prop where
 ok:FOk rcmp Dm f
 r:rz f<=900000
 v:kz f<=Bz
section
variable {Dm : List Va} (hD : Okv Dm)
end
abbrev FnP:Type:=List Nat×List (Rw×(Nat×Option Nat))
section
variable (A B : List Nat) (lb : List (Rw × (Nat × Option Nat))) (ok : Rw → Bool)
variable {A B lb ok}
end
end
section
open Go.RowKit
attribute [local irreducible] seqW awp zAa zAb zR Weak updS zAd retL Pure Acts rP setP setQ cP nP fr
set_option maxRecDepth 4096
structure FVP(f:FnP):Prop where
 asc:Asc f.1
 len:∀p∈f.2,p.1.length=f.1.length
 vs:∀p∈f.2,∀x∈p.1,Vs x
 sz:f.2.length<=1000000
 sm:∀p∈f.2,okP p.2
 nd:Ndk f.2
end
section
open Go.RowKit
set_option maxRecDepth 4096
structure GofP(Dm:List Va)(f:Fa (Nat×Option Nat)):Prop where
 ok:FOk rcmp Dm f
 r:rz f<=900000
 v:qz f<=Bz
section
variable {Dm : List Va} (hD : Okv Dm)
end
theorem Rsm.z{f:Rn}(h:Rsm f):Rsz f:=⟨by have:=h.v;omega,by have:=h.r;omega⟩
theorem zMi{n keep:Nat}{fs:List Rn}(h:zFu n keep fs=0):n<=32/\keep>>>n=0/\errL n fs=0/\covP n fs=true:=by
 unfold zFu at h;rw[AG]at h;split at h
 ·cases h
 rename_i h1;simp only[not_or,Classical.not_not]at h1;split at h
 ·omega
 rename_i h2;split at h
 ·rename_i h3;exact⟨by omega,h1.2.2,by omega,h3⟩
 cases h
structure Mg(n keep:Nat)(fs:List Rn)(m:Fa Nat):Prop where
 e:m=refS rcmp Sn (refP rcmp Sn (zCb Sn) (fs.map toFa)) ((AA n).filter λv=>!keep.testBit v)
 ok:FOk rcmp (domP fs) m
 r:rz m<=900000
 v:vz m<=4000000000000000000
 A:∀v,v∈m.A↔v<n/\keep.testBit v=Ab
 p:Pure Ao 26 [cntD,iD (n:Nat),u32D keep, .row (fs.flatMap rnC) fs.length] [] (.tup [faA m,iD 0])
theorem zSg{n keep:Nat}{fs:List Rn}(hn:n<=8)(hk:keep<4294967296)(hl:fs.length<=4)(hs:∀f∈fs,Rsm f)(hv:∀f∈fs,∀x∈f.R,∀a∈x,Vi a)(h0:zFu n keep fs=0):∃m,Mg n keep fs m:=by
 obtain⟨_,_,h1,h2⟩:=zMi h0;have ht:=zHn (by omega) h1 hs;have hD:=zS0 h1 hv;obtain⟨c1,c2⟩:=flat_c ht;obtain⟨s1,s2⟩:=sizes hl ht;have hcv:=zWl h2 ht;have hok:∀g∈fs.map toFa,FOk rcmp (domP fs) g:=λg hg=>by
  obtain⟨f,hf,rfl⟩:=AD.1 hg;exact(ht f hf).ok
 have hlt:∀g∈fs.map toFa,∀v∈g.A,v<n:=λg hg v hgv=>by
  obtain⟨f,hf,rfl⟩:=AD.1 hg;obtain⟨A,hA,hfit⟩:=zCl (zCn h1 f hf);have e:=(ht f hf).A;have:(v:Int)∈f.V:=by rw[e];exact zFj.2 hgv
  rw[hA]at this
  have:=hfit.lt v (zFj.1 this)
  omega
 have hck:=zQ6 n keep fs hn hk (by omega) λf hf=>(hs f hf).z;rw[h0,c1]at hck;have hln:(fs.map toFa).length=fs.length:=by simp
 have hEn:((AA n).filter λv=>!keep.testBit v).Nodup:=Cv.filter _;have hEc:∀v∈(AA n).filter (λv=>!keep.testBit v),∃f∈fs.map toFa,v∈f.A:=λv h=>hcv v (by have:=(A4.1 h).1;simpa using this);have hm:=zQo hD (zDi _) n keep (fs.map toFa) hn hk hok (by omega) s1 s2 hcv (by rw[hln];exact hck);have he:=zSf (pop:=popN) (S:=Sn) rcw (zDi _) hEn (.refl _) hok hEc;have hA:=margP_A (pop:=popN) (S:=Sn) rcw (zDi _) hEn hok hEc;rw[hln]at hm;rw[<-c1]at hm;have z1:=refP_z (S:=Sn) (z:=rz) (zJn (c:=rcmp) Sn) (fs.map toFa) (zCb Sn);have z2:=refP_z (S:=Sn) (z:=vz) (zSt (c:=rcmp)) (fs.map toFa) (zCb Sn);have z3:=refS_z (S:=Sn) (z:=rz) (zX2 (c:=rcmp) Sn) ((AA n).filter λv=>!keep.testBit v) (refP rcmp Sn (zCb Sn) (fs.map toFa));have z4:=refS_z (S:=Sn) (z:=vz) (λv f=>BT (fsum_vz (c:=rcmp) v f)) ((AA n).filter λv=>!keep.testBit v) (refP rcmp Sn (zCb Sn) (fs.map toFa));have h8:rz (zCb Sn)=2:=rfl;have h9:vz (zCb Sn)=2:=rfl;rw[h8]at z1;rw[h9]at z2;rw[he]at hm hA;refine⟨_,rfl,?_,by omega,by omega,λv=>?_,hm
  ⟩
 ·exact zR1 rcw _ _ (zR2 rcw _ _ zGd hok)
 rw[hA];constructor
 ·rintro⟨⟨f,hf,h3⟩,h4⟩
  have:=hlt f hf v h3
  refine⟨this,?_⟩;simpa[this]using h4
 rintro⟨h3,h4⟩;exact⟨hcv v h3,by simp[h4]⟩
end
section
open Go.RowKit
attribute [local irreducible] seqW awp zAa zAb zR Weak updS zAd retL Pure Acts rP setP setQ cP nP fr
set_option maxRecDepth 4096
abbrev exV(n:Int):Va:=⟨1,n,[]⟩
theorem zMe(n:Int):Pure Ao 28 [iD n] [] (.agg [iD 1,iD n,strD []]):=by
 refine zH zDt mixed Tryz.func28 rfl<|vAu<|vA<|ve (((1=1/\1<=3/\1=1/\2<=3/\True)/\Ab=Ab)/\Ac=Ac/\Ab=Ab/\3=3/\3<=3)<|zG<|vret (3<=3)<|.inr rfl
abbrev exA(o:Nat):Rn:=⟨[0,1],[[exV 1,exV 1],[exV 1,exV 2]],[o,o]⟩
abbrev exB(o:Nat):Rn:=⟨[1,2],[[exV 1,exV 5],[exV 2,exV 5],[exV 2,exV 6]],[o,o,o]⟩
abbrev exF(o:Nat):List Rn:=[exA o,exB o]
abbrev zP5(a b:Int):D:= .row [iD 1,iD a,strD [],iD 1,iD b,strD []] 2
abbrev exDA:D:= .agg [.row [iD 0,iD 1] 2, .row [zP5 1 1,zP5 1 2] 2, .row [iD 1,iD 1] 2]
abbrev exDB:D:= .agg [.row [iD 1,iD 2] 2, .row [zP5 1 5,zP5 2 5,zP5 2 6] 3, .row [iD 1,iD 1,iD 1] 3]
def Te:Par:=⟨λ_=>Ac,λ_ _=>Au,λ_=>Ac,λ_=>Ac,λt=>t==110⟩
theorem Te_ok:zBi Ao Te:=by intro t n f h;cases h
theorem example_c:Pure Ao 24 [] [] (.tup [exDA,exDB]):=by
 refine zH Te_ok mixed Tryz.func24 rfl<|vAu<|vA<|vr 1 ((1=1/\1<=2/\1=1/\2<=2/\True)/\0<1/\1=1/\2<=16777216/\2<=9223372036854775807)<|vc (zMe 1)<|vc (zMe 1)<|vr 1 ((3=3/\3<=6/\3=3/\6<=6/\True)/\0<3/\3=3/\6<=16777216/\2<=9223372036854775807)<|vc (zMe 1)<|vc (zMe 2)<|ve (((3=3/\3<=6/\3=3/\6<=6/\True)/\0<3/\3=3/\6<=16777216/\2<=9223372036854775807)/\((1=1/\1<=2/\1=1/\2<=2/\True)/\0<1/\1=1/\2<=16777216/\2<=9223372036854775807)/\((1=1/\1<=2/\1=1/\2<=2/\True)/\0<1/\1=1/\2<=16777216/\2<=9223372036854775807)/\((1=1/\1<=3/\1=1/\2<=3/\1=1/\3<=3/\True)/\Ab=Ab)/\Ac=Ac/\Ab=Ab/\3=3/\3<=3)<|zB<|zC8 [0,1,2,3,4,5,6,7,8,9,10,11,12,13] [(14,[(1,8),(4,9),(7,10),(10,11),(11,12),(12,13),(13,100000)],[15])] rfl ?_;refine vr 2 (3<=3/\(1=1/\1<=2/\1=1/\2<=2/\True)/\0<1/\1=1/\2<=16777216/\2<=9223372036854775807)<|vc (zMe 1)<|vc (zMe 5)<|vr 1 ((3=3/\3<=6/\3=3/\6<=6/\True)/\0<3/\3=3/\6<=16777216/\2<=9223372036854775807)<|vc (zMe 2)<|vc (zMe 5)<|vr 1 ((3=3/\3<=6/\3=3/\6<=6/\True)/\0<3/\3=3/\6<=16777216/\2<=9223372036854775807)<|vc (zMe 2)<|vc (zMe 6)<|vr 4 (((3=3/\3<=6/\3=3/\6<=6/\True)/\0<3/\3=3/\6<=16777216/\2<=9223372036854775807)/\((1=1/\1<=3/\1=1/\2<=3/\1=1/\3<=3/\True)/\0<1/\1=1/\3<=16777216/\3<=9223372036854775807)/\((1=1/\1<=3/\1=1/\2<=3/\1=1/\3<=3/\True)/\0<1/\1=1/\3<=16777216/\3<=9223372036854775807)/\(1=1/\1<=3/\1=1/\2<=3/\1=1/\3<=3/\True)/\Ab=Ab)<|vnil<|zFn rfl rfl (by kernel_rfl)<|vr 1 (Ac=Ac/\Ab=Ab/\3=3/\3<=3)<|vnil ?_;refine st_late (C:=((1=1/\1<=2/\1=1/\2<=2/\True)/\0<1/\1=1/\2<=16777216/\2<=9223372036854775807)/\Ar (Ah 8 0 2 2 Ab)=Ar (Ah 8 0 2 2 Ab)/\eqDL [iD 1,iD 2] [iD 1,iD 2]/\3=3/\1=1/\Ab=Ab/\Aj=Aj/\((3=3/\3<=6/\3=3/\6<=6/\True)/\0<3/\3=3/\6<=16777216/\2<=9223372036854775807)/\Ar (Ah 9 0 2 6 Ab)=Ar (Ah 9 0 2 6 Ab)/\eqDL [iD 1,iD 1,As (AL (bs [])),iD 1,iD 5,As (AL (bs []))] [iD 1,iD 1,As (AL (bs [])),iD 1,iD 5,As (AL (bs []))]/\107=107/\3=3/\Ab=Ab/\Aj=Aj/\((3=3/\3<=6/\3=3/\6<=6/\True)/\0<3/\3=3/\6<=16777216/\2<=9223372036854775807)/\Ar (Ah 10 0 2 6 Ab)=Ar (Ah 10 0 2 6 Ab)/\eqDL [iD 1,iD 2,As (AL (bs [])),iD 1,iD 5,As (AL (bs []))] [iD 1,iD 2,As (AL (bs [])),iD 1,iD 5,As (AL (bs []))]/\107=107/\3=3/\Ab=Ab/\Aj=Aj/\((3=3/\3<=6/\3=3/\6<=6/\True)/\0<3/\3=3/\6<=16777216/\2<=9223372036854775807)/\Ar (Ah 11 0 2 6 Ab)=Ar (Ah 11 0 2 6 Ab)/\eqDL [iD 1,iD 2,As (AL (bs [])),iD 1,iD 6,As (AL (bs []))] [iD 1,iD 2,As (AL (bs [])),iD 1,iD 6,As (AL (bs []))]/\107=107/\3=3/\Ab=Ab/\Aj=Aj/\((1=1/\1<=3/\1=1/\2<=3/\1=1/\3<=3/\True)/\0<1/\1=1/\3<=16777216/\3<=9223372036854775807)/\Ar (Ah 12 0 3 3 Ab)=Ar (Ah 12 0 3 3 Ab)/\eqDL [Ah 9 0 2 6 Ab,Ah 10 0 2 6 Ab,Ah 11 0 2 6 Ab] [Ah 9 0 2 6 Ab,Ah 10 0 2 6 Ab,Ah 11 0 2 6 Ab]/\110=110/\1=1/\Ab=Ab/\Kd.sh=Kd.sh/\((1=1/\1<=3/\1=1/\2<=3/\1=1/\3<=3/\True)/\0<1/\1=1/\3<=16777216/\3<=9223372036854775807)/\Ar (Ah 13 0 3 3 Ab)=Ar (Ah 13 0 3 3 Ab)/\eqDL [iD 1,iD 1,iD 1] [iD 1,iD 1,iD 1]/\3=3/\1=1/\Ab=Ab/\Aj=Aj/\((1=1/\1<=3/\1=1/\2<=3/\1=1/\3<=3/\True)/\Ab=Ab)/\Ar (Aq [Ah 8 0 2 2 Ab,Ah 12 0 3 3 Ab,Ah 13 0 3 3 Ab])=Ar (Aq [Ah 8 0 2 2 Ab,Ah 12 0 3 3 Ab,Ah 13 0 3 3 Ab])) (by kernel_rfl) ⟨⟨⟨(by kernel_rfl),⟨(by omega),⟨(by kernel_rfl),⟨(by omega),trivial⟩⟩⟩⟩,(by omega)⟩,(by kernel_rfl),rfl,(by kernel_rfl),(by kernel_rfl),(by kernel_rfl),(by kernel_rfl),⟨⟨(by kernel_rfl),⟨(by omega),⟨(by kernel_rfl),⟨(by omega),trivial⟩⟩⟩⟩,(by omega)⟩,(by kernel_rfl),rfl,(by kernel_rfl),(by kernel_rfl),(by kernel_rfl),(by kernel_rfl),⟨⟨(by kernel_rfl),⟨(by omega),⟨(by kernel_rfl),⟨(by omega),trivial⟩⟩⟩⟩,(by omega)⟩,(by kernel_rfl),rfl,(by kernel_rfl),(by kernel_rfl),(by kernel_rfl),(by kernel_rfl),⟨⟨(by kernel_rfl),⟨(by omega),⟨(by kernel_rfl),⟨(by omega),trivial⟩⟩⟩⟩,(by omega)⟩,(by kernel_rfl),rfl,(by kernel_rfl),(by kernel_rfl),(by kernel_rfl),(by kernel_rfl),⟨⟨(by kernel_rfl),⟨(by omega),⟨(by kernel_rfl),⟨(by omega),⟨(by kernel_rfl),⟨(by omega),trivial⟩⟩⟩⟩⟩⟩,(by omega)⟩,(by kernel_rfl),rfl,(by kernel_rfl),(by kernel_rfl),(by kernel_rfl),(by kernel_rfl),⟨⟨(by kernel_rfl),⟨(by omega),⟨(by kernel_rfl),⟨(by omega),⟨(by kernel_rfl),⟨(by omega),trivial⟩⟩⟩⟩⟩⟩,(by omega)⟩,(by kernel_rfl),rfl,(by kernel_rfl),(by kernel_rfl),(by kernel_rfl),(by kernel_rfl),⟨⟨(by kernel_rfl),⟨(by omega),⟨(by kernel_rfl),⟨(by omega),⟨(by kernel_rfl),⟨(by omega),trivial⟩⟩⟩⟩⟩⟩,(by kernel_rfl)⟩,(by kernel_rfl)⟩ (by kernel_rfl) ?_;refine vr 1 (Ac=Ac/\Ab=Ab/\3=3/\3<=3)<|vnil<|zFd<|vN<|zG<|vret (3<=3/\3<=3)<|.inr rfl
abbrev exCA(o:Nat):List D:=[.row [iD 0,iD 1] 2, .row [zP5 1 1,zP5 1 2] 2, .row [natD o,natD o] 2]
abbrev exCB(o:Nat):List D:=[.row [iD 1,iD 2] 2, .row [zP5 1 5,zP5 2 5,zP5 2 6] 3, .row [natD o,natD o,natD o] 3]
theorem cntA_c(o:Nat)(ho:o=1):Pure Ao 25 [exDA] [] (.agg (exCA o)):=by
 have h:=count_c (exA o) (by simp) (by simp[ho]);have e:rawD (rnR (exA o))=exDA:=by subst ho;rfl
 rw[e]at h;exact h
theorem cntB_c(o:Nat)(ho:o=1):Pure Ao 25 [exDB] [] (.agg (exCB o)):=by
 have h:=count_c (exB o) (by simp) (by simp[ho]);have e:rawD (rnR (exB o))=exDB:=by subst ho;rfl
 rw[e]at h;exact h
theorem exF_s(o:Nat)(ho:o=1):∀f∈exF o,Rsm f:=by
 subst ho;intro f hf;rcases Ba.1 hf with rfl|hf
 ·exact⟨by decide,by decide,by decide,by decide⟩
 rcases Ba.1 hf with rfl|hf
 ·exact⟨by decide,by decide,by decide,by decide⟩
 cases hf
theorem exF_v(o:Nat)(ho:o=1):∀f∈exF o,∀x∈f.R,∀a∈x,Vi a:=by
 have hv:∀n:Int,inK .i64 n->Vi (exV n):=λn hn=>⟨by simp[inK],hn,by simp⟩;intro f hf x hx a ha;have:a=exV 1\/a=exV 2\/a=exV 5\/a=exV 6:=by
  simp only[exF,Ba,BQ,or_false]at hf;rcases hf with rfl|rfl
  ·simp only[Ba,BQ,or_false]at hx;rcases hx with rfl|rfl<;>simp only[Ba,BQ,or_false]at ha<;>rcases ha with rfl|rfl<;>simp
  simp only[Ba,BQ,or_false]at hx;rcases hx with rfl|rfl|rfl<;>simp only[Ba,BQ,or_false]at ha<;>rcases ha with rfl|rfl<;>simp
 rcases this with rfl|rfl|rfl|rfl<;>exact hv _ (by simp[inK])
theorem exM(o t:Nat)(ho:o=1)(ht:t=2):Pure Ao 26 [cntD,iD 3,u32D 4, .row (exCA o++exCB o) 2] [] (.tup [.agg [.row [iD 2] 1, .row [.row [iD 1,iD 5,strD []] 1, .row [iD 1,iD 6,strD []] 1] 2, .row [natD t,natD o] 2],iD 0]):=by
 obtain⟨m,h⟩:=zSg (n:=3) (keep:=4) (fs:=exF o) (by decide) (by decide) (by simp) (exF_s o ho) (exF_v o ho) (by subst ho;kernel_rfl);have e:m=⟨[2],[([exV 5],t),([exV 6],o)]⟩:=by rw[h.e];subst ho ht;kernel_rfl
 have hp:=h.p;rw[e]at hp;exact hp
theorem exM0(o t:Nat)(ho:o=1)(ht:t=3):Pure Ao 26 [cntD,iD 3,u32D 0, .row (exCA o++exCB o) 2] [] (.tup [faA ⟨[],[([],t)]⟩,iD 0]):=by
 obtain⟨m,h⟩:=zSg (n:=3) (keep:=0) (fs:=exF o) (by decide) (by decide) (by simp) (exF_s o ho) (exF_v o ho) (by subst ho;kernel_rfl);have e:m=⟨[],[([],t)]⟩:=by rw[h.e];subst ho ht;kernel_rfl
 have hp:=h.p;rw[e]at hp;exact hp
theorem exT(o t:Nat)(ho:o=1)(ht:t=3):Pure Ao 11 [cntD,iD 3, .row (exCA o++exCB o) 2] [] (.tup [natD t,iD 0]):=total_c _ _ _ _ (exM0 o t ho ht)
theorem exS(o t:Nat)(ho:o=1)(ht:t=2):Pure Ao 27 [.agg [.row [iD 2] 1, .row [.row [iD 1,iD 5,strD []] 1, .row [iD 1,iD 6,strD []] 1] 2, .row [natD t,natD o] 2], .agg [.row [iD 2] 1, .row [.row [iD 1,iD 5,strD []] 1, .row [iD 1,iD 6,strD []] 1] 2, .row [iD 2,iD 1] 2]] [] (bD Ab):=by
 have h:=same_c [2] [([exV 5],t),([exV 6],o)] (by simp) (by simp) (by simp) (by subst ho ht;decide);have e:isD [([exV 5],t),([exV 6],o)]=[iD 2,iD 1]:=by subst ho ht;rfl
 unfold rfD rfC at h;rw[e]at h;exact h
set_option maxHeartbeats 4000000 in
theorem zPr:Pure Ao 6 [] [] (bD Ab):=by
 obtain⟨o,ho⟩:∃o:Nat,o=1:=⟨1,rfl⟩;obtain⟨t,ht⟩:∃o:Nat,o=2:=⟨2,rfl⟩;obtain⟨u,hu⟩:∃o:Nat,o=3:=⟨3,rfl⟩;have hof:=of_c u (by omega);have e3:As (.int .u64 (u:Int))= .val (.int .u64 3):=by rw[hu];rfl
 rw[e3]at hof;have hcm:=ncmp_c u u (Sm.of (by omega)) (Sm.of (by omega));have e0:cmpD (u:Int) (u:Int)=0:=by rcases zD6 (u:Int) u with h|h|h<;>omega
 rw[e0]at hcm;have h1:=cntA_c o ho;have h2:=cntB_c o ho;have h3:=exM o t ho ht;have h4:=exT o u ho hu;have h5:=exS o t ho ht;refine zH zDt mixed Tryz.func6 rfl<|vAu<|vA<|vc (example_c)<|ve (0<2/\1<2/\(Ac=Ac/\Ab=Ab/\3=3/\3<=3)/\Ac=Ac/\Ab=Ab/\3=3/\3<=3)<|zB<|vd [0,1,2,3,4,5,6,7,8,9,10,11,12]<|vr 3 ((True/\Ab=Ab)/\3<=3)<|vc (h1)<|vr 1 (3<=3)<|vc (h2)<|vr 1 ((3=3/\3<=6/\3=3/\6<=6/\True)/\0<3/\3=3/\6<=16777216/\2<=9223372036854775807)<|vc (h4)<|ve (0<2/\1<2)<|zB<|vd [0,1,2,3,4,5,6,7,8,9,10,11,12,13]<|vr 3 ((True/\Ab=Ab)/\3<=3)<|vc (h1)<|vr 1 (3<=3)<|vc (h2)<|vr 1 ((3=3/\3<=6/\3=3/\6<=6/\True)/\0<3/\3=3/\6<=16777216/\2<=9223372036854775807)<|vc (h3)<|ve (0<2/\1<2/\Ac=Ac/\Ab=Ab/\3=3/\3<=3)<|zB<|vd [0,1,2,3,4,5,6,7,8,9,10,11,12,13,14,15,16,17,18,19,20,21,22,23,24]<|vr 8 (True/\True)<|vc (hof)<|vc (hcm)<|vr 5 (True/\3<=3/\(1=1/\1<=1/\True)/\0<1/\1=1/\1<=16777216/\1<=9223372036854775807)<|vc (zMe 5)<|vr 1 ((3=3/\3<=3/\True)/\0<3/\3=3/\3<=16777216/\1<=9223372036854775807)<|vc (zMe 6)<|vr 4 (((3=3/\3<=3/\True)/\0<3/\3=3/\3<=16777216/\1<=9223372036854775807)/\((1=1/\1<=2/\1=1/\2<=2/\True)/\0<1/\1=1/\2<=16777216/\2<=9223372036854775807)/\((1=1/\1<=2/\1=1/\2<=2/\True)/\0<1/\1=1/\2<=16777216/\2<=9223372036854775807)/\(1=1/\1<=3/\1=1/\2<=3/\1=1/\3<=3/\True)/\Ab=Ab)<|vc (h5)<|veT<|zG<|vret (True)<|.inr rfl
end
section
open Go.RowKit
set_option maxRecDepth 4096
section
variable {α β γ : Type} (g : α → β)
theorem mp_ok{c:Rw->Rw->Int}{Dm:List Va}{f:Fa α}(h:FOk c Dm f):FOk c Dm (f.mp g):=
 ⟨h.asc,λp hp=>by obtain⟨q,hq,rfl⟩:=AD.1 hp;exact h.len q hq,List.pairwise_map.2 h.srt,λp hp=>by obtain⟨q,hq,rfl⟩:=AD.1 hp;exact h.dom q hq⟩
theorem mp_rz(f:Fa α):rz (f.mp g)=rz f:=by
 unfold rz Fa.mp mpL;rw[Ay]
end
theorem rn_len{n:Int}{f:Rn}(h:chkR n f=0):f.R.length=f.W.length:=by
 obtain⟨A,hA,hfit⟩:=zCl h;exact hfit.m
theorem cells_mp{Dm:List Va}{f:Rn}(h:Tofa Dm f)(hl:f.R.length=f.W.length){β:Type}(g:Nat->β)(V:β->List D):[Ad (f.V.map λz=>iD z) f.V.length, .row (f.R.map rowV) f.R.length, .row (f.W.flatMap λx=>V (g x)) f.W.length]=[.row (nsD ((toFa f).mp g).A) ((toFa f).mp g).A.length, .row ((((toFa f).mp g).l.map (·.1)).map rowV) ((toFa f).mp g).l.length, .row ((((toFa f).mp g).l.map (·.2)).flatMap V) ((toFa f).mp g).l.length]:=by
 have hc:=h.c;have h1:Ad (f.V.map λz=>iD z) f.V.length= .row (nsD (toFa f).A) (toFa f).A.length:=(List.cons.inj hc).1;have e1:(((toFa f).mp g).l.map (·.1))=f.R:=by
  show Ae _ (Ae _ (f.R.zip f.W))=_;rw[A8];exact zip_fst f.R f.W hl
 have e2:(((toFa f).mp g).l.map (·.2))=f.W.map g:=by
  show Ae _ (Ae _ (f.R.zip f.W))=_;conv=>rhs;rw[<-zip_snd f.R f.W hl]
  rw[A8,A8];rfl
 have e3:((toFa f).mp g).l.length=f.W.length:=by rw[<-Ay (f:=λp:Rw×β=>p.2),e2,Ay]
 rw[e1,e2,e3,BI,hl,h1];rfl
@[irreducible] def Mz:Nat:=1000
section
variable {n : Nat} {fs : List Rn} (hn : n ≤ 8) (hl : fs.length ≤ 4) (hs : ∀ f ∈ fs, Rsm f) (hv : ∀ f ∈ fs, ∀ x ∈ f.R, ∀ a ∈ x, Vi a) (h0 : zFu n 0 fs = 0)
include hn hl hs hv h0
theorem totN:Pure Ao 11 [cntD,iD (n:Nat), .row (fs.flatMap rnC) fs.length] [] (.tup [natD (((zGp popN rcmp Sn (fs.map toFa) ((AA n).filter λv=>!(0:Nat).testBit v)).l.map (·.2)).headD 0),iD 0]):=by
 obtain⟨_,_,h1,h2⟩:=zMi h0;have ht:=zHn (by omega) h1 hs;have hD:=zS0 h1 hv;obtain⟨c1,c2⟩:=flat_c ht;obtain⟨s1,s2⟩:=sizes hl ht;have hcv:=zWl h2 ht;have hok:∀g∈fs.map toFa,FOk rcmp (domP fs) g:=λg hg=>by
  obtain⟨f,hf,rfl⟩:=AD.1 hg;exact(ht f hf).ok
 have hln:(fs.map toFa).length=fs.length:=by simp
 have hck:=zQ6 n 0 fs hn (by omega) (by omega) λf hf=>(hs f hf).z;rw[h0,c1]at hck;have hm:=zQo hD (zDi _) n 0 (fs.map toFa) hn (by omega) hok (by omega) s1 s2 hcv (by rw[hln];exact hck);rw[hln,<-c1]at hm;exact total_c _ _ _ _ hm
end
end
section
open Go.RowKit
attribute [local irreducible] seqW awp zAa zAb zR Weak updS zAd retL Pure Acts rP setP setQ cP nP fr
set_option maxRecDepth 4096
def Sb:Sr Bool:=⟨or,and,Ab,by decide,by decide,by decide,by decide,by decide,by decide⟩
def g0(n:Nat):Bool:=decide (0<n)
theorem hmB:Hm Sn Sb g0 where
 add a b:=by
  show decide (0<a+b)=(decide (0<a)||decide (0<b))
  rw[<-Bool.decide_or,decide_eq_decide];omega
 mul a b:=by
  show decide (0<a*b)=(decide (0<a)&&decide (0<b))
  rw[<-Bool.decide_and,decide_eq_decide]
  constructor
  ·intro h
   exact⟨Nat.pos_of_mul_pos_right h,Nat.pos_of_mul_pos_left h⟩
  intro h
  exact Nat.mul_pos h.1 h.2
 one:=rfl
def bz(f:Fa Bool):Nat:=1
theorem zPo(f:Fa Bool):1<=bz f:=Bi _
theorem zX6{c:Rw->Rw->Int}(f g:Fa Bool)(os:List (Fa Bool)):bz (fmul c Sb f g os)<=bz f*bz g:=Bi _
theorem fsum_bz{c:Rw->Rw->Int}(v:Nat)(f:Fa Bool):bz (fsum c Sb v f)<=bz f:=Bi _
def okB(_:Bool):Prop:=True
theorem bz_ok{f:Fa Bool}(h:bz f<=Bz):∀p∈f.l,okB p.2:=λ_ _=>trivial
theorem sum_okB{f:Fa Bool}(h:bz f<=Bz)(φ:Rw->Rw)(i:Nat):∀x∈(sumT Sb.add [] ((f.l.map λp=>(φ p.1,p.2)).take i)).map (·.2),okB x:=λ_ _=>trivial
theorem zadB(w:Bool):Sb.add Ac w=w:=rfl
theorem zokB:okB false:=trivial
abbrev booD:D:= .ifc 96 (.agg [])
theorem zKm(l:List Bool)(i:Nat)(h:i<l.length):((l.map bD).drop i).headD .unk=bD (l.getD i Ac):=by
 rw[zDe bD l Ac i h]
theorem bzero_c(z:Bool)(hz:z=Ac):Pure Ao 287 [.agg []] [] (bD z):=by
 subst hz;refine zH zBt mixed Tryz.func287 rfl ?_;refine zB<|zA rfl<|v0s<|veT<|zB<|zA rfl<|veT<|zG<|vret (True)<|.inr rfl
theorem bone_c(o:Bool)(ho:o=Ab):Pure Ao 286 [.agg []] [] (bD o):=by
 subst ho;refine zH zBt mixed Tryz.func286 rfl ?_;refine zB<|zA rfl<|v0s<|veT<|zB<|zA rfl<|veT<|zG<|vret (True)<|.inr rfl
theorem badd_c(a b:Bool)(ha:okB a)(hb:okB b):Pure Ao 284 [.agg [],bD a,bD b] [] (bD (Sb.add a b)):=by
 cases a
 ·cases b
  ·refine zH zBt mixed Cd rfl ?_;refine zB<|zA rfl<|v0s<|veT<|zB<|zA rfl<|veT<|zG<|vret (True)<|.inr rfl
  refine zH zBt mixed Cd rfl ?_;refine zB<|zA rfl<|v0s<|veT<|zB<|zA rfl<|veT<|zG<|vret (True)<|.inr rfl
 cases b
 ·refine zH zBt mixed Cd rfl ?_;refine zB<|zA rfl<|v0s<|veT<|zB<|zA rfl<|veT<|zG<|vret (True)<|.inr rfl
 refine zH zBt mixed Cd rfl ?_;refine zB<|zA rfl<|v0s<|veT<|zB<|zA rfl<|veT<|zG<|vret (True)<|.inr rfl
theorem bmul_c(a b:Bool)(ha:okB a)(hb:okB b):Pure Ao 285 [.agg [],bD a,bD b] [] (bD (Sb.mul a b)):=by
 cases a
 ·cases b
  ·refine zH zBt mixed Ce rfl ?_;refine zB<|zA rfl<|v0s<|veT<|zB<|zA rfl<|veT<|zG<|vret (True)<|.inr rfl
  refine zH zBt mixed Ce rfl ?_;refine zB<|zA rfl<|v0s<|veT<|zB<|zA rfl<|veT<|zG<|vret (True)<|.inr rfl
 cases b
 ·refine zH zBt mixed Ce rfl ?_;refine zB<|zA rfl<|v0s<|veT<|zB<|zA rfl<|veT<|zG<|vret (True)<|.inr rfl
 refine zH zBt mixed Ce rfl ?_;refine zB<|zA rfl<|v0s<|veT<|zB<|zA rfl<|veT<|zG<|vret (True)<|.inr rfl
end
section
open Go.RowKit
set_option maxRecDepth 4096
abbrev FnB:Type:=List Nat×List (Rw×Bool)
def zD3(U:List Nat)(o:FnB):List Nat×List (List Va):=(zBp (λv=>(msk o.1&&&msk U).testBit v) U,allK ((o.2.map (·.1)).map λr=>zQ r (zBp (λv=>(msk o.1&&&msk U).testBit v) o.1)))
def faNB(o:FnB):Fa Bool:=⟨o.1,o.2⟩
theorem flt_okB{U:List Nat}(hU:Asc U){o:FnB}(ho:Asc o.1)(s:List Va):decide (zQ s (zD3 U o).1∈(zD3 U o).2)=okO U s (faNB o):=by
 rw[BE];simp only[zD3,decide_eq_true_eq,zH6,AD,A8,okO,Cs,A3,faNB,Function.comp];have e:U.filter (λv=>(msk o.1&&&msk U).testBit v)=o.1.filter (λv=>(msk o.1&&&msk U).testBit v):=zYa hU ho λv=>by
  rw[zLr];simp only[Bn,decide_eq_true_eq];constructor
  ·rintro⟨h1,h2,h3⟩;exact⟨h2,h2,h3⟩
  rintro⟨h1,h2,h3⟩;exact⟨h3,h2,h3⟩
 have key:∀q:Rw×Bool,zQ q.1 (zBp (λv=>(msk o.1&&&msk U).testBit v) o.1)=zQ s (zBp (λv=>(msk o.1&&&msk U).testBit v) U)↔∀v∈o.1,v∈U->asg o.1 q.1 v=asg U s v:=by
  intro q;rw[zFi ho.nd,zFi hU.nd,e,zE0];simp only[A4,zLr,Bn,decide_eq_true_eq];constructor
  ·intro h v hv hu;exact h v ⟨hv,hv,hu⟩
  rintro h v ⟨hv,_,hu⟩;exact h v hv hu
 constructor
 ·rintro⟨q,hq,h⟩;exact⟨q,hq,λv hv=>decide_eq_true ((key q).1 h v hv)⟩
 rintro⟨q,hq,h⟩;exact⟨q,hq,(key q).2 λv hv=>of_decide_eq_true (h v hv)⟩
section
variable (A B : List Nat) (lb : List (Rw × Bool)) (ok : Rw → Bool)
def zGf(p:Rw×Bool):List (Rw×Bool):=lb.filter λq=>mt A p.1 B q.1
def prQB(p q:Rw×Bool):Rw×Bool:=(mg A p.1 B q.1,Sb.mul p.2 q.2)
def zD0(p:Rw×Bool)(l:List (Rw×Bool)):List (Rw×Bool):=(l.map (prQB A B p)).filter λs=>ok s.1
theorem zNk(la:List (Rw×Bool)):(zCa Sb.mul A la B lb).filter (λp=>ok p.1)=la.flatMap λp=>zD0 A B ok p (zGf A B lb p):=by
 unfold zCa zD0 zGf prQB;rw[List.filter_flatMap]
variable {A B lb ok}
theorem zXr(p:Rw×Bool)(l:List (Rw×Bool))(t:Nat)(h:t<l.length):zD0 A B ok p (l.take (t+1))=zD0 A B ok p (l.take t)++if ok (mg A p.1 B (l.getD t Ai).1)then[prQB A B p (l.getD t Ai)]else[]:=by
 unfold zD0;rw[BA h,BF,BM,AE,AM h];congr 1;simp only[B_,List.map_nil,Cj,List.filter_nil,Cf];rfl
theorem zQh(p:Rw×Bool)(l:List (Rw×Bool)):(zD0 A B ok p l).length<=l.length:=by
 unfold zD0;exact AB (Bp _ _) (by simp)
theorem zQw(la:List (Rw×Bool)):∀i,((la.take i).flatMap λp=>zD0 A B ok p (zGf A B lb p)).length<=i*lb.length:=by
 induction la with
 |nil=>intro i;simp
 | cons p la ih=>
  intro i;cases i with
  |zero=>simp
  |succ i=>
   rw[List.take_succ_cons,Bv,AZ,Nat.succ_mul];have h1:=zQh (A:=A) (B:=B) (ok:=ok) p (zGf A B lb p);have h2:(zGf A B lb p).length<=lb.length:=Bp _ _
   have:=ih i
   omega
theorem zX7(la:List (Rw×Bool))(i:Nat)(h:i<la.length):(la.take (i+1)).flatMap (λp=>zD0 A B ok p (zGf A B lb p))=(la.take i).flatMap (λp=>zD0 A B ok p (zGf A B lb p))++zD0 A B ok (la.getD i Ai) (zGf A B lb (la.getD i Ai)):=by
 rw[BA h,Ck,AE,AM h];simp
theorem pos_selB(hA:Asc A)(hB:Asc B)(p:Rw×Bool):(posL ((lb.map (·.1)).map λr=>zQ r (zBp (λv=>(msk A&&&msk B).testBit v) B)) (zQ p.1 (zBp (λv=>(msk A&&&msk B).testBit v) A))).map (λk=>lb.getD k Ai)=zGf A B lb p:=by
 have h:=zZ8 lb (λq=>zQ q.1 (zBp (λv=>(msk A&&&msk B).testBit v) B)) (zQ p.1 (zBp (λv=>(msk A&&&msk B).testBit v) A)) (λk hk=>by simp[AE,hk]);rw[A8];refine Eq.trans h ?_;unfold zGf;refine Cc λq _=>?_;rw[BE,decide_eq_true_eq];exact key_mt hA hB p.1 q.1
end
end
section
open Go.RowKit
attribute [local irreducible] seqW awp zAa zAb zR Weak updS zAd retL Pure Acts rP setP setQ cP nP fr
set_option maxRecDepth 4096
set_option maxRecDepth 4096
abbrev fB1B(a b c:D):Bk:=⟨[a,b,c],94,0,Ac,Ac, .plain⟩
set_option maxHeartbeats 1000000 in
theorem zLi(A:List Nat)(n:Nat)(hn:A.length=n)(hl:n<=1000)(hA:∀v∈A,v<32)(x y:List D)(k j:Nat):Pure Ao 135 [.agg [.row (nsD A) n, .row x k, .row y j]] [] (u32D (msk A)):=by
 subst hn;have hlt:∀i,msk (A.take i)<4294967296:=λi=>zCf λv hv=>hA v (Ch hv);refine zH zBt mixed Tryz.func135 rfl<|zB<|zA rfl<|v0s<|veT<|zB<|zA rfl<|veT<|zB<|zB<|zA rfl<|ve (True/\0<3)<|zF<|zN (λ(i:Nat)=>fr 19 [(2,As<|AF Ax (0:Int)),(3,u32D<|msk<|Am i A),(7,Ad (nsD A)<|Aa A),(8,iD (Aa A:Int)),(9,iD (i:Int))]) (λi=>[fB1B (.row (nsD A) A.length) (.row x k)<|.row y j]) (λi=>A.length-i) (λi=>i<=A.length) 0 ?_ ?_ ?_
 ·omega
 ·refine vk 1
 rintro i h1;have hi:=hlt i;rcases Av i A.length with h2|h2
 ·have h3:=hA _ (zDv A i h2);have h4:=zR9 h3;have h5:=zP1 hi h4;refine zB<|zA rfl<|v0s<|veT<|zB<|vT ((i:Int)<(Aa A:Int))<|zM<|zC<|zK<|zB<|zF<|zB<|zA rfl<|vr 1 (ix (i:Int) (Aa A:Int) (nsD A≠[])) ?_ ⟨(by omega),⟨(by omega),(by exact zW)⟩⟩;refine vp 11 (i) (nsD A)<|vr 1 (0<Aa (Ag i<|nsD A))<|vs 12 (Bb (Ag i<|nsD A) Uk) (iD (↑(An A i 0):Int)) (hd:=by simp(disch:=omega) only[zA6])<|veT<|zA rfl<|vr 3 ((0:Int)<=(↑(An A i 0):Int))<|vs 15 (As<|AF Ax<|AT Ax ((1:Int)*(2:Int)^min (Ap (↑(An A i 0):Int)) 32)) (dig ((2:Nat)^An A i 0)) (hd:=by simp(disch:=omega) only[AG,zG8])<|vrT 1<|vs 16 (As<|AF Ax<|AT Ax (↑(AQ (Aw 32 (↑(msk<|Am i A):Int)|||Aw 32 (↑((2:Nat)^An A i 0):Int))):Int)) (dig (msk (Am i A)|||(2:Nat)^An A i 0)) (hd:=by simp(disch:=omega) only[zWs,zBx])<|vrT 1<|vnil<|zD<|zC<|zK<|zA rfl<|vr 2 (i6 ((i:Int)+(1:Int)))<|vnil<|zC<|⟨i+1,by omega,by omega,?_⟩;rw[msk_succ A i h2];refine vk 1
 refine zB<|zA rfl<|v0s<|veT<|zB<|vF ((i:Int)<(Aa A:Int))<|zAv<|zP<|zP<|zAk rfl<|zC<|zK<|zB<|zA rfl<|veT<|zG<|vre (True) (dig<|msk<|Am i A) (.inr rfl) ?_;rw[AK h2]
end
section
open Go.RowKit
attribute [local irreducible] seqW awp zAa zAb zR Weak updS zAd retL Pure Acts rP setP setQ cP nP fr
set_option maxRecDepth 4096
theorem less_cB(rows:List (List Va))(n:Nat)(x y:D)(hn:rows.length=n)(i j:Nat)(hi:i<n)(hj:j<n)(hl:∀r∈rows,r.length<=1000000):Pure Ao 162 [iD i,iD j, .ptr [x, .row (rows.map rowV) n,y]] [] (iD (zA4 rows i j)):=by
 subst hn;have g:∀i,i<rows.length->(rows.getD i []).length<=1000000:=λi hi=>by
  rw[AE,AM hi];exact hl _ (A9 hi)
 have g1:=g i hi;have g2:=g j hj;refine zH zP6 mixed Tryz.func162 rfl<|zB<|zA rfl<|v0s<|veT<|zB<|vd [0,2,5,7,1,3,4,6,8,9,10,11]<|vr 6 (True/\True/\0<2/\ix (i:Int) (Aa rows:Int) (Ae rowV rows≠[])) (vp 9 (i) (Ae rowV rows)<|vr 1 (0<Aa (Ag i<|Ae rowV rows))<|vs 10 (Bb (Ag i<|Ae rowV rows) Uk) (rowV<|An rows i []) (hd:=by simp(disch:=omega) only[zAh])<|vr 2 (0<2/\ix (j:Int) (Aa rows:Int) (Ae rowV rows≠[])) (vp 14 (j) (Ae rowV rows)<|vr 1 (0<Aa (Ag j<|Ae rowV rows))<|vs 15 (Bb (Ag j<|Ae rowV rows) Uk) (rowV<|An rows j []) (hd:=by simp(disch:=omega) only[zAh]) ?_) ⟨(by omega),⟨(by omega),⟨(by omega),(by exact zW)⟩⟩⟩) ⟨trivial,trivial,(by omega),⟨(by omega),⟨(by omega),(by exact zW)⟩⟩⟩;refine vca [Ad (zL<|An rows i [])<|Aa<|An rows i [],Ad (zL<|An rows j [])<|Aa<|An rows j []] (by exact zDo _ _ _ _ rfl rfl (by omega) (by omega))<|veT<|zG<|vret (True)<|.inr rfl
theorem zX0(b0 b1 b2:Bk)(c:List D):Acts Ao 178 [.osl 2 0 0 0 Ab, .val (.int .i64 0), .val (.int .i64 0), .clo (.func 162) [] [.own 0 0]] [b0,b1,b2] [] (.tup []) [b0,b1,b2]:=by
 refine zV zP6 mixed Tryz.func178 rfl (zVv rfl)<|zB<|zA rfl<|v0s<|ve (i6 ((0:Int)+(1:Int)))<|zF<|zN (λ(i:Nat)=>fr 53 [(0,Ah 2 0 0 0 Ab),(1,iD 0),(2,iD 0),(3,Bc (Fn.func (162:FuncId)) [] [Al 0 0]),(8,iD 1)]) (λ(i:Nat)=>[b0,b1,b2]) (λ(i:Nat)=>0) (λ(i:Nat)=>True) 0 ?_ ?_ ?_
 ·trivial
 ·refine vk 3 ?_;exact keep3F
 rintro i-
 refine zB<|zB<|zA rfl<|v0s<|veT<|vf<|zAv<|zP<|zP<|zAk rfl<|zZ (True) [] (.inl rfl) ?_;exact⟨by kernel_rfl,by kernel_rfl⟩
theorem pdq0B(b0 b1 b2:Bk)(c:List D)(lim:Int):Acts Ao 164 [.osl 2 0 0 0 Ab, .val (.int .i64 0), .val (.int .i64 0), .val (.int .i64 lim), .clo (.func 162) [] [.own 0 0]] [b0,b1,b2] [] (.tup []) [b0,b1,b2]:=by
 refine zV zP6 mixed Tryz.func164 rfl (zVv rfl)<|zB<|zA rfl<|v0s<|veT<|zB<|zA rfl<|veT<|zF<|zN (λ(i:Nat)=>fr 148 [(0,Ah 2 0 0 0 Ab),(1,iD 0),(2,iD 0),(3,iD lim),(4,Bc (Fn.func (162:FuncId)) [] [Al 0 0]),(10,bD Ab),(11,bD Ab)]) (λ(i:Nat)=>[b0,b1,b2]) (λ(i:Nat)=>0) (λ(i:Nat)=>True) 0 ?_ ?_ ?_
 ·trivial
 ·refine vk 3 ?_;exact keep3F
 rintro i-
 refine zF<|zB<|zA rfl<|v0s<|ve (i6 ((0:Int)-(0:Int)))<|zB<|zB<|zA rfl<|veT<|vt<|zB<|zA rfl<|vrT 4<|vnt [b0,b1,b2]<|zAl [] [] [Ah 2 0 0 0 Ab,iD 0,iD 0,Bc (Fn.func 162) [] [Al 0 0]] [Ah 2 0 0 0 Ab,iD 0,iD 0,Bc (Fn.func 162) [] [Al 0 0]] (LeL.refl _) (by exact zX0 _ _ _ []) ?_;refine v0s<|veT<|zG<|zE<|zJ<|zE<|zJ ?_;refine zZ (True) [] (.inr rfl) ?_;exact⟨by kernel_rfl,by kernel_rfl⟩
set_option maxHeartbeats 1000000 in
theorem zXf(A:List D)(a:Nat)(ys:List D)(m:Nat)(rows:List (List Va))(n:Nat)(b1:Bk)(hn:rows.length=n)(hb:n<=1000000)(hl:∀r∈rows,r.length<=1000000)(hd:rows.Nodup):Acts Ao 143 [.osl 2 0 n n Ab, .clo (.func 162) [] [.own 0 0]] [fB1B (.row A a) (.row (rows.map rowV) n) (.row ys m),b1,intB (nsD (AA n))] [] (.tup []) [⟨[.row A a, .row (rows.map rowV) n, .row ys m],94,0,Ac,if n=0 then Ac else Ab, .plain⟩,b1,intB (nsD (zCx (zA4 rows) (AA n)))]:=by
 have hlim:Bw n<4611686018427387904:=Nat.lt_of_le_of_lt (Lib.bitLen_le n 62 (by omega) (by omega)) (by omega);rcases Bx n with h0|hpos
 ·subst h0;refine zV zP6 mixed Tryz.func143 rfl (zVv rfl)<|zB<|zA rfl<|v0s<|veT<|zA rfl<|vr 4 (u6 (↑(0:Nat):Int))<|vc (blen_c 0 (by omega))<|vrT 1<|vnt [fB1B (Ad A a) (Ad (Ae rowV rows) 0)<|Ad ys m,b1,intB<|nsD<|AA 0]<|zAl [] [] [Ah 2 0 0 0 Ab,iD 0,iD (↑(0:Nat):Int),iD (↑(0:Nat):Int),Bc (Fn.func 162) [] [Al 0 0]] [Ah 2 0 0 0 Ab,iD 0,iD (↑(0:Nat):Int),iD (↑(0:Nat):Int),Bc (Fn.func 162) [] [Al 0 0]] (LeL.refl _) (by exact pdq0B _ _ _ [] _) ?_;refine vnil<|zZ (True) [] (.inl rfl) ?_;exact⟨rfl,by simp[zCx]⟩
 have ho:=zXk hd;rw[hn]at ho;have hp:=zZ9 (st:=[fB1B (.row A a) (.row (rows.map rowV) n) (.row ys m),b1,intB (nsD (AA n))]) (k:=2) (lim:=Bw n) (wh:=Ab) (cf:=zA4 rows) (g:=162) (caps:=[.own 0 0]) (caps':=[.ptr [.row A a, .row (rows.map rowV) n, .row ys m]]) (ks:=[0]) rfl rfl rfl rfl rfl (by simp) hb hpos hlim rfl (by decide) (enters_of Tryz.func162 (by kernel_rfl) rfl) ho
  (λx hx y hy=>less_cB rows n _ _ hn x y (by simpa using hx) (by simpa using hy) hl)
 refine zV zP6 mixed Tryz.func143 rfl (zVv rfl)<|zB<|zA rfl<|v0s<|veT<|zA rfl<|vr 4 (u6 (n:Int))<|vc (blen_c n (by omega))<|vrT 1<|vnt [fB1B (Ad A a) (Ad (Ae rowV rows) n)<|Ad ys m,b1,intB<|nsD<|AA n]<|zAl [] [] [Ah 2 0 n n Ab,iD 0,iD (n:Int),iD (↑(Bw n):Int),Bc (Fn.func 162) [] [Al 0 0]] [Ah 2 0 n n Ab,iD 0,iD (n:Int),iD (↑(Bw n):Int),Bc (Fn.func 162) [] [Al 0 0]] (LeL.refl _) (by exact hp) ?_;refine vnil<|zZ (True) [] (.inl rfl) ?_;refine⟨rfl,?_⟩;first|(rw[if_neg (by omega)];done)|(rw[if_neg (by omega)];rfl)
abbrev zEx(l:List D):Bk:=⟨l,4,1,Ab,Ac, .plain⟩
set_option maxHeartbeats 2000000 in
theorem sortedWB(A:List Nat)(a:Nat)(rows:List (List Va))(vals:List Bool)(n:Nat)(hn:rows.length=n)(hm:vals.length=n)(hb:n<=1000000)(hl:∀r∈rows,r.length<=1000000)(hd:rows.Nodup):
  Pure Ao 139 [.agg [.row (nsD A) a, .row (rows.map rowV) n, .row (vals.map bD) n]] [] (.agg [.row (nsD A) a, .row (((zCx (zA4 rows) (AA n)).map λi=>rows.getD i []).map rowV) n, .row (((zCx (zA4 rows) (AA n)).map λi=>vals.getD i Ac).map bD) n]):=by
 have hs:=zXf (nsD A) a (vals.map bD) n rows n (fB1B nl nl nl) hn hb hl hd;refine zH Tq_ok mixed Tryz.func139 rfl<|zB<|zA rfl<|v0s<|veT<|zB<|zA rfl<|vr 5 (True/\0<2/\(0:Int)<=(n:Int)/\(n:Int)<=(n:Int)/\(↑(8:Nat):Int)*(n:Int)<=(281474976710656:Int)/\(n:Int)<=(281474976710656:Int)/\0<1/\1=1)<|vs 3 (Ah 2 0 (Ap (n:Int)) (Ap (n:Int)*1) Ab) (Ah 2 0 n n Ab) (hd:=by simp(disch:=omega) only[AG,A2])<|veT<|zB<|zB<|zA rfl<|veT<|zF<|zBq (λ(i:Nat)(c:List Nat)=>fr 56 [(1,Al 0 0),(2,Al 1 0),(3,Ah 2 0 n n Ab),(13,iD (n:Int)),(14,iD (i:Int))]) (λ(i:Nat)(c:List Nat)=>[fB1B (.row (nsD A) a) (.row (rows.map rowV) n)<|.row (vals.map bD) n,fB1B nl nl nl,intB<|nsD c]) (λi c=>n-i) (λ(i:Nat)(c:List Nat)=>i<=n/\c.length=n/\c.take i=(AA n).take i) 0 (AI n 0) ?_ ?_ ?_
 ·exact⟨by omega,by simp,by simp⟩
 ·refine wkn (fr 56 [(1,Al 0 0),(2,Al 1 0),(3,Ah 2 0 n n Ab),(13,iD (↑n:Int)),(14,iD 0)]) [Ak [Ad (nsD A) a,Ad (Ae rowV rows) n,Ad (Ae bD vals) n] 94 0 Ac Ac Aj,Ak [nl,nl,nl] 94 0 Ac Ac Aj,Ak (repL n [iD 0]) 3 1 Ab Ac (kdOf Ac)] (zHs [(1,1),(2,1),(3,1),(13,1),(14,1)] (Al 0 0=Al 0 0/\Al 1 0=Al 1 0/\Ah 2 0 n n Ab=Ah 2 0 n n Ab/\iD (↑n:Int)=iD (↑n:Int)/\iD 0=iD (↑(0:Nat):Int)) 3 [] (by kernel_rfl) ⟨rfl,rfl,rfl,rfl,(by kernel_rfl)⟩ (by kernel_rfl) (λ_ _=>rfl) (by simp[updB,repL_ns,zEo]))
 rintro i c ⟨h1,h2,h3⟩;rcases Av i n with h4|h4
 ·refine zB<|zA rfl<|v0s<|veT<|zB<|vT ((i:Int)<(n:Int))<|zM<|zC<|zK<|zB<|zF<|zB<|zA rfl<|veT<|zA rfl<|vr 4 ((0:Int)<=(i:Int)/\(i:Int)<(n:Int))<|vo 20 2 (i)<|vr 1 (A1 (intB<|nsD c)=Ac/\Ab=Ab/\1=1/\i+1<=Aa (AJ<|intB<|nsD c)/\¬2∈[])<|vnil<|zD<|zC<|zK<|zA rfl<|vr 2 (i6 ((i:Int)+(1:Int)))<|vnil<|zC<|⟨i+1,c.set i i,⟨by omega,by simpa using h2,?_⟩,by omega,?_⟩
  ·have:=zRt 0 (a:=c) (b:=AA n) (i:=i) (by omega) (by simpa using h4) h3
   rwa[show(AA n).getD i 0=i by simp[AE,h4]]at this
  rw[<-set_ns];refine vk 3
 have e:c=AA n:=by
  have e1:i=n:=by omega
  rw[e1,AK (by omega),AK (by simp)]at h3;exact h3
 subst e;refine zB<|zA rfl<|v0s<|veT<|zB<|vF ((i:Int)<(n:Int))<|zAv<|zP<|zP<|zAk rfl<|zC<|zK<|zB<|zA rfl<|vrT 2<|vnt [fB1B (Ad (nsD A) a) (Ad (Ae rowV rows) n)<|Ad (Ae bD vals) n,fB1B nl nl nl,intB<|nsD<|AA n]<|zAl [] [] [Ah 2 0 n n Ab,Bc (Fn.func 162) [] [Al 0 0]] [Ah 2 0 n n Ab,Bc (Fn.func 162) [] [Al 0 0]] (LeL.refl _) (by exact hs) ?_;refine v0s<|veT<|zB<|zA rfl<|vr 5 (True/\0<3/\((1=1/\1<=3/\True)/\Ab=Ab)/\Ac=Ac/\Ab=Ab/\3=3/\3<=3)<|vnil<|zC<|vnn (fr 56 [(1,Al 0 0),(2,Al 1 0),(3,Ah 2 0 n n Ab),(5,Al 3 0),(25,Al 0 0),(26,Ad (nsD A) a),(27,Aq [Ad (nsD A) a,nl,nl])]) [Ak [Ad (nsD A) a,Ad (Ae rowV rows) n,Ad (Ae bD vals) n] 94 0 Ac (if n=0 then Ac else Ab) Aj,Ak [nl,nl,nl] 94 0 Ac Ac Aj,Ak (nsD<|zCx (zA4 rows)<|AA n) 3 1 Ab Ac Aj,Ak [Ad (nsD A) a,nl,nl] 94 0 Ac Ac Aj]<|zBf ((Bo (j:=3) (i:=1) (rowB []) rfl rfl rfl rfl).trans<|Bo (j:=3) (i:=2) (zEx []) rfl rfl rfl rfl) ?_;refine zB<|zB<|zA rfl<|v0s<|veT<|zF ?_;have hol:(zCx (zA4 rows) (AA n)).length=n:=by rw[(zB6 _ _).length_eq];simp
 have hom:∀i∈zCx (zA4 rows) (AA n),i<n:=λi h=>by
  have:=(zB6 _ _).mem_iff.1 h
  simpa using this
 generalize zCx (zA4 rows) (AA n)=od at*;refine zN (λ(t:Nat)=>fr 56 [(1,Al 0 0),(2,Al 1 0),(5,Al 3 0),(28,Ah 2 0 n n Ab),(29,iD (n:Int)),(30,iD (t:Int))]) (λ(t:Nat)=>[⟨[.row (nsD A) a,.row (rows.map rowV) n,.row (vals.map bD) n],94,0,Ac,if n=0 then Ac else Ab,.plain⟩,fB1B nl nl nl,intB<|nsD od,fB1B (.row (nsD A) a) (.osl 4 0 t t Ab)<|.osl 5 0 t t Ab,rowB<|((od.take t).map λi=>rows.getD i []).map rowV,zEx<|((od.take t).map λi=>vals.getD i Ac).map bD]) (λt=>n-t) (λ(t:Nat)=>t<=n) 0 ?_ ?_ ?_
 ·omega
 ·refine vk 6
 rintro t h5;rcases Av t n with h6|h6
 ·have hi:=hom _ (zDv od t (by omega));have e0:od.take (t+1)=od.take t++[od.getD t 0]:=by
   rw[BA (by omega),AE,AM (by omega)];rfl
  have e1:((od.take (t+1)).map λi=>rows.getD i []).map rowV=((od.take t).map λi=>rows.getD i []).map rowV++[rowV (rows.getD (od.getD t 0) [])]:=by rw[e0];simp
  have e2:((od.take (t+1)).map λi=>vals.getD i Ac).map bD=((od.take t).map λi=>vals.getD i Ac).map bD++[bD (vals.getD (od.getD t 0) Ac)]:=by rw[e0];simp
  focus
   refine zB<|zA rfl<|v0s<|veT<|zB<|vT ((t:Int)<(n:Int))<|zM<|zC<|zK<|zB<|zF<|zB<|zA rfl<|vr 1 ((0:Int)<=(t:Int)/\(t:Int)<(n:Int))<|vo 32 2 (t)<|vr 1 (0<Aa (Ag t<|AJ<|intB<|nsD od))<|vs 33 (Bb (Ag t<|AJ<|intB<|nsD od) Uk) (iD (↑(An od t 0):Int)) (hd:=by simp(disch:=omega) only[zA6])<|veT<|zB<|vd [0,2,4,1,3,5,6,7,8,9,10]<|vr 6 (True/\True/\0<2/\0<2/\ix (↑(An od t 0):Int) (n:Int) (Ae rowV rows≠[])) (vp 39 (An od t 0) (Ae rowV rows) ?_) ⟨trivial,trivial,(by omega),(by omega),⟨(by omega),⟨(by omega),(by exact zW)⟩⟩⟩;refine vwh 1 [] [] (0<Aa (Ag (An od t 0)<|Ae rowV rows)) ?_ ?_;rotate_left;refine vs 40 (Bb (Ag (An od t 0)<|Ae rowV rows) Uk) (rowV<|An rows (An od t 0) []) (hd:=by simp(disch:=omega) only[zAh])<|vr 4 (((1=1/\1<=1/\True)/\0<1/\1=1/\1<=16777216/\1<=9223372036854775807)/\(AU (rowB<|Ae rowV<|Ae (λ(i:Nat)=>An rows i [])<|Am t od)=Ab/\Aa (AJ<|rowB<|Ae rowV<|Ae (λ(i:Nat)=>An rows i [])<|Am t od)=t*1/\t=t*1/\AN (rowB<|Ae rowV<|Ae (λ(i:Nat)=>An rows i [])<|Am t od)=110/\AO (rowB<|Ae rowV<|Ae (λ(i:Nat)=>An rows i [])<|Am t od)=1/\1=1/\0<1/\0<24/\110=110/\(t+1)*24<=140737488355328/\1=1/\AR (Az<|rowB<|Ae rowV<|Ae (λ(i:Nat)=>An rows i [])<|Am t od)=Ac/\(Ac=Ac\/AS (Az<|rowB<|Ae rowV<|Ae (λ(i:Nat)=>An rows i [])<|Am t od)=Ab))/\True/\A1 (Ak [Ad (nsD A) a,Uk,Ah 5 0 t t Ab] 94 0 Ac Ac Aj)=Ac/\Ab=Ab/\1=1/\2<=3)<|vb 3 (Ak [Ad (nsD A) a,Ah 4 0 (t+1) ((t+1)*1) Ab,Ah 5 0 t t Ab] (AN<|Ak [Ad (nsD A) a,Uk,Ah 5 0 t t Ab] 94 0 Ac Ac Aj) (AO<|Ak [Ad (nsD A) a,Uk,Ah 5 0 t t Ab] 94 0 Ac Ac Aj) Ac Ac<|Az<|Ak [Ad (nsD A) a,Uk,Ah 5 0 t t Ab] 94 0 Ac Ac Aj) (Ak [Ad (nsD A) a,Ah 4 0 (t+1) (t+1) Ab,Ah 5 0 t t Ab] 94 0 Ac Ac Aj) (hd:=by simp(disch:=omega) only[A2])<|veT<|vd [0,2,4,1,3,5,6,7,8,9,10]<|vr 6 (True/\True/\0<1/\0<1/\ix (↑(An od t 0):Int) (n:Int) (Ae bD vals≠[])) ?_ ⟨trivial,trivial,(by omega),(by omega),⟨(by omega),⟨(by omega),(by exact zW)⟩⟩⟩;refine vp 49 (An od t 0) (Ae bD vals)<|vwh 1 [] [] (0<Aa (Ag (An od t 0)<|Ae bD vals)) ?_ ?_;rotate_left;refine vs 50 (Bb (Ag (An od t 0)<|Ae bD vals) Uk) (bD<|An vals (An od t 0) Ac) (hd:=by simp(disch:=omega) only[zKm])<|vr 4 (((1=1/\1<=1/\True)/\0<1/\1=1/\1<=16777216/\1<=9223372036854775807)/\(AU (Ak (Ae bD<|Ae (λ(i:Nat)=>An vals i Ac)<|Am t od) 4 1 Ab Ac Aj)=Ab/\Aa (Ae bD<|Ae (λ(i:Nat)=>An vals i Ac)<|Am t od)=t*1/\t=t*1/\AN (Ak (Ae bD<|Ae (λ(i:Nat)=>An vals i Ac)<|Am t od) 4 1 Ab Ac Aj)=4/\AO (Ak (Ae bD<|Ae (λ(i:Nat)=>An vals i Ac)<|Am t od) 4 1 Ab Ac Aj)=1/\1=1/\0<1/\0<1/\4=4/\(t+1)*1<=140737488355328/\1=1/\AR (Az<|Ak (Ae bD<|Ae (λ(i:Nat)=>An vals i Ac)<|Am t od) 4 1 Ab Ac Aj)=Ac/\(Ac=Ac\/AS (Az<|Ak (Ae bD<|Ae (λ(i:Nat)=>An vals i Ac)<|Am t od) 4 1 Ab Ac Aj)=Ab))/\True/\A1 (Ak [Ad (nsD A) a,Ah 4 0 (t+1) (t+1) Ab,Uk] 94 0 Ac Ac Aj)=Ac/\Ab=Ab/\1=1/\3<=3)<|vb 3 (Ak [Ad (nsD A) a,Ah 4 0 (t+1) (t+1) Ab,Ah 5 0 (t+1) ((t+1)*1) Ab] (AN<|Ak [Ad (nsD A) a,Ah 4 0 (t+1) (t+1) Ab,Uk] 94 0 Ac Ac Aj) (AO<|Ak [Ad (nsD A) a,Ah 4 0 (t+1) (t+1) Ab,Uk] 94 0 Ac Ac Aj) Ac Ac<|Az<|Ak [Ad (nsD A) a,Ah 4 0 (t+1) (t+1) Ab,Uk] 94 0 Ac Ac Aj) (Ak [Ad (nsD A) a,Ah 4 0 (t+1) (t+1) Ab,Ah 5 0 (t+1) (t+1) Ab] 94 0 Ac Ac Aj) (hd:=by simp(disch:=omega) only[A2])<|vnil<|zD<|zC<|zK<|zA rfl<|vr 2 (i6 ((t:Int)+(1:Int)))<|vnil<|zC ?_;rotate_left
  ·rw[A6,Ay];omega
  ·rw[A6,Ay];omega
  refine⟨t+1,by omega,by omega,?_⟩;rw[e1,e2];refine vk 6
 refine zB<|zA rfl<|v0s<|veT<|zB<|vF ((t:Int)<(n:Int))<|zAv<|zP<|zP<|zAk rfl<|zC<|zK<|zB<|zA rfl<|ve (3<=3/\Ac=Ac/\Ab=Ab/\3=3/\3<=3)<|zG<|zB3 (3<=3) (Aq [Ad (nsD A) a,Ad (Am t<|Ag 0<|AJ<|rowB<|Ae rowV<|Ae (λ(i:Nat)=>An rows i [])<|Am t od) t,Ad (Am t<|Ag 0<|AJ<|zEx<|Ae bD<|Ae (λ(i:Nat)=>An vals i Ac)<|Am t od) t]) (Aq [Ad (nsD A) a,Ad (Am t<|Ae rowV<|Ae (λ(i:Nat)=>An rows i [])<|Am t od) t,Ad (Am t<|Ae bD<|Ae (λ(i:Nat)=>An vals i Ac)<|Am t od) t]) (.inr rfl) (by simp(disch:=omega) only[AP]) ?_ (hc:=by omega);have e:t=n:=by omega
 subst e;rw[AK (by omega:od.length<=t),AK (by simp[hol]),AK (by simp[hol])]
abbrev zAw(l:List (Rw×Bool)):List D:=(l.map (·.1)).map rowV
abbrev zA3(l:List (Rw×Bool)):List D:=(l.map (·.2)).map bD
abbrev fcDB(A:List Nat)(l:List (Rw×Bool)):D:= .agg [.row (nsD A) A.length, .row (zAw l) l.length, .row (zA3 l) l.length]
theorem zTu(A:List Nat)(l:List (Rw×Bool))(hb:l.length<=1000000)(hl:∀p∈l,p.1.length<=1000000)(hd:Ndk l):Pure Ao 139 [fcDB A l] [] (fcDB A (srtL l)):=by
 have h:=sortedWB A A.length (l.map (·.1)) (l.map (·.2)) l.length (by simp) (by simp) hb (λr hr=>by
  obtain⟨p,hp,rfl⟩:=AD.1 hr;exact hl p hp) (show(l.map (·.1)).Nodup from hd)
 have hi:∀i∈zCx (zA4 (l.map (·.1))) (AA l.length),i<l.length:=λi h=>by
  have:=(zB6 _ _).mem_iff.1 h
  simpa using this
 have e1:(zCx (zA4 (l.map (·.1))) (AA l.length)).map (λi=>(l.map (·.1)).getD i [])=(srtL l).map (·.1):=by
  rw[<-zEl hd,A8];refine BG λi hh=>?_;simp[AE,hi i hh]
 have e2:(zCx (zA4 (l.map (·.1))) (AA l.length)).map (λi=>(l.map (·.2)).getD i Ac)=(srtL l).map (·.2):=by
  rw[<-zEl hd,A8];refine BG λi hh=>?_;simp[AE,hi i hh]
 rw[e1,e2]at h;have e3:=zZl hd;show Pure Ao _ _ [] (.agg [.row (nsD A) A.length, .row (zAw (srtL l)) (srtL l).length, .row (zA3 (srtL l)) (srtL l).length]);rw[e3];exact h
set_option maxHeartbeats 1000000 in
theorem zX8(A U:List Nat)(a u nv:Nat)(ha:A.length=a)(hu:U.length=u)(la:a<=32)(lu:u<=32)(hA:∀v∈A,v<32)(hU:∀v∈U,v<32)(rows:List (List Va))(n:Nat)(hn:rows.length=n)(ln:n<=1000000)(hr:∀r∈rows,r.length=a)(hv:∀r∈rows,∀v∈r,Vs v)(y:List D)(m:Nat)(hm:m<4294967296):
  Pure Ao 138 [.agg [.row (nsD A) a, .row (rows.map rowV) n, .row y nv], .row (nsD U) u,u32D m] [] (.agg (flC (zBp (λv=>(msk A&&&m).testBit v) U,allK (rows.map λr=>zQ r (zBp (λv=>(msk A&&&m).testBit v) A))))):=by
 subst hn ha hu;have hma:=zCf hA;have h1:=zLi A _ rfl (by omega) hA (rows.map rowV) y rows.length nv;have h5:=zWz (b:=m) hma;have h2:=zD5 U U _ rfl hU _ h5;have h3:=zD5 A A _ rfl hA _ h5;refine zH zBt mixed Tryz.func138 rfl<|zB<|zA rfl<|v0s<|veT<|zB<|zA rfl<|vr 1 (3<=3)<|vc (h1)<|vrT 2<|vs 15 (As<|AF Ax<|AT Ax (↑(AQ (Aw 32 (↑(msk A):Int)&&&Aw 32 (m:Int))):Int)) (dig (msk A&&&m)) (hd:=by simp(disch:=omega) only[bv_and,zBx])<|veT<|zB<|zA rfl<|vrT 2<|vc (h2)<|ve (True/\((1=1/\1<=2/\1=1/\2<=2/\True)/\Ab=Ab)/\Ac=Ac/\Ab=Ab/\2=2/\2<=2)<|zB<|zA rfl<|vr 3 (True/\0<3)<|vc (h3)<|veT<|zB<|zB<|zA rfl<|ve (True/\0<2)<|zF ?_;obtain⟨cA,hcA⟩:∃cA,cA=zBp (λv=>(msk A&&&m).testBit v) A:=⟨_,rfl⟩;obtain⟨cU,hcU⟩:∃cU,cU=zBp (λv=>(msk A&&&m).testBit v) U:=⟨_,rfl⟩;have hcl:∀c∈cA,c<A.length:=λc h=>by
  rw[hcA]at h;simpa using(A4.1 h).1
 have hcn:cA.length<=1000:=by rw[hcA];exact AB (Bp _ _) (by simp;omega)
 rw[<-hcA,<-hcU];refine zN (λ(i:Nat)=>fr 39 [(6,Al 1 0),(8,Al 3 0),(9,Ad (nsD cA)<|Aa cA),(26,Ad (Ae rowV rows)<|Aa rows),(27,iD (Aa rows:Int)),(28,iD (i:Int))]) (λi=>[fB1B (.row (nsD A) A.length) (.row (rows.map rowV) rows.length)<|.row y nv,flB1 nl<|.val<|.map Au,mapB<|allK<|(rows.map λr=>zQ r cA).take i,flB1 (.row (nsD cU) cU.length)<|.mref 2]) (λi=>rows.length-i) (λi=>i<=rows.length) 0 ?_ ?_ ?_
 ·omega
 ·refine vk 4
 rintro i h6;rcases Av i rows.length with h7|h7
 ·have hd:((rows.map rowV).drop i).headD .unk=rowV (rows.getD i []):=zDe rowV rows [] i h7;have hm:rows.getD i []∈rows:=by rw[AE,AM h7];exact A9 h7
  have hk:=zSp (rows.getD i []) cA _ _ rfl rfl (by rw[hr _ hm];exact hcl) (hv _ hm) (ln:=by rw[hr _ hm];omega);have hs:=zW0 (rows.map λr=>zQ r cA) i (by simpa using h7);rw[show(rows.map λr=>zQ r cA).getD i []=zQ (rows.getD i []) cA by simp[AE,h7]]at hs;generalize allK ((rows.map λr=>zQ r cA).take i)=K at*;focus
   refine zB (zA rfl (v0s (veT (zB (vT ((i:Int)<(Aa rows:Int)) (zM (zC (zK (zB (zF (zB (zA rfl (vr 1 (ix (i:Int) (Aa rows:Int) (Ae rowV rows≠[])) ?_ ⟨(by omega),⟨(by omega),(by exact zW)⟩⟩)))))))))))));refine vp 30 (i) (Ae rowV rows) (vr 1 (0<Aa (Ag i (Ae rowV rows))) (vsh 31 hd (veT (vd [0,2,3,1,4,5] (vr 4 (True/\0<1) (vc (hk) (vwh 1 [] [] (A1 (mapB K)=Ac/\zX (Bd (Bf Bg "string" 1 16 Ab 8 8 (Ar (AL (A_ #[]))) Ab #[])) (AL (bs (idR (zQ (An rows i []) cA))))=Ab/\BJ (Ae kyv K) (zX (Bd (Bf Bg "string" 1 16 Ab 8 8 (Ar (AL (A_ #[]))) Ab #[])))=Ab/\¬2∈[]) ?_ ?_)))))));rotate_left;refine vnil (zD (zC (zK (zA rfl (vr 2 (i6 ((i:Int)+(1:Int))) (vnil (zC ?_)))))));rotate_left
  ·exact⟨rfl,rfl,zDh _,by simp⟩
  refine⟨i+1,by omega,by omega,?_⟩;rw[hs];have hmp:=mput_b K (zQ (rows.getD i []) cA);refine wkn (fr 39 [(6,Al 1 0),(8,Al 3 0),(9,Ad (nsD cA) (Aa cA)),(11,Ad (zL (An rows i [])) (Aa (An rows i []))),(26,Ad (Ae rowV rows) (Aa rows)),(27,iD (Aa rows:Int)),(28,iD (↑(i+1):Int)),(32,Al 3 1),(33,D.mref 2),(34,Ad (zL (An rows i [])) (Aa (An rows i []))),(35,Ad (nsD cA) (Aa cA)),(36,As (AL (bs (idR (zQ (An rows i []) cA))))),(37,iD (↑(i+1):Int))]) [fB1B (Ad (nsD A) (Aa A)) (Ad (Ae rowV rows) (Aa rows)) (Ad y nv),flB1 nl (As (Value.map Au)),mput (mapB K) (Ae kyv K) (AL (bs (idR (zQ (An rows i []) cA)))) (bD Ab),flB1 (Ad (nsD cU) (Aa cU)) (D.mref 2)] ?_;rw[hmp];refine vk 4
 refine zB<|zA rfl<|v0s<|veT<|zB<|vF ((i:Int)<(Aa rows:Int))<|zAv<|zP<|zP<|zAk rfl<|zC<|zK<|zB<|zA rfl<|ve (2<=2/\Ac=Ac/\Ab=Ab/\2=2/\2<=2)<|zG<|vre (2<=2) (Aq [Ad (nsD cU)<|Aa cU,D.mfz (Ae kyv<|allK<|Am i<|Ae (λ(r:List Va)=>zQ r cA) rows)<|Ae (λ(x:List Va)=>bD Ab)<|allK<|Am i<|Ae (λ(r:List Va)=>zQ r cA) rows]) (.inr rfl) ?_;rw[AK (by simp;omega)]
abbrev fcCB(f:FnB):List D:=[.row (nsD f.1) f.1.length, .row (zAw f.2) f.2.length, .row (zA3 f.2) f.2.length]
theorem zSw(f:FnB):(fcCB f).length=3:=rfl
structure FVB(f:FnB):Prop where
 asc:Asc f.1
 len:∀p∈f.2,p.1.length=f.1.length
 vs:∀p∈f.2,∀x∈p.1,Vs x
 sz:f.2.length<=1000000
 sm:∀p∈f.2,okB p.2
 nd:Ndk f.2
theorem getD_fstB(l:List (Rw×Bool)){k:Nat}(h:k<l.length):(l.map (·.1)).getD k []=(l.getD k Ai).1:=by simp[AE,h]
theorem getD_sndB(l:List (Rw×Bool)){k:Nat}(h:k<l.length):(l.map (·.2)).getD k Ac=(l.getD k Ai).2:=by simp[AE,h]
set_option maxHeartbeats 8000000 in
theorem zXu(f g:FnB)(os:List FnB)(hf:FVB f)(hg:FVB g)(ho:∀o∈os,FVB o)(hl:os.length<=1000)(hsz:f.2.length*g.2.length<=1000000):
  Pure Ao 85 [booD,fcDB f.1 f.2,fcDB g.1 g.2, .row (os.flatMap fcCB) os.length] [] (fcDB (un f.1 g.1) (srtL ((zCa Sb.mul f.1 f.2 g.1 g.2).filter λp=>os.all λo=>okO (un f.1 g.1) p.1 (faNB o)))):=by
 obtain⟨A,la⟩:=f;obtain⟨B,lb⟩:=g;obtain⟨hA,al,av,as',am,nda⟩:=hf;obtain⟨hB,bl,bv,bs',bm,ndb⟩:=hg;simp only at hA al av as' am nda hB bl bv bs' bm ndb hsz⊢;have nA:=zCw hA;have nB:=zCw hB;have hmA:=zCf hA.2;have hmB:=zCf hB.2;have hmo:=zP1 hmA hmB;have hma:=zWz (b:=msk B) hmA;have sA:=zLi A _ rfl (by omega) hA.2 (zAw la) (zA3 la) la.length la.length;have sB:=zLi B _ rfl (by omega) hB.2 (zAw lb) (zA3 lb) lb.length lb.length;have hU:=zZc A B;have hmu:=msk_un hA.2 hB.2;have hmem:=zKa (msk A|||msk B) hmo;rw[hmu,zHh hU]at hmem;have nU:=zCw hU;rw[hmu]at hmo;have cA:=zD5 A A _ rfl hA.2 (msk A&&&msk B) hma;have cB:=zD5 B B _ rfl hB.2 (msk A&&&msk B) hma;obtain⟨U,eU⟩:∃U,U=un A B:=⟨_,rfl⟩;rw[<-eU]at hU hmu hmem nU hmo⊢;refine zH (T:=Tm) Tm_ok mixed Tryz.func85 rfl<|zB<|zA rfl<|v0s<|veT<|zB<|vd [0,1,2,3,4,5]<|vr 1 (3<=3)<|vc (sA)<|vr 1 (3<=3)<|vc (sB)<|vrT 1<|vs 30 (As<|AF Ax<|AT Ax (↑(AQ (Aw 32 (↑(msk A):Int)|||Aw 32 (↑(msk B):Int))):Int)) (dig<|msk U) (hd:=by simp(disch:=omega) only[zWs,zBx,hmu])<|veT<|zB<|zA rfl<|vrT 1<|vc (hmem)<|ve (((1=1/\1<=3/\True)/\Ab=Ab)/\Ac=Ac/\Ab=Ab/\3=3/\3<=3)<|zB<|zA rfl<|veT<|zB<|zB<|zA rfl<|veT<|zF<|zN (λ(i:Nat)=>fr 147 [(0,booD),(5,Al 0 0),(6,Al 1 0),(8,Al 2 0),(9,dig<|msk U),(10,Al 3 0),(11,Ah 4 0 i (i*2) Ab),(34,Ad (Af fcCB os)<|Aa os),(35,iD (Aa os:Int)),(36,iD (i:Int))]) (λ(i:Nat)=>[fB1B (.row (nsD A) A.length) (.row (zAw la) la.length)<|.row (zA3 la) la.length,fB1B (.row (nsD B) B.length) (.row (zAw lb) lb.length)<|.row (zA3 lb) lb.length,fB1B nl nl nl,fB1B (.row (nsD U) U.length) nl nl,fltB<|((os.take i).map (zD3 U)).flatMap flC]) (λi=>os.length-i) (λ(i:Nat)=>i<=os.length) 0 ?_ ?_ ?_
 ·omega
 ·refine vk 4
 rintro i h1;rcases Av i os.length with h2|h2
 ·have hom:os.getD i Ai∈os:=by rw[AE,AM h2];exact A9 h2
  obtain⟨hO,ol,ov,os2,_,_⟩:=ho _ hom;have hg2:=zDg zSw os i h2;have hle:=zFp zSw os i h2;have hne:=zEi zSw (by decide) os;have he:((os.take (i+1)).map (zD3 U)).flatMap flC=((os.take i).map (zD3 U)).flatMap flC++flC (zD3 U (os.getD i Ai)):=by
   rw[zBm os i h2];simp
  have hlb:(((os.take i).map (zD3 U)).flatMap flC).length=i*2:=by rw[zG3 zJo];simp;omega
  have nO:=zCw hO;generalize os.getD i Ai=o at*;have hfo:=zX8 o.1 U _ _ o.2.length rfl rfl nO nU hO.2 hU.2 (o.2.map (·.1)) _ (by simp) os2 (λr hr=>by
   obtain⟨p,hp,rfl⟩:=AD.1 hr;exact ol p hp) (λr hr=>by
   obtain⟨p,hp,rfl⟩:=AD.1 hr;exact ov p hp) (zA3 o.2) (msk U) hmo
  refine zB<|zA rfl<|v0s<|veT<|zB<|vT ((i:Int)<(Aa os:Int))<|zM<|zC<|zK<|zB<|zF<|zB<|zA rfl<|vr 2 (ix (i:Int) (Aa os:Int) (Af fcCB os≠[])/\3<=Aa (Ag (i*3)<|Af fcCB os))<|vs 39 (Aq<|Am 3<|Ag (i*3)<|Af fcCB os) (Aq<|fcCB o) (hd:=by simp(disch:=omega) only[hg2])<|ve (Ac=Ac/\Ab=Ab/\3=3/\3<=3)<|zA rfl<|vr 5 (3<=3/\True/\0<3)<|vc (hfo)<|vr 3 (((2=2/\2<=2/\True)/\0<2/\2=2/\2<=16777216/\1<=9223372036854775807)/\AU (fltB<|Af flC<|Ae (zD3 U)<|Am i os)=Ab/\Aa (AJ<|fltB<|Af flC<|Ae (zD3 U)<|Am i os)=i*2/\i*2=i*2/\AN (fltB<|Af flC<|Ae (zD3 U)<|Am i os)=203/\AO (fltB<|Af flC<|Ae (zD3 U)<|Am i os)=2/\2=2/\0<2/\0<32/\203=203/\(i+1)*32<=140737488355328/\2=2/\AR (Az<|fltB<|Af flC<|Ae (zD3 U)<|Am i os)=Ac/\(Ac=Ac\/AS (Az<|fltB<|Af flC<|Ae (zD3 U)<|Am i os)=Ab))<|vnil<|zD<|zC<|zK<|zA rfl<|vr 2 (i6 ((i:Int)+(1:Int)))<|vnil<|zC<|⟨i+1,by omega,by omega,?_⟩;rw[he];refine vk 5
 rw[AK h2];obtain rfl:i=os.length:=by omega
 obtain⟨c1,ec1⟩:∃c,c=zBp (λv=>(msk A&&&msk B).testBit v) A:=⟨_,rfl⟩;obtain⟨c2,ec2⟩:∃c,c=zBp (λv=>(msk A&&&msk B).testBit v) B:=⟨_,rfl⟩;rw[<-ec1]at cA;rw[<-ec2]at cB;have hl1:∀c∈c1,c<A.length:=λc h=>by rw[ec1]at h;exact(zGw.1 h).1
 have hl2:∀c∈c2,c<B.length:=λc h=>by rw[ec2]at h;exact(zGw.1 h).1
 have hn1:c1.length<=32:=by rw[ec1];exact AB (zH5 _ _) nA
 have hn2:c2.length<=32:=by rw[ec2];exact AB (zH5 _ _) nB
 refine zB<|zA rfl<|v0s<|veT<|zB<|vF ((Aa os:Int)<(Aa os:Int))<|zAv<|zP<|zP<|zAk rfl<|zC<|zK<|zB<|vd [0,1,2,3,4,5]<|vr 1 (3<=3)<|vc (sA)<|vr 1 (3<=3)<|vc (sB)<|vrT 1<|vs 53 (As<|AF Ax<|AT Ax (↑(AQ (Aw 32 (↑(msk A):Int)&&&Aw 32 (↑(msk B):Int))):Int)) (dig (msk A&&&msk B)) (hd:=by simp(disch:=omega) only[bv_and,zBx])<|veT<|zB<|vd [0,2,4,6,1,3,5,7,8,9]<|vr 5 (True/\True/\0<3)<|vc (cA)<|vr 1 (0<3)<|vc (cB)<|veT<|zB<|zA rfl<|veT<|zB<|zB<|zA rfl<|ve (True/\0<2)<|zF ?_;obtain⟨inf,ty⟩:=gty;obtain⟨Lb,eLb⟩:∃L:List Rw,L=(lb.map (·.1)).map λr=>zQ r c2:=⟨_,rfl⟩;have hLb:Lb.length=lb.length:=by rw[eLb];simp
 obtain⟨base,ebase⟩:∃base:List Bk,base=[fB1B (.row (nsD A) A.length) (.row (zAw la) la.length) (.row (zA3 la) la.length),fB1B (.row (nsD B) B.length) (.row (zAw lb) lb.length) (.row (zA3 lb) lb.length),fB1B nl nl nl,fB1B (.row (nsD U) U.length) nl nl,fltB ((os.map (zD3 U)).flatMap flC)]:=⟨_,rfl⟩;have hbb:bBL 5 base=true:=by rw[ebase];rfl
 refine zA2 (λ(k:Nat)(st:List Bk)(ns:List Nat)=>fr 147 [(0,booD),(5,Al 0 0),(6,Al 1 0),(8,Al 2 0),(10,Al 3 0),(11,Ah 4 0 (Aa os) (Aa os*2) Ab),(15,Ad (nsD c1)<|Aa c1),(16,Ad (nsD c2)<|Aa c2),(17,D.mref 5),(64,Ad (zAw lb)<|Aa lb),(65,iD (Aa lb:Int)),(66,iD (k:Int))]) (λ(k:Nat)(st:List Bk)(ns:List Nat)=>st) (λk st ns=>lb.length-k) (λ(k:Nat)(st:List Bk)(ns:List Nat)=>k<=lb.length/\Grp 5 206 3 (Lb.take k) base st ns) 0 [fB1B (.row (nsD A) A.length) (.row (zAw la) la.length)<|.row (zA3 la) la.length,fB1B (.row (nsD B) B.length) (.row (zAw lb) lb.length)<|.row (zA3 lb) lb.length,fB1B nl nl nl,fB1B (.row (nsD U) U.length) nl nl,fltB<|(os.map (zD3 U)).flatMap flC,⟨[],206,0,Ac,Ac,.map []⟩] [] ?_ ?_ ?_
 ·exact⟨by omega,⟨by rw[ebase];rfl,rfl,rfl,List.nodup_nil,λj k r h=>by simp at h⟩⟩
 ·refine vk 6
 rintro k st ns ⟨h3,hG⟩;rcases Av k lb.length with h4|h4
 ·have hne:zAw lb≠[]:=zW (h:=by simp;omega);have hrow:(lb.map (·.1)).getD k []∈lb.map (·.1):=by
   rw[AE,AM (by simpa using h4)];exact A9 _
  obtain⟨p,hp,he⟩:=AD.1 hrow;have hlen2:=bl p hp;have hvs:=bv p hp;rw[he]at hlen2 hvs;have hx1:=zAh (lb.map (·.1)) k (by simpa using h4);have hts:Lb.take (k+1)=Lb.take k++[zQ ((lb.map (·.1)).getD k []) c2]:=by
   rw[BA (by omega)];congr 1;simp only[eLb,List.getElem_map,AE,By,AM h4,Option.map_some,Cf]
  generalize (lb.map (·.1)).getD k []=row at*;have hk:=zSp row c2 _ _ rfl rfl (by rw[hlen2];exact hl2) hvs;refine zB<|zA rfl<|zXc [] [] [] (True) [(67,bD<|decide ((k:Int)<(Aa lb:Int)))] (by kernel_rfl) trivial ?_;refine zB<|vT ((k:Int)<(Aa lb:Int))<|zM<|zC<|zK<|zB<|zF<|zB<|zA rfl<|zT 2 [] [] (ix (k:Int) (Aa lb:Int) (zAw lb≠[])) [(68,iD (k:Int)),(69,AH<|Ag (Ap (k:Int)*1)<|zAw lb)] ?_ (hc:=⟨(by omega),⟨(by omega),(by assumption)⟩⟩);refine zAn 69 (AH<|Ag (Ap (k:Int)*1)<|zAw lb) (AH<|Ag k<|zAw lb) (by simp(disch:=omega) only[AG,A2]) ?_;refine zT 1 [] [] (0<Aa (Ag k<|zAw lb)) [(70,Bb (Ag k<|zAw lb) Uk)] ?_ (hc:=by(simp;omega));refine zAn 70 (Bb (Ag k<|zAw lb) Uk) (rowV row) (by simp(disch:=omega) only[hx1]) ?_;refine zXc [] [] [67,68,69,70] (True) [(18,iD (k:Int)),(19,Ad (zL row)<|Aa row)] (by kernel_rfl) trivial ?_;refine zB<|zA rfl<|zT 2 [] [] (True) [(71,Ad (zL row)<|Aa row),(72,Ad (nsD c2)<|Aa c2)] ?_ (hc:=trivial);refine st_callr [Ad (zL row)<|Aa row,Ad (nsD c2)<|Aa c2] (by kernel_rfl) (by exact hk) ?_;refine zT 1 [] [] (True) [(20,As<|AL<|bs<|idR<|zQ row c2)] ?_ (hc:=trivial);refine zAm ?_ (by kernel_rfl);refine zC (zVp λs0 hs0=>?_);refine zK<|zA rfl<|zTs (.mref 5) rfl rfl rfl (by rw[hs0];kernel_rfl)<|zTs (.val<|kyv<|zQ row c2) rfl rfl rfl (by rw[hs0];kernel_rfl)<|zTs (.mref 5) rfl rfl rfl (by rw[hs0];kernel_rfl)<|zTs (.val<|kyv<|zQ row c2) rfl rfl rfl (by rw[hs0];kernel_rfl) ?_;refine zZk (m:=5) (L:=Lb.take k) (r:=zQ row c2) (i:=k) (base:=base) (ns:=ns) (a1:=76) (a2:=77) (a3:=18) (b1:=74) (b2:=75) (s1:=78) (s2:=79) (s3:=80) (s4:=81) ty (λ_ _=>rfl) (by simp;omega) (by omega) rfl rfl rfl rfl rfl rfl rfl rfl rfl rfl rfl rfl rfl rfl rfl (by rw[hs0];kernel_rfl) (by decide) (by rw[hs0];kernel_rfl) (by rw[hs0];kernel_rfl) (by rw[hs0];kernel_rfl) (by rw[hs0];kernel_rfl) (by rw[hs0];kernel_rfl) (by rw[hs0];kernel_rfl) hbb hG ?_;intro st' ns' e1 e3 e4 hG';refine zAm ?_ (by kernel_rfl);refine zD<|zC<|zVq [74,75,76,77,78,79,80,81] (sl':=s0) (by rw[hs0];kernel_rfl) ?_;subst hs0;refine zA rfl<|zT 2 [] [] (i6 ((k:Int)+(1:Int))) [(66,iD (↑(k+1):Int)),(82,iD (↑(k+1):Int))] ?_;refine zAm ?_ (by kernel_rfl);refine zC<|⟨k+1,st',ns',⟨by omega,by rw[hts];exact hG'⟩,by omega,?_⟩;refine vkp [0,5,6,8,10,11,15,16,17,64,65,66]
 rw[AK (by omega)]at hG;subst ebase;refine zB<|zA rfl<|zXc [] [] [] (True) [(67,bD<|decide ((k:Int)<(Aa lb:Int)))] (by kernel_rfl) trivial ?_;refine zB<|vF ((k:Int)<(Aa lb:Int))<|zAv<|zP<|zP<|zAk rfl<|zC ?_;have hfl:=zE6 zJo (os.map (zD3 U)) os.length (by simp);refine zBf ((zY6 (m:=5) (s:=17) (λ_ _=>rfl) (by kernel_rfl) (by kernel_rfl) hbb hG).trans<|((Bo (j:=3) (i:=1) (rowB []) rfl rfl rfl rfl).trans (Bo (j:=3) (i:=2) (zEx []) rfl rfl rfl rfl)).trans<|BD (s:=11) (k:=4) (off:=0) (n:=os.length) (m:=os.length*2) (wh:=Ab) (cs:=(os.map (zD3 U)).flatMap flC) (by kernel_rfl) (show Ar (Ad ((((os.map (zD3 U)).flatMap flC).drop 0).take (os.length*2)) os.length,[4])=_ by rw[AP,hfl])) ?_;refine zB<|zB<|zA rfl<|v0s<|ve (True/\0<2)<|zF ?_;clear hG h3 h4;obtain⟨ok,eok⟩:∃ok:Rw->Bool,ok=λs=>os.all λo=>okO U s (faNB o):=⟨_,rfl⟩;have hpf:((zCa Sb.mul A la B lb).filter λp=>os.all λo=>okO U p.1 (faNB o))=la.flatMap λp=>zD0 A B ok p (zGf A B lb p):=by
  rw[eok];exact zNk A B lb (λs=>os.all λo=>okO U s (faNB o)) la
 rw[hpf];refine zBq (λ(i:Nat)(O:List (Rw×Bool))=>fr 147 [(0,booD),(5,Al 0 0),(6,Al 1 0),(8,Al 2 0),(10,Al 3 0),(11,D.osr 4 0 (Aa os) (Aa os*2) Ab<|Af flC<|Ae (zD3 U) os),(15,Ad (nsD c1)<|Aa c1),(17,D.mfz (Ae kyv<|allK Lb)<|zV4 Lb),(84,Ad (zAw la)<|Aa la),(85,iD (Aa la:Int)),(86,iD (i:Int))]) (λ(i:Nat)(O:List (Rw×Bool))=>[fB1B (.row (nsD A) A.length) (.row (zAw la) la.length)<|.row (zA3 la) la.length,fB1B (.row (nsD B) B.length) (.row (zAw lb) lb.length)<|.row (zA3 lb) lb.length,fB1B nl nl nl,fB1B (.row (nsD U) U.length) (.osl 5 0 O.length O.length Ab)<|.osl 6 0 O.length O.length Ab,⟨(os.map (zD3 U)).flatMap flC,203,2,Ab,Ab,.plain⟩,rowB<|zAw O,zEx<|zA3 O]) (λi O=>la.length-i) (λ(i:Nat)(O:List (Rw×Bool))=>i<=la.length/\O=(la.take i).flatMap λp=>zD0 A B ok p (zGf A B lb p)) 0 [] ?_ ?_ ?_
 ·exact⟨by omega,by simp⟩
 ·refine vk 7
 rintro i O ⟨h3,hO⟩;rcases Av i la.length with h4|h4
 ·have hne:zAw la≠[]:=zW (h:=by simp;omega);have hne2:zA3 la≠[]:=zW (h:=by simp;omega);have hx1:=zAh (la.map (·.1)) i (by simpa using h4);have hx2:=zKm (la.map (·.2)) i (by simpa using h4);have hpm:la.getD i Ai∈la:=by rw[AE,AM h4];exact A9 h4
  have hr1:(la.map (·.1)).getD i []=(la.getD i Ai).1:=by simp[AE,h4]
  have hr2:(la.map (·.2)).getD i Ac=(la.getD i Ai).2:=by simp[AE,h4]
  have hfs:=zX7 (A:=A) (B:=B) (lb:=lb) (ok:=ok) la i h4;have hOl:O.length<=i*lb.length:=by rw[hO];exact zQw la i
  have hmul:(i+1)*lb.length<=la.length*lb.length:=Bm _ h4;rw[Nat.succ_mul]at hmul;rw[<-hO]at hfs;have hlen2:=al _ hpm;have hvs:=av _ hpm;have hsm:=am _ hpm;rw[hr1]at hx1;rw[hr2]at hx2;generalize la.getD i Ai=p at*;have hk:=zSp p.1 c1 _ _ rfl rfl (by rw[hlen2];exact hl1) hvs;have hlk:=look_g Lb (zQ p.1 c1);have hps:=pos_selB (lb:=lb) hA hB p;rw[<-ec1,<-ec2,<-eLb]at hps;by_cases hin:zQ p.1 c1∈Lb
  ·rw [if_pos hin]at hlk;have hposk:∀k∈posL Lb (zQ p.1 c1),k<lb.length:=λk hk=>by rw[<-hLb];exact pos_lt hk
   generalize posL Lb (zQ p.1 c1)=pos at*;focus
    refine zB (zA rfl (v0s (veT (zB (vT ((i:Int)<(Aa la:Int)) (zM (zC (zK (zB (zF (zB (zA rfl (vr 2 (ix (i:Int) (Aa la:Int) (zAw la≠[])) (vp 89 (i) (zAw la) (vr 1 (0<Aa (Ag i (zAw la))) (vsh 90 hx1 (veT (zB (zA rfl (vrT 3 (vc (hk) (vwh 1 [] [] (zX (Bd (Bf Bg "string" 1 16 Ab 8 8 (Ar (AL (A_ #[]))) Ab #[])) (AL (bs (idR (zQ (Bs p) c1))))=Ab/\BJ (Ae kyv (allK Lb)) (zX (Bd (Bf Bg "string" 1 16 Ab 8 8 (Ar (AL (A_ #[]))) Ab #[])))=Ab) ?_ ?_))))))))))))))))))))));rotate_left;refine vsh 95 hlk (veT (zF ?_));rotate_left
   ·exact⟨rfl,zDh _⟩
   have hsl:(zGf A B lb p).length=pos.length:=by rw[<-hps,Ay]
   have hsb:(zGf A B lb p).length<=lb.length:=Bp _ _;have hts:=λt h=>zXr (A:=A) (B:=B) (ok:=ok) p (zGf A B lb p) t h;refine zBq (λ(t:Nat)(R:List (Rw×Bool))=>fr 147 [(0,booD),(5,Al 0 0),(6,Al 1 0),(8,Al 2 0),(10,Al 3 0),(11,D.osr 4 0 (Aa os) (Aa os*2) Ab<|Af flC<|Ae (zD3 U) os),(15,Ad (nsD c1)<|Aa c1),(17,D.mfz (Ae kyv<|allK Lb)<|zV4 Lb),(21,iD (i:Int)),(22,Ad (zL<|Bs p)<|Aa<|Bs p),(84,Ad (zAw la)<|Aa la),(85,iD (Aa la:Int)),(86,iD (i:Int)),(95,Ad (nsD pos)<|Aa pos),(96,iD (Aa pos:Int)),(97,iD (t:Int))]) (λ(t:Nat)(R:List (Rw×Bool))=>[fB1B (.row (nsD A) A.length) (.row (zAw la) la.length)<|.row (zA3 la) la.length,fB1B (.row (nsD B) B.length) (.row (zAw lb) lb.length)<|.row (zA3 lb) lb.length,fB1B nl nl nl,fB1B (.row (nsD U) U.length) (.osl 5 0 R.length R.length Ab)<|.osl 6 0 R.length R.length Ab,⟨(os.map (zD3 U)).flatMap flC,203,2,Ab,Ab,.plain⟩,rowB<|zAw R,zEx<|zA3 R]) (λt R=>pos.length-t) (λ(t:Nat)(R:List (Rw×Bool))=>t<=pos.length/\R=O++zD0 A B ok p ((zGf A B lb p).take t)) 0 O ?_ ?_ ?_
   ·exact⟨by omega,by simp[zD0]⟩
   ·refine vk 7
   rintro t R ⟨h5,hR⟩;have hRl:R.length<=O.length+t:=by
    have h6:=zQh (A:=A) (B:=B) (ok:=ok) p ((zGf A B lb p).take t);rw[hR,AZ];simp only[BO]at h6;omega
   rcases Av t pos.length with h6|h6
   ·have hne3:zAw lb≠[]:=zW (h:=by simp;omega);have hne4:zA3 lb≠[]:=zW (h:=by simp;omega);have hkm:=hposk _ (zDv pos t h6);have hsg:(zGf A B lb p).getD t Ai=lb.getD (pos.getD t 0) default:=by
     rw[<-hps];simp[AE,h6]
    have hqm:lb.getD (pos.getD t 0) Ai∈lb:=by rw[AE,AM hkm];exact A9 hkm
    have hy1:=zAh (lb.map (·.1)) (pos.getD t 0) (by simpa using hkm);have hy2:=zKm (lb.map (·.2)) (pos.getD t 0) (by simpa using hkm);have hr3:=getD_fstB lb hkm;have hr4:=getD_sndB lb hkm;have hp1:0<((zAw lb).drop (pos.getD t 0)).length:=by rw[A6,Ay,Ay];omega
    have hp2:0<((zA3 lb).drop (pos.getD t 0)).length:=by rw[A6,Ay,Ay];omega
    have ht1:=hts t (by omega);rw[hsg]at ht1;rw[hr3]at hy1;rw[hr4]at hy2;have hql:=bl _ hqm;have hqv:=bv _ hqm;have hqs:=bm _ hqm;have hz:=zA6 pos t h6;generalize lb.getD (pos.getD t 0) Ai=q at*;have hmg:Pure Ao 95 [.row (nsD U) U.length, .row (nsD A) A.length, .row (zL p.1) p.1.length, .row (nsD B) B.length, .row (zL q.1) q.1.length] [] (.row (zL (mg A p.1 B q.1)) U.length):=by
     have h:=merge_c A B p.1 q.1 _ _ _ rfl rfl rfl hlen2 hql hA hB nA nB (by rw[<-eU];exact nU);rw[<-eU]at h;rw[hlen2,hql];exact h
    have hml:(mg A p.1 B q.1).length=U.length:=by rw[mg,Ay,eU]
    have hmv:∀v∈mg A p.1 B q.1,Vs v:=λv hv=>by
     obtain⟨w,_,rfl⟩:=AD.1 hv;have gv:∀(C:List Nat)(x:List Va),(∀v∈x,Vs v)->Vs (asg C x w):=λC x hx=>by
      unfold asg;rw[AE];cases e:x[C.idxOf w]? with
      |none=>exact⟨by decide,by decide,by decide⟩
      |some u=>exact hx u (List.mem_of_getElem? e)
     unfold sg;split
     ·exact gv A _ hvs
     exact gv B _ hqv
    have hpa:=passes_c (os.map (zD3 U)) _ rfl (by simp;omega) (mg A p.1 B q.1) _ hml (by omega) hmv (λf hf=>by
     obtain⟨o,ho',rfl⟩:=AD.1 hf;exact⟨by have:=zH5 (λv=>(msk o.1&&&msk U).testBit v) U;simp only[zD3];omega,λc hc=>by rw[hml];exact(zGw.1 hc).1⟩)
    rw[Ay,List.all_map]at hpa;have hoke:(os.all ((λf=>decide (zQ (mg A p.1 B q.1) f.1∈f.2))∘zD3 U))=ok (mg A p.1 B q.1):=by
     rw[eok];simp only[Function.comp_def];rw[BE,A3,A3];constructor
     ·intro h o ho';rw[<-flt_okB hU (ho o ho').asc];exact h o ho'
     intro h o ho';rw[flt_okB hU (ho o ho').asc];exact h o ho'
    rw[hoke]at hpa;have hmu2:=bmul_c p.2 q.2 hsm hqs;focus
     refine zB<|zA rfl<|v0s<|veT<|zB<|vT ((t:Int)<(Aa pos:Int))<|zM<|zC<|zK<|zB<|zF<|zB<|zA rfl<|vr 1 (ix (t:Int) (Aa pos:Int) (nsD pos≠[])) ?_ ⟨(by omega),⟨(by omega),(by exact zW)⟩⟩;refine vp 99 (t) (nsD pos)<|vr 1 (0<Aa (Ag t<|nsD pos))<|vsh 100 hz<|veT<|zB<|vd [0,2,4,5,7,9,1,3,6,8,10,11,12,13]<|vr 11 (True/\True/\True/\True/\0<3/\0<3/\0<3/\0<2/\ix (↑(An pos t 0):Int) (Aa lb:Int) (zAw lb≠[]))<|vp 111 (An pos t 0) (zAw lb)<|vr 1 (0<Aa (Ag (An pos t 0)<|zAw lb))<|vsh 112 hy1<|vc (hmg)<|veT<|zB<|zA rfl<|vrT 2<|vc (hpa)<|veT<|zAi (t:=ok (mg A (Bs p) B (Bs q))) (by kernel_rfl) (λhc=>?_)<|λhc=>?_;refine zB<|zA rfl<|vr 7 (True/\0<2/\((1=1/\1<=1/\True)/\0<1/\1=1/\1<=16777216/\1<=9223372036854775807)/\(AU (rowB<|zAw R)=Ab/\Aa (AJ<|rowB<|zAw R)=Aa R*1/\Aa R=Aa R*1/\AN (rowB<|zAw R)=110/\AO (rowB<|zAw R)=1/\1=1/\0<1/\0<24/\110=110/\(Aa R+1)*24<=140737488355328/\1=1/\AR (Az<|rowB<|zAw R)=Ac/\(Ac=Ac\/AS (Az<|rowB<|zAw R)=Ab))/\True/\A1 (Ak [Ad (nsD U)<|Aa U,Uk,Ah 6 0 (Aa R) (Aa R) Ab] 94 0 Ac Ac Aj)=Ac/\Ab=Ab/\1=1/\2<=3)<|vb 3 (Ak [Ad (nsD U)<|Aa U,Ah 5 0 (Aa R+1) ((Aa R+1)*1) Ab,Ah 6 0 (Aa R) (Aa R) Ab] (AN<|Ak [Ad (nsD U)<|Aa U,Uk,Ah 6 0 (Aa R) (Aa R) Ab] 94 0 Ac Ac Aj) (AO<|Ak [Ad (nsD U)<|Aa U,Uk,Ah 6 0 (Aa R) (Aa R) Ab] 94 0 Ac Ac Aj) Ac Ac<|Az<|Ak [Ad (nsD U)<|Aa U,Uk,Ah 6 0 (Aa R) (Aa R) Ab] 94 0 Ac Ac Aj) (Ak [Ad (nsD U)<|Aa U,Ah 5 0 (Aa R+1) (Aa R+1) Ab,Ah 6 0 (Aa R) (Aa R) Ab] 94 0 Ac Ac Aj) (hd:=by simp(disch:=omega) only[A2])<|veT<|vd [0,2,3,5,8,10,13,14,15,1,4,6,7,9,11,12,16,17,18,19,20]<|vr 12 (True/\True/\True/\0<1/\0<1/\ix (i:Int) (Aa la:Int) (zA3 la≠[]))<|vp 129 (i) (zA3 la)<|vr 1 (0<Aa (Ag i<|zA3 la))<|vsh 130 hx2<|vr 2 (0<1/\ix (↑(An pos t 0):Int) (Aa lb:Int) (zA3 lb≠[])) ?_;refine vp 134 (An pos t 0) (zA3 lb)<|vr 1 (0<Aa (Ag (An pos t 0)<|zA3 lb))<|vsh 135 hy2<|vc (hmu2)<|vr 4 (((1=1/\1<=1/\True)/\0<1/\1=1/\1<=16777216/\1<=9223372036854775807)/\(AU (Ak (zA3 R) 4 1 Ab Ac Aj)=Ab/\Aa (zA3 R)=Aa R*1/\Aa R=Aa R*1/\AN (Ak (zA3 R) 4 1 Ab Ac Aj)=4/\AO (Ak (zA3 R) 4 1 Ab Ac Aj)=1/\1=1/\0<1/\0<1/\4=4/\(Aa R+1)*1<=140737488355328/\1=1/\AR (Az<|Ak (zA3 R) 4 1 Ab Ac Aj)=Ac/\(Ac=Ac\/AS (Az<|Ak (zA3 R) 4 1 Ab Ac Aj)=Ab))/\True/\A1 (Ak [Ad (nsD U)<|Aa U,Ah 5 0 (Aa R+1) (Aa R+1) Ab,Uk] 94 0 Ac Ac Aj)=Ac/\Ab=Ab/\1=1/\3<=3)<|vb 3 (Ak [Ad (nsD U)<|Aa U,Ah 5 0 (Aa R+1) (Aa R+1) Ab,Ah 6 0 (Aa R+1) ((Aa R+1)*1) Ab] (AN<|Ak [Ad (nsD U)<|Aa U,Ah 5 0 (Aa R+1) (Aa R+1) Ab,Uk] 94 0 Ac Ac Aj) (AO<|Ak [Ad (nsD U)<|Aa U,Ah 5 0 (Aa R+1) (Aa R+1) Ab,Uk] 94 0 Ac Ac Aj) Ac Ac<|Az<|Ak [Ad (nsD U)<|Aa U,Ah 5 0 (Aa R+1) (Aa R+1) Ab,Uk] 94 0 Ac Ac Aj) (Ak [Ad (nsD U)<|Aa U,Ah 5 0 (Aa R+1) (Aa R+1) Ab,Ah 6 0 (Aa R+1) (Aa R+1) Ab] 94 0 Ac Ac Aj) (hd:=by simp(disch:=omega) only[A2])<|vnil<|zD<|zC<|zK<|zA rfl<|vr 2 (i6 ((t:Int)+(1:Int)))<|vnil<|zC ?_;rotate_left;refine zM<|zD<|zC<|zK<|zA rfl<|vr 2 (i6 ((t:Int)+(1:Int)))<|vnil<|zC ?_;rotate_left
    ·rw[if_pos hc]at ht1;refine⟨t+1,R++[prQB A B p q],⟨by omega,?_⟩,by omega,?_⟩
     ·rw[ht1,<-List.append_assoc,<-hR]
     rw[show zAw (R++[prQB A B p q])=zAw R++[.row (zL (mg A p.1 B q.1)) U.length] by rw[<-hml];simp[prQB],show zA3 (R++[prQB A B p q])=zA3 R++[bD (Sb.mul p.2 q.2)] by simp[prQB],AZ];refine vk 7
    rw[if_neg (by simpa using hc),Bu]at ht1;refine⟨t+1,R,⟨by omega,by rw[ht1];exact hR⟩,by omega,?_⟩;refine vk 7
   rw[AK (by omega)]at hR;refine zB<|zA rfl<|v0s<|veT<|zB<|vF ((t:Int)<(Aa pos:Int))<|zAv<|zP<|zP<|zAk rfl<|zD<|zC<|zK<|zA rfl<|vr 2 (i6 ((i:Int)+(1:Int)))<|vnil<|zC<|⟨i+1,R,⟨by omega,by rw[hfs];exact hR⟩,by omega,?_⟩;refine vk 7
  rw[if_neg hin]at hlk;rw[zMl hin]at hps;focus
   refine zB (zA rfl (v0s (veT (zB (vT ((i:Int)<(Aa la:Int)) (zM (zC (zK (zB (zF (zB (zA rfl (vr 2 (ix (i:Int) (Aa la:Int) (zAw la≠[])) (vp 89 (i) (zAw la) (vr 1 (0<Aa (Ag i (zAw la))) (vsh 90 hx1 (veT (zB (zA rfl (vrT 3 (vc (hk) (vwh 1 [] [] (zX (Bd (Bf Bg "string" 1 16 Ab 8 8 (Ar (AL (A_ #[]))) Ab #[])) (AL (bs (idR (zQ (Bs p) c1))))=Ab/\BJ (Ae kyv (allK Lb)) (zX (Bd (Bf Bg "string" 1 16 Ab 8 8 (Ar (AL (A_ #[]))) Ab #[])))=Ab) ?_ ?_))))))))))))))))))))));rotate_left;refine vsh 95 hlk (veT (zF (zAj (zB (zA rfl (veT (zB (vf (zAv (zP (zP (zAk rfl (zD (zC (zK (zA rfl (vr 2 (i6 ((i:Int)+(1:Int))) (vnil (zC ?_)))))))))))))))))));rotate_left
  ·exact⟨rfl,zDh _⟩
  refine⟨i+1,O,⟨by omega,?_⟩,by omega,?_⟩
  ·rw[hfs,<-hps];simp[zD0]
  refine vk 7
 have hO':O=la.flatMap λp=>zD0 A B ok p (zGf A B lb p):=by rw[AK (by omega)]at hO;exact hO
 rw[<-hO'];have hOl:O.length<=1000000:=by
  have h5:=zQw (A:=A) (B:=B) (lb:=lb) (ok:=ok) la la.length;rw[BS,<-hO']at h5;omega
 have hOp:O=(zCa Sb.mul A la B lb).filter λp=>ok p.1:=by rw[hO',eok];exact(zNk A B lb (λs=>os.all λo=>okO U s (faNB o)) la).symm
 have hnd:Ndk O:=by rw[hOp];exact zF4 ok (zF0 hA hB nda ndb al bl)
 have hOr:∀p∈O,p.1.length=U.length:=λp hp=>by
  rw[hOp]at hp;obtain⟨x,_,y,_,_,h7,_⟩:=(zJ5 (s:=p.1) (u:=p.2)).1 (A4.1 hp).1;rw[<-h7,mg,Ay,eU]
 have hso:=zTu U O hOl (λp hp=>by rw[hOr p hp];omega) hnd;have hu1:=zJ8 U U.length rfl;have hu2:(zAw O).take O.length=zAw O:=AK (by simp);have hu3:(zA3 O).take O.length=zA3 O:=AK (by simp);clear hO hO' hOp hpf;refine zB<|zA rfl<|v0s<|veT<|zB<|vF ((i:Int)<(Aa la:Int))<|zAv<|zP<|zP<|zAk rfl<|zC<|zK<|zB<|zA rfl<|vr 1 (3<=3)<|vcl [Aq [Ad (nsD U)<|Aa U,Ad (Am (Aa O)<|Ag 0<|AJ<|rowB<|zAw O)<|Aa O,Ad (Am (Aa O)<|Ag 0<|AJ<|zEx<|zA3 O)<|Aa O]] [Aq [Ad (nsD U)<|Aa U,Ad (zAw O)<|Aa O,Ad (zA3 O)<|Aa O]] (BK (by simp(disch:=omega) only[AP,hu2,hu3])) (by exact hso)<|ve (Ac=Ac/\Ab=Ab/\3=3/\3<=3)<|zG<|vret (3<=3)<|.inr rfl
set_option maxHeartbeats 4000000 in
theorem sumOut_cB(A:List Nat)(l:List (Rw×Bool))(v:Int)(ha:A.length<=32)(hb:l.length<=1000000)(hl:∀p∈l,p.1.length=A.length)(hv:∀p∈l,∀x∈p.1,Vs x)(hs0:∀p∈l,okB p.2)(hs:∀i,∀x∈(sumT Sb.add [] ((l.map λp=>(zQ p.1 (zBp (λu=>decide ((u:Int)≠v)) A),p.2)).take i)).map (·.2),okB x):
  Pure Ao 137 [booD,fcDB A l,iD v] [] (fcDB ((zBp (λu=>decide ((u:Int)≠v)) A).map λj=>A.getD j 0) (srtL (sumT Sb.add [] (l.map λp=>(zQ p.1 (zBp (λu=>decide ((u:Int)≠v)) A),p.2))))):=by
 refine zH (T:=Tc) (zPy _ _ _) mixed Tryz.func137 rfl<|zB<|zA rfl<|v0s<|veT<|zB<|zA rfl<|veT<|zB<|zA rfl<|vrT 1<|vnil<|zC<|vnn (fr 108 [(0,booD),(2,iD v),(4,Al 0 0),(6,Al 1 0),(7,nl),(8,Al 2 0)]) [Ak [Ad (nsD A)<|Aa A,Ad (zAw l)<|Aa l,Ad (zA3 l)<|Aa l] 94 0 Ac Ac Aj,Ak [nl,nl,nl] 94 0 Ac Ac Aj,Ak [nl,nl,nl] 94 0 Ac Ac Aj]<|zBf (Bo (j:=2) (i:=0) (intB []) rfl rfl rfl rfl) ?_;refine zB<|zB<|zA rfl<|v0s<|ve (True/\0<3)<|zF<|zBq (λ(i:Nat)(c:List Nat)=>fr 108 [(0,booD),(2,iD v),(4,Al 0 0),(6,Al 1 0),(7,Ah 4 0 (Aa c) (Aa c) Ab),(8,Al 2 0),(20,Ad (nsD A)<|Aa A),(21,iD (Aa A:Int)),(22,iD (i:Int))]) (λ(i:Nat)(c:List Nat)=>[fB1B (.row (nsD A) A.length) (.row (zAw l) l.length)<|.row (zA3 l) l.length,fB1B nl nl nl,fB1B (.osl 3 0 c.length c.length Ab) nl nl,intB<|nsD (c.map λj=>A.getD j 0),intB<|nsD c]) (λi c=>A.length-i) (λ(i:Nat)(c:List Nat)=>i<=A.length/\c=((AA A.length).take i).filter λj=>decide (((A.getD j 0:Nat):Int)≠v)) 0 [] ?_ ?_ ?_
 ·exact⟨by omega,by simp⟩
 ·refine vk 4
 rintro i c ⟨h1,h2⟩;have hlen:c.length<=32:=by rw[h2];exact AB (Bp _ _) (by simp;omega)
 rcases Av i A.length with h3|h3
 ·have h4:=zPi (λu=>decide ((u:Int)≠v)) A i h3;rw[<-h2]at h4;focus
   refine zB<|zA rfl<|v0s<|veT<|zB<|vT ((i:Int)<(Aa A:Int))<|zM<|zC<|zK<|zB<|zF<|zB<|zA rfl<|vr 2 (ix (i:Int) (Aa A:Int) (nsD A≠[])) ?_ ⟨(by omega),⟨(by omega),(by exact zW)⟩⟩;refine vp 25 (i) (nsD A)<|vr 1 (0<Aa (Ag i<|nsD A))<|vs 26 (Bb (Ag i<|nsD A) Uk) (iD (↑(An A i 0):Int)) (hd:=by simp(disch:=omega) only[zA6])<|veT<|zB<|zA rfl<|veT<|zAi (t:=(↑(An A i 0):Int)!=v) (by kernel_rfl) (λhc=>?_)<|λhc=>?_;simp only[bne_iff_ne]at hc;refine zB<|zA rfl<|vr 5 (((1=1/\1<=1/\True)/\0<1/\1=1/\1<=16777216/\1<=9223372036854775807)/\AU (intB<|nsD c)=Ab/\Aa (AJ<|intB<|nsD c)=Aa c*1/\Aa c=Aa c*1/\AN (intB<|nsD c)=3/\AO (intB<|nsD c)=1/\1=1/\0<1/\0<8/\3=3/\(Aa c+1)*8<=140737488355328/\1=1/\AR (Az<|intB<|nsD c)=Ac/\(Ac=Ac\/AS (Az<|intB<|nsD c)=Ab))<|vs 7 (Ah 4 0 (Aa c+1) ((Aa c+1)*1) Ab) (Ah 4 0 (Aa c+1) (Aa c+1) Ab) (hd:=by simp(disch:=omega) only[A2])<|veT<|zA rfl<|vr 7 (True/\0<3/\((1=1/\1<=1/\True)/\0<1/\1=1/\1<=16777216/\1<=9223372036854775807)/\(AU (Ak (nsD<|Ae (λ(j:Nat)=>An A j 0) c) 3 1 Ab Ac Aj)=Ab/\Aa (nsD<|Ae (λ(j:Nat)=>An A j 0) c)=Aa c*1/\Aa c=Aa c*1/\AN (Ak (nsD<|Ae (λ(j:Nat)=>An A j 0) c) 3 1 Ab Ac Aj)=3/\AO (Ak (nsD<|Ae (λ(j:Nat)=>An A j 0) c) 3 1 Ab Ac Aj)=1/\1=1/\0<1/\0<8/\3=3/\(Aa c+1)*8<=140737488355328/\1=1/\AR (Az<|Ak (nsD<|Ae (λ(j:Nat)=>An A j 0) c) 3 1 Ab Ac Aj)=Ac/\(Ac=Ac\/AS (Az<|Ak (nsD<|Ae (λ(j:Nat)=>An A j 0) c) 3 1 Ab Ac Aj)=Ab))/\True/\Ac=Ac/\Ab=Ab/\1=1/\1<=3)<|vb 2 (Ak [Ah 3 0 (Aa c+1) ((Aa c+1)*1) Ab,nl,nl] 94 0 Ac Ac<|Az<|Ak [Uk,nl,nl] 94 0 Ac Ac Aj) (Ak [Ah 3 0 (Aa c+1) (Aa c+1) Ab,nl,nl] 94 0 Ac Ac Aj) (hd:=by simp(disch:=omega) only[A2])<|vnil<|zD<|zC<|zK<|zA rfl<|vr 2 (i6 ((i:Int)+(1:Int)))<|vnil<|zC ?_;rotate_left;simp only[bne_eq_false_iff_eq]at hc;refine zM<|zD<|zC<|zK<|zA rfl<|vr 2 (i6 ((i:Int)+(1:Int)))<|vnil<|zC ?_;rotate_left
  ·rw[if_pos (by simpa using hc)]at h4;refine⟨i+1,c++[i],⟨by omega,h4.symm⟩,by omega,?_⟩;rw[show nsD ((c++[i]).map λj=>A.getD j 0)=nsD (c.map λj=>A.getD j 0)++[iD (A.getD i 0:Nat)] by simp,zSd,AZ];refine vk 5
  rw[if_neg (by simpa using hc),Bu]at h4;refine⟨i+1,c,⟨by omega,h4.symm⟩,by omega,?_⟩;refine vk 5
 have ec:c=zBp (λu=>decide ((u:Int)≠v)) A:=by
  rw[AK (by simpa using h3)]at h2;exact h2
 rw[<-ec]at hs⊢;clear h1 h2;refine zB<|zA rfl<|v0s<|veT<|zB<|vF ((i:Int)<(Aa A:Int))<|zAv<|zP<|zP<|zAk rfl<|zC<|zK<|zB<|zA rfl<|vrT 2<|vnil<|zC<|vnn (fr 108 [(0,booD),(2,iD v),(4,Al 0 0),(6,Al 1 0),(7,Ah 4 0 (Aa c) (Aa c) Ab),(8,Al 2 0),(11,D.mref 5),(20,Ad (nsD A)<|Aa A),(21,iD (Aa A:Int)),(22,iD (i:Int)),(23,bD<|decide ((i:Int)<(Aa A:Int))),(41,D.mref 5)]) [fB1B (Ad (nsD A)<|Aa A) (Ad (zAw l)<|Aa l)<|Ad (zA3 l)<|Aa l,fB1B nl nl nl,fB1B (Ah 3 0 (Aa c) (Aa c) Ab) nl nl,intB<|nsD<|Ae (λ(j:Nat)=>An A j 0) c,intB<|nsD c,Ak [] 262 0 Ab Ac<|Kd.map []] ?_;have hc0:=zJ8 c _ rfl;refine zBf (((Bo (j:=2) (i:=1) (rowB []) rfl rfl rfl rfl).trans (Bo (j:=2) (i:=2) (zEx []) rfl rfl rfl rfl)).trans<|BD (s:=7) (k:=4) (off:=0) (n:=c.length) (m:=c.length) (wh:=Ab) (cs:=nsD c) (by kernel_rfl) (show Ar (Ad (((nsD c).drop 0).take c.length) c.length,[4])=_ by rw[AP,hc0])) ?_;refine zB<|zB<|zA rfl<|v0s<|ve (True/\0<2)<|zF ?_;obtain⟨z,hz⟩:∃z:Bool,z=false:=⟨_,rfl⟩;have hcl:∀j∈c,j<A.length:=λj h=>by
  rw[ec]at h;simpa using(A4.1 h).1
 generalize hL:(l.map λp=>(zQ p.1 c,p.2))=L at*;have hLl:L.length=l.length:=by rw[<-hL];simp
 have hLg:∀i,i<l.length->L.getD i Ai=(zQ ((l.map (·.1)).getD i []) c,(l.map (·.2)).getD i Ac):=λi hi=>by
  rw[<-hL];simp[AE,hi]
 refine zA2 (λ(i:Nat)(K:List Rw)(W:List Bool)=>fr 108 [(0,booD),(4,Al 0 0),(6,Al 1 0),(7,D.osr 4 0 (Aa c) (Aa c) Ab<|nsD c),(8,Al 2 0),(11,D.mref 5),(43,Ad (zAw l)<|Aa l),(44,iD (Aa l:Int)),(45,iD (i:Int))]) (λ(i:Nat)(K:List Rw)(W:List Bool)=>[fB1B (.row (nsD A) A.length) (.row (zAw l) l.length)<|.row (zA3 l) l.length,fB1B nl nl nl,fB1B (.osl 3 0 c.length c.length Ab) (.osl 6 0 W.length W.length Ab)<|.osl 7 0 W.length W.length Ab,intB<|nsD (c.map λj=>A.getD j 0),⟨nsD c,3,1,Ab,Ab,.plain⟩,mapI K,rowB<|K.map rowV,zEx<|W.map bD]) (λi K W=>l.length-i) (λ(i:Nat)(K:List Rw)(W:List Bool)=>i<=l.length/\K=(sumT Sb.add []<|L.take i).map (·.1)/\W=(sumT Sb.add []<|L.take i).map (·.2)) 0 [] [] ?_ ?_ ?_
 ·exact⟨by omega,by simp[sumT],by simp[sumT]⟩
 ·refine vk 8
 rintro i K W ⟨g1,g2,g3⟩;have hKW:W.length=K.length:=by rw[g2,g3];simp
 have hKl:K.length<=1000000:=by
  have:=zRl Sb.add (L.take i) ([]:List (Rw×Bool))
  rw[g2,Ay];simp only[BW,BO]at this;omega
 rcases Av i l.length with h4|h4
 ·have hne:zAw l≠[]:=zW (h:=by simp;omega);have hne2:zA3 l≠[]:=zW (h:=by simp;omega);have hrow:(l.map (·.1)).getD i []∈l.map (·.1):=by
   rw[AE,AM (by simpa using h4)];exact A9 _
  obtain⟨p,hp,he⟩:=AD.1 hrow;have hlen2:=hl p hp;have hvs:=hv p hp;rw[he]at hlen2 hvs;have hsu:=zTm Sb.add L i (by omega);rw[hLg i h4]at hsu;have hk1:=congrArg (Ae (·.1)) hsu;have hw1:=congrArg (Ae (·.2)) hsu;simp only[zGa,<-g2]at hk1;simp only[zPw,<-g2,<-g3]at hw1;have hwm:(l.map (·.2)).getD i Ac∈l.map (·.2):=by
   rw[AE,AM (by simpa using h4)];exact A9 _
  obtain⟨p',hp',he'⟩:=AD.1 hwm;have hs3:=hs0 p' hp';rw[he']at hs3;have hsW:∀x∈W,okB x:=λx hx=>hs i x (by rw[<-g3];exact hx);have hx1:=zAh (l.map (·.1)) i (by simpa using h4);have hx2:=zKm (l.map (·.2)) i (by simpa using h4);generalize (l.map (·.1)).getD i []=row at*;generalize (l.map (·.2)).getD i Ac=w at*;have hk:=zSp row c _ _ rfl rfl (by rw[hlen2];exact hcl) hvs;have hpj:=zHx row c _ _ rfl rfl (by omega) (by omega) (by rw[hlen2];exact hcl);have hlk:=look_i K (zQ row c);by_cases hm:zQ row c∈K
  ·rw[if_pos hm]at hk1 hw1 hlk;have hid:=List.idxOf_lt_length_iff.2 hm;generalize K.idxOf (zQ row c)=d at*;have hs2:=hsW _ (show W.getD d Ac∈W by rw[AE,AM (by omega)];exact A9 _);focus
    refine zB (zA rfl (v0s (veT (zB (vT ((i:Int)<(Aa l:Int)) (zM (zC (zK (zB (zF (zB (zA rfl (vr 2 (ix (i:Int) (Aa l:Int) (zAw l≠[])) (vp 48 (i) (zAw l) (vr 1 (0<Aa (Ag i (zAw l))) (vsh 49 hx1 (veT (zB (zA rfl (vrT 2 (vc (hk) (veT (zB (zA rfl (vwh 3 [] [] (zX (Bd (Bf Bg "string" 1 16 Ab 8 8 (Ar (AL (A_ #[]))) Ab #[])) (AL (bs (idR (zQ row c))))=Ab/\BJ (Ae kyv K) (zX (Bd (Bf Bg "string" 1 16 Ab 8 8 (Ar (AL (A_ #[]))) Ab #[])))=Ab) ?_ ?_)))))))))))))))))))))))));rotate_left;refine vsh 56 hlk (ve (0<2/\1<2) (zB (zB (zA rfl (veT (vf (zM (zC (zK (vd [0,2,3,4,6,9,11,14,15,16,1,5,7,8,10,12,13,17,18,19] (vr 13 (True/\True/\True/\0<1/\0<1/\(0:Int)<=(d:Int)/\(d:Int)<(Aa W:Int)) (vo 93 7 (d) (vr 1 (0<Aa (Ag d (AJ (zEx (Ae bD W))))) (vs 94 (Bb (Ag d (AJ (zEx (Ae bD W)))) Uk) (bD (An W d Ac)) (hd:=by simp(disch:=omega) only[zKm]) (vr 2 (0<1/\ix (i:Int) (Aa l:Int) (zA3 l≠[])) (vp 98 (i) (zA3 l) (vr 1 (0<Aa (Ag i (zA3 l))) (vsh 99 hx2 (vc (badd_c _ _ hs2 hs3) (vr 1 ((0:Int)<=(d:Int)/\(d:Int)<(Aa W:Int)) (vo 104 7 (d) (vr 1 (A1 (zEx (Ae bD W))=Ac/\Ab=Ab/\1=1/\d+1<=Aa (AJ (zEx (Ae bD W)))/\¬7∈[]) (vnil (zD (zC (zK (zA rfl (vr 2 (i6 ((i:Int)+(1:Int))) (vnil (zC ?_))))))))))))))))))))))))))))));rotate_left
   ·exact⟨rfl,zDh _⟩
   refine⟨i+1,K,W.set d (Sb.add (W.getD d Ac) w),⟨by omega,hk1.symm,hw1.symm⟩,by omega,?_⟩;rw[show(W.set d (Sb.add (W.getD d Ac) w)).map bD=(W.map bD).set d (bD (Sb.add (W.getD d Ac) w)) by simp,show(W.set d (Sb.add (W.getD d Ac) w)).length=W.length by simp];refine vk 8
  rw[if_neg hm]at hk1 hw1 hlk;have hmp:=mput_i K (zQ row c) hm;rw[<-hKW]at hmp;have hzw:Sb.add z w=w:=by rw[hz];exact zadB w
  have hca:=badd_c z w (hz▸zokB) hs3;rw[hzw]at hca;have hla:∀d:D,((W.map bD++[d]).drop W.length).headD .unk=d:=λd=>by rw[List.drop_left' (by simp)];rfl
  have hse:∀d e:D,(W.map bD++[d]).set W.length e=W.map bD++[e]:=λd e=>by
   rw[List.set_append];simp
  focus
   refine zB (zA rfl (v0s (veT (zB (vT ((i:Int)<(Aa l:Int)) (zM (zC (zK (zB (zF (zB (zA rfl (vr 2 (ix (i:Int) (Aa l:Int) (zAw l≠[])) (vp 48 (i) (zAw l) (vr 1 (0<Aa (Ag i (zAw l))) (vsh 49 hx1 (veT (zB (zA rfl (vrT 2 (vc (hk) (veT (zB (zA rfl (vwh 3 [] [] (zX (Bd (Bf Bg "string" 1 16 Ab 8 8 (Ar (AL (A_ #[]))) Ab #[])) (AL (bs (idR (zQ row c))))=Ab/\BJ (Ae kyv K) (zX (Bd (Bf Bg "string" 1 16 Ab 8 8 (Ar (AL (A_ #[]))) Ab #[])))=Ab) ?_ ?_)))))))))))))))))))))))));rotate_left;refine vsh 56 hlk (ve (0<2/\1<2) (zB (zB (zA rfl (veT (vt (zB (zA rfl (ve (True/\0<2) (zB (zA rfl (vwh 4 [] [] (A1 (mapI K)=Ac/\zX (Bd (Bf Bg "string" 1 16 Ab 8 8 (Ar (AL (A_ #[]))) Ab #[])) (AL (bs (idR (zQ row c))))=Ab/\BJ (Ae kyv K) (zX (Bd (Bf Bg "string" 1 16 Ab 8 8 (Ar (AL (A_ #[]))) Ab #[])))=Ab/\¬5∈[]) ?_ ?_))))))))))));rotate_left;refine vb 5 (mput (mapI K) (Ae kyv K) (AL (bs (idR (zQ row c)))) (iD (Aa W:Int))) (mapI (K++[zQ row c])) (hd:=by simp(disch:=omega) only[hmp]) (veT (zB (zA rfl (vrT 2 (vc (hpj) (ve (0<2/\1<2) (zB (zA rfl (vr 7 (True/\0<2/\((1=1/\1<=1/\True)/\0<1/\1=1/\1<=16777216/\1<=9223372036854775807)/\(AU (rowB (Ae rowV K))=Ab/\Aa (AJ (rowB (Ae rowV K)))=Aa W*1/\Aa W=Aa W*1/\AN (rowB (Ae rowV K))=110/\AO (rowB (Ae rowV K))=1/\1=1/\0<1/\0<24/\110=110/\(Aa W+1)*24<=140737488355328/\1=1/\AR (Az (rowB (Ae rowV K)))=Ac/\(Ac=Ac\/AS (Az (rowB (Ae rowV K)))=Ab))/\True/\A1 (Ak [Ah 3 0 (Aa c) (Aa c) Ab,Uk,Ah 7 0 (Aa W) (Aa W) Ab] 94 0 Ac Ac Aj)=Ac/\Ab=Ab/\1=1/\2<=3) (vb 2 (Ak [Ah 3 0 (Aa c) (Aa c) Ab,Ah 6 0 (Aa W+1) ((Aa W+1)*1) Ab,Ah 7 0 (Aa W) (Aa W) Ab] (AN (Ak [Ah 3 0 (Aa c) (Aa c) Ab,Uk,Ah 7 0 (Aa W) (Aa W) Ab] 94 0 Ac Ac Aj)) (AO (Ak [Ah 3 0 (Aa c) (Aa c) Ab,Uk,Ah 7 0 (Aa W) (Aa W) Ab] 94 0 Ac Ac Aj)) Ac Ac (Az (Ak [Ah 3 0 (Aa c) (Aa c) Ab,Uk,Ah 7 0 (Aa W) (Aa W) Ab] 94 0 Ac Ac Aj))) (Ak [Ah 3 0 (Aa c) (Aa c) Ab,Ah 6 0 (Aa W+1) (Aa W+1) Ab,Ah 7 0 (Aa W) (Aa W) Ab] 94 0 Ac Ac Aj) (hd:=by simp(disch:=omega) only[A2]) ?_))))))))));refine veT (vd [0,2,1,3,4,5,6,7] (vr 3 (True/\0<1) (vc (bzero_c z hz) (vr 4 (((1=1/\1<=1/\True)/\0<1/\1=1/\1<=16777216/\1<=9223372036854775807)/\(AU (Ak (Ae bD W) 4 1 Ab Ac Aj)=Ab/\Aa (Ae bD W)=Aa W*1/\Aa W=Aa W*1/\AN (Ak (Ae bD W) 4 1 Ab Ac Aj)=4/\AO (Ak (Ae bD W) 4 1 Ab Ac Aj)=1/\1=1/\0<1/\0<1/\4=4/\(Aa W+1)*1<=140737488355328/\1=1/\AR (Az (Ak (Ae bD W) 4 1 Ab Ac Aj))=Ac/\(Ac=Ac\/AS (Az (Ak (Ae bD W) 4 1 Ab Ac Aj))=Ab))/\True/\A1 (Ak [Ah 3 0 (Aa c) (Aa c) Ab,Ah 6 0 (Aa W+1) (Aa W+1) Ab,Uk] 94 0 Ac Ac Aj)=Ac/\Ab=Ab/\1=1/\3<=3) (vb 2 (Ak [Ah 3 0 (Aa c) (Aa c) Ab,Ah 6 0 (Aa W+1) (Aa W+1) Ab,Ah 7 0 (Aa W+1) ((Aa W+1)*1) Ab] (AN (Ak [Ah 3 0 (Aa c) (Aa c) Ab,Ah 6 0 (Aa W+1) (Aa W+1) Ab,Uk] 94 0 Ac Ac Aj)) (AO (Ak [Ah 3 0 (Aa c) (Aa c) Ab,Ah 6 0 (Aa W+1) (Aa W+1) Ab,Uk] 94 0 Ac Ac Aj)) Ac Ac (Az (Ak [Ah 3 0 (Aa c) (Aa c) Ab,Ah 6 0 (Aa W+1) (Aa W+1) Ab,Uk] 94 0 Ac Ac Aj))) (Ak [Ah 3 0 (Aa c) (Aa c) Ab,Ah 6 0 (Aa W+1) (Aa W+1) Ab,Ah 7 0 (Aa W+1) (Aa W+1) Ab] 94 0 Ac Ac Aj) (hd:=by simp(disch:=omega) only[A2]) (veT (vd [0,2,3,4,6,9,11,14,15,16,1,5,7,8,10,12,13,17,18,19] (vr 13 (True/\True/\True/\0<1/\0<1/\(0:Int)<=(Aa W:Int)/\(Aa W:Int)<(↑(Aa W+1):Int)) (vo 93 7 (Aa W) (vr 1 (0<Aa (Ag (Aa W) (Ae bD W++[bD z]))) (vs 94 (Bb (Ag (Aa W) (Ae bD W++[bD z])) Uk) (bD z) (hd:=by simp(disch:=omega) only[hla]) (vr 2 (0<1/\ix (i:Int) (Aa l:Int) (zA3 l≠[])) (vp 98 (i) (zA3 l) (vr 1 (0<Aa (Ag i (zA3 l))) (vsh 99 hx2 (vc (hca) (vr 1 ((0:Int)<=(Aa W:Int)/\(Aa W:Int)<(↑(Aa W+1):Int)) (vo 104 7 (Aa W) (vr 1 (A1 (Ak (Ae bD W++[bD z]) 4 1 Ab Ac Aj)=Ac/\Ab=Ab/\1=1/\Aa W+1<=Aa (Ae bD W++[bD z])/\¬7∈[]) (vnil (zD (zC (zK (zA rfl (vr 2 (i6 ((i:Int)+(1:Int))) (vnil (zC ?_)))))))))))))))))))))))))));rotate_left
  ·exact⟨rfl,zDh _⟩
  ·exact⟨rfl,rfl,zDh _,by simp⟩
  refine⟨i+1,K++[zQ row c],W++[w],⟨by omega,hk1.symm,hw1.symm⟩,by omega,?_⟩;refine wkn (fr 108 [(0,booD),(4,Al 0 0),(6,Al 1 0),(7,D.osr 4 0 (Aa c) (Aa c) Ab (nsD c)),(8,Al 2 0),(11,D.mref 5),(12,iD (↑i:Int)),(15,iD (↑(Aa W):Int)),(43,Ad (zAw l) (Aa l)),(44,iD (↑(Aa l):Int)),(45,iD (↑(i+1):Int)),(86,Al 2 2),(87,Ah 7 0 (Aa W+1) (Aa W+1) Ab),(88,iD (↑(Aa W):Int)),(89,A7 96 (Aq [])),(90,Al 2 2),(91,Ah 7 0 (Aa W+1) (Aa W+1) Ab),(92,iD (↑(Aa W):Int)),(93,Al 7 (Aa W)),(94,bD z),(95,Al 0 2),(96,Ad (zA3 l) (Aa l)),(97,iD (↑i:Int)),(98,AH (Ag i (zA3 l))),(99,bD w),(100,Bc (Fn.method "Add") [A7 96 (Aq [])] []),(101,Bc (Fn.method "Add") [A7 96 (Aq [])] []),(102,A7 96 (Aq [])),(103,bD w),(104,Al 7 (Aa W)),(105,iD (↑(i+1):Int))]) [Ak [Ad (nsD A) (Aa A),Ad (zAw l) (Aa l),Ad (zA3 l) (Aa l)] (94:TypeId) 0 Ac Ac Aj,Ak [nl,nl,nl] (94:TypeId) 0 Ac Ac Aj,Ak [Ah 3 0 (Aa c) (Aa c) Ab,Ah 6 0 (Aa W+1) (Aa W+1) Ab,Ah 7 0 (Aa W+1) (Aa W+1) Ab] 94 0 Ac Ac Aj,Ak (nsD (Ae (λ(j:Nat)=>An A j 0) c)) (3:TypeId) 1 Ab Ac Aj,Ak (nsD c) (3:TypeId) 1 Ab Ab Aj,Ak (nsD (AA (Aa (K++[zQ row c])))) (262:TypeId) 0 Ab Ac (Kd.map (Ae kyv (K++[zQ row c]))),Ak (Ae rowV K++[Ad (zL (zQ row c)) (Aa c)]) (110:TypeId) 1 Ab Ac Aj,Ak (List.set (Ae bD W++[bD z]) (Aa W) (bD w)) 4 1 Ab Ac Aj,Ak [Ad (zL (zQ row c)) (Aa c)] 110 1 Ab Ac Aj,Ak [bD z] 4 1 Ab Ac Aj] ?_;rw[hse];have hpl:(zQ row c).length=c.length:=by simp[zQ]
  rw[show(K++[zQ row c]).map rowV=K.map rowV++[.row (zL (zQ row c)) c.length] by rw[<-hpl];simp,show(W++[w]).map bD=W.map bD++[bD w] by simp,show(W++[w]).length=W.length+1 by simp];refine vk 8
 have hn:Ndk (sumT Sb.add [] L):=zJ2 _ L [] (by simp[Ndk]);rw[AK (by omega)]at g2 g3;have hso:=zTu (c.map λj=>A.getD j 0) (sumT Sb.add [] L) (by rw[<-Ay (f:=λp:Rw×Bool=>p.1),<-g2];exact hKl) (λp hp=>by
  have:=(zRm _ L [] p hp).resolve_left (by simp)
  obtain⟨q,hq,e⟩:=AD.1 this;rw[<-hL]at hq;obtain⟨q',_,rfl⟩:=AD.1 hq;rw[<-e];simp only[zQ,Ay];omega) hn
 have hT:(sumT Sb.add [] L).length=W.length:=by rw[g3,Ay]
 have ht1:=zJ8 (c.map λj=>A.getD j 0) c.length (by simp);have ht2:(K.map rowV).take W.length=K.map rowV:=AK (by simp[hKW]);have ht3:(W.map bD).take W.length=W.map bD:=AK (by simp);simp only[fcDB,zAw,zA3,<-g2,<-g3,hT]at hso;rw[Ay]at hso;refine zB<|zA rfl<|v0s<|veT<|zB<|vF ((i:Int)<(Aa l:Int))<|zAv<|zP<|zP<|zAk rfl<|zC<|zK<|zB<|zA rfl<|vr 1 (3<=3)<|vcl [Aq [Ad (Am (Aa c)<|Ag 0<|AJ<|intB<|nsD<|Ae (λ(j:Nat)=>An A j 0) c)<|Aa c,Ad (Am (Aa W)<|Ag 0<|AJ<|rowB<|Ae rowV K)<|Aa W,Ad (Am (Aa W)<|Ag 0<|AJ<|zEx<|Ae bD W)<|Aa W]] [Aq [Ad (nsD<|Ae (λ(j:Nat)=>An A j 0) c)<|Aa c,Ad (Ae rowV K)<|Aa W,Ad (Ae bD W)<|Aa W]] (BK (by simp(disch:=omega) only[AP,ht3,ht1,ht2])) (by exact hso)<|ve (Ac=Ac/\Ab=Ab/\3=3/\3<=3)<|zG<|vre (3<=3) (Aq [Ad (nsD<|Ae (λ(j:Nat)=>An A j 0) c)<|Aa c,Ad (Ae rowV<|Ae (λ(x:Rw×Bool)=>Bs x)<|srtL<|sumT (Sr.add Sb) [] L)<|Aa<|srtL<|sumT (Sr.add Sb) [] L,Ad (Ae bD<|Ae (λ(x:Rw×Bool)=>Prod.snd x)<|srtL<|sumT (Sr.add Sb) [] L)<|Aa<|srtL<|sumT (Sr.add Sb) [] L]) (.inr rfl) (by simp)
end
section
open Go.RowKit
set_option maxRecDepth 4096
abbrev zAg(f:Fa Bool):List D:=fcCB (f.A,f.l)
abbrev faAB(f:Fa Bool):D:=fcDB f.A f.l
theorem zA8(f:Fa Bool):(zAg f).length=3:=rfl
structure GofB(Dm:List Va)(f:Fa Bool):Prop where
 ok:FOk rcmp Dm f
 r:rz f<=900000
 v:bz f<=Bz
section
variable {Dm : List Va} (hD : Okv Dm)
theorem GofB.fv{f:Fa Bool}(h:GofB Dm f)(hD:Okv Dm):FVB (f.A,f.l):=
 ⟨h.ok.asc,h.ok.len,λp hp x hx=>(hD x (h.ok.dom p hp x hx)).2,by have:=h.r;unfold rz at this;simp only;omega,bz_ok h.v,h.ok.ndk rcw⟩
theorem zL2(hD:Okv Dm)(f g:Fa Bool)(os:List (Fa Bool))(hf:GofB Dm f)(hg:GofB Dm g)(ho:∀o∈os,GofB Dm o)(hl:os.length<=1000)(hr:rz f*rz g<=900000):
  Pure Ao 85 [booD,faAB f,faAB g, .row (os.flatMap zAg) os.length] [] (faAB (fmul rcmp Sb f g os)):=by
 simp only[rz,Nat.mul_add,Nat.add_mul]at hr;have h:=zXu (f.A,f.l) (g.A,g.l) (os.map λo=>(o.A,o.l)) (hf.fv hD) (hg.fv hD) (λo hm=>by
  obtain⟨o',hm',rfl⟩:=AD.1 hm;exact(ho o' hm').fv hD) (by simpa using hl) (by simp only;omega)
 have e1:(os.map λo=>(o.A,o.l)).flatMap fcCB=os.flatMap zAg:=by rw[BI]
 rw[e1,Ay]at h;have e2:((zCa Sb.mul f.A f.l g.A g.l).filter λp=>(os.map λo=>(o.A,o.l)).all λo=>okO (un f.A g.A) p.1 (faNB o))=(zCa Sb.mul f.A f.l g.A g.l).filter λp=>os.all λo=>okO (un f.A g.A) p.1 o:=by
  refine Cc λp _=>?_;rw[List.all_map];rfl
 have hn:=zF0 (f:=Sb.mul) hf.ok.asc hg.ok.asc (hf.ok.ndk rcw) (hg.ok.ndk rcw) hf.ok.len hg.ok.len;have e3:fmul rcmp Sb f g os=⟨un f.A g.A,srtL ((zCa Sb.mul f.A f.l g.A g.l).filter λp=>os.all λo=>okO (un f.A g.A) p.1 o)⟩:=by
  unfold fmul;rw[zPx Sb.add (zF4 (λs=>os.all λo=>okO (un f.A g.A) s o) hn)]
 rw[e3,<-e2];exact h
theorem sumOutF_cB(hD:Okv Dm)(f:Fa Bool)(hf:GofB Dm f)(v:Nat)(hv:v∈f.A):Pure Ao 137 [booD,faAB f,iD (v:Nat)] [] (faAB (fsum rcmp Sb v f)):=by
 have hr:=hf.r;have hv2:=hf.v;unfold rz at hr;have h:=sumOut_cB f.A f.l v (zCw hf.ok.asc) (by omega) hf.ok.len (λp hp x hx=>(hD x (hf.ok.dom p hp x hx)).2) (bz_ok hf.v) (λi=>sum_okB hf.v (λr=>zQ r (zBp (λu=>decide ((u:Int)≠(v:Int))) f.A)) i);have e1:f.A.filter (λu:Nat=>decide ((u:Int)≠(v:Int)))=less f.A v:=Cc λu _=>by
  rw[BE,decide_eq_true_eq,decide_eq_true_eq];omega
 rw[zS5,e1]at h;have e2:(f.l.map λp=>(zQ p.1 (zBp (λu:Nat=>decide ((u:Int)≠(v:Int))) f.A),p.2))=zJc f.A v f.l:=by
  unfold zJc;refine BG λp hp=>?_;rw[zFi hf.ok.asc.nd,e1];congr 1;conv=>rhs;rw[<-zK8 hf.ok.asc.nd (hf.ok.len p hp),zNx,zEn hf.ok.asc.nd]
 rw[e2,zTt]at h;exact h
end
end
section
open Go.RowKit
attribute [local irreducible] seqW awp zAa zAb zR Weak updS zAd retL Pure Acts rP setP setQ cP nP fr
set_option maxRecDepth 4096
set_option maxHeartbeats 8000000 in
theorem zYu(fs:List (Fa Bool))(E:List Nat)(hE:Asc E)(hne:E≠[])(hA:∀f∈fs,Asc f.A)(hl:fs.length<=1000):
  Pure Ao 83 [.row (fs.flatMap zAg) fs.length,u32D (msk E)] [] (iD (zA9 popN fs E:Nat)):=by
 have hm:=zKa (msk E) (zCf hE.2);rw[zHh hE]at hm;have nE:=zCw hE;refine zH zDt mixed Tryz.func83 rfl<|zB<|zA rfl<|v0s<|veT<|zB<|zA rfl<|veT<|zB<|zB<|zA rfl<|vrT 1<|vc (hm)<|veT<|zF<|zA2 (λ(i:Nat)(b:Int)(l:Nat)=>fr 59 [(0,Ad (Af zAg fs)<|Aa fs),(4,iD 0),(5,iD b),(6,iD (l:Int)),(15,Ad (nsD E)<|Aa E),(16,iD (Aa E:Int)),(17,iD (i:Int))]) (λ(i:Nat)(b:Int)(l:Nat)=>[]) (λi b l=>E.length-i) (λ(i:Nat)(b:Int)(l:Nat)=>i<=E.length/\(b,l)=(E.take i).foldl (zEd popN fs) (-1,0)) 0 (-1) 0 ?_ ?_ ?_
 ·exact⟨by omega,rfl⟩
 ·refine vk 0
 rintro i b l ⟨h1,h2⟩;rcases Av i E.length with h3|h3
 ·have hz:=zA6 E i h3;have hneE:nsD E≠[]:=zW;have hst:=ch_succ fs E i h3 (-1,0);rw[<-h2]at hst;have hv32:=hE.2 _ (zDv E i h3);generalize E.getD i 0=v at*;refine zB<|zA rfl<|v0s<|veT<|zB<|vT ((i:Int)<(Aa E:Int))<|zM<|zC<|zK<|zB<|zF<|zB<|zA rfl<|vr 1 (ix (i:Int) (Aa E:Int) (nsD E≠[]))<|vp 19 (i) (nsD E)<|vr 1 (0<Aa (Ag i<|nsD E))<|vsh 20 hz<|veT<|zB<|zA rfl<|veT<|zB<|zA rfl<|veT<|zB<|zB<|zA rfl<|veT<|zF<|zN (λ(k:Nat)=>fr 59 [(0,Ad (Af zAg fs)<|Aa fs),(4,iD 0),(5,iD b),(6,iD (l:Int)),(8,iD (v:Int)),(9,u32D<|uniM v<|Am k fs),(10,iD (↑(bigL v<|Am k fs):Int)),(15,Ad (nsD E)<|Aa E),(16,iD (Aa E:Int)),(17,iD (i:Int)),(21,Ad (Af zAg fs)<|Aa fs),(22,iD (Aa fs:Int)),(23,iD (k:Int))]) (λ(k:Nat)=>[]) (λk=>fs.length-k) (λ(k:Nat)=>k<=fs.length) 0 ?_ ?_ ?_
  ·omega
  ·refine vk 0
  rintro k k1;rcases Av k fs.length with k2|k2
  ·have hmf:=zAx fs Ai k k2;have hg2:=zDg zA8 fs k k2;have hle:=zFp zA8 fs k k2;have hne2:=zEi zA8 (by decide) fs;have hAf:=hA _ hmf;have nAf:=zCw hAf;have u1:=zTi v fs k k2;have u2:=zWu v fs k k2;have u3:uniM v (fs.take k)<4294967296:=zM3 v (fs.take k) 0 (by omega) λf hf=>(hA f (Ch hf)).2;have sA:=zLi (fs.getD k Ai).A _ rfl (by omega) hAf.2 (zAw (fs.getD k Ai).l) (zA3 (fs.getD k Ai).l) (fs.getD k Ai).l.length (fs.getD k Ai).l.length;have hma:=zCf hAf.2;have w1:=bit_b hma v;have w2:=bit_w hma v;rw[zCv]at w1 w2;have w3:=zG7 (msk (fs.getD k Ai).A) hv32;have w4:=zWs u3 hma;have w5:=zCm (zP1 u3 hma);have w6:=max_nat (bigL v (fs.take k)) (fs.getD k Ai).A.length;generalize fs.getD k Ai=f at*;focus
    refine zB<|zA rfl<|v0s<|veT<|zB<|vT ((k:Int)<(Aa fs:Int))<|zM<|zC<|zK<|zB<|zF<|zB<|zA rfl<|vr 2 (ix (k:Int) (Aa fs:Int) (Af zAg fs≠[])/\3<=Aa (Ag (k*3)<|Af zAg fs))<|vs 26 (Aq<|Am 3<|Ag (k*3)<|Af zAg fs) (Aq<|zAg f) (hd:=by simp(disch:=omega) only[hg2])<|ve (Ac=Ac/\Ab=Ab/\3=3/\3<=3)<|zB<|zA rfl<|vr 1 (3<=3)<|vc (sA)<|vr 2 ((0:Int)<=(v:Int))<|vs 30 (As<|AF Ax<|BL (↑(msk<|AC f):Int) ((2:Int)^min (Ap (v:Int)) 32)) (dig (msk (AC f)>>>v)) (hd:=by simp(disch:=omega) only[AG,w3])<|vrT 1<|vs 31 (As<|AF Ax<|AT Ax (↑(AQ (Aw 32 (↑(msk (AC f)>>>v):Int)&&&Aw 32 (1:Int))):Int)) (dig<|AQ (Aw 32 (↑(msk (AC f)>>>v):Int)&&&Aw 32 (1:Int))) (hd:=by simp(disch:=omega) only[zBx])<|vrT 1<|vs 32 (bD ((↑(AQ (Aw 32 (↑(msk (AC f)>>>v):Int)&&&Aw 32 (1:Int))):Int)==(1:Int))) (bD<|decide (v∈AC f)) (hd:=by simp(disch:=omega) only[w1])<|veT<|vcD (v∈AC f) (λhc=>?_)<|λhc=>?_;refine zB<|zA rfl<|vr 2 (3<=3)<|vc (sA)<|vrT 1<|vs 36 (As<|AF Ax<|AT Ax (↑(AQ (Aw 32 (↑(uniM v<|Am k fs):Int)|||Aw 32 (↑(msk<|AC f):Int))):Int)) (dig (uniM v (Am k fs)|||msk (AC f))) (hd:=by simp(disch:=omega) only[w5,w4])<|veT<|zA rfl<|vr 5 (True/\0<3)<|vs 41 (iD (if(Aa (AC f):Int)>(↑(bigL v<|Am k fs):Int)then(Aa (AC f):Int)else(↑(bigL v<|Am k fs):Int))) (iD (↑(max (bigL v<|Am k fs)<|Aa<|AC f):Int)) (hd:=by simp(disch:=omega) only[w6])<|vrT 1<|vnil<|zD<|zC<|zK<|zA rfl<|vr 2 (i6 ((k:Int)+(1:Int)))<|vnil<|zC ?_;rotate_left;refine zM<|zD<|zC<|zK<|zA rfl<|vr 2 (i6 ((k:Int)+(1:Int)))<|vnil<|zC ?_;rotate_left
   ·rw[if_pos hc]at u1 u2;refine⟨k+1,by omega,by omega,?_⟩;rw[u1,u2];refine vk 0
   rw[if_neg hc]at u1 u2;refine⟨k+1,by omega,by omega,?_⟩;rw[u1,u2];refine vk 0
  obtain rfl:k=fs.length:=by omega
  have u3:uniM v fs<4294967296:=zM3 v fs 0 (by omega) λf hf=>(hA f hf).2;have hp:=popN_c (uniM v fs) u3;rw[BS];have hco:zGv popN fs v=if popN (uniM v fs)=bigL v fs then 0 else popN (uniM v fs):=rfl
  unfold zEd at hst;generalize popN (uniM v fs)=q at*;focus
   refine zB<|zA rfl<|v0s<|veT<|zB<|vF ((Aa fs:Int)<(Aa fs:Int))<|zAv<|zP<|zP<|zAk rfl<|zC<|zK<|zB<|zA rfl<|vrT 1<|vc (hp)<|veT<|zB<|zB<|zA rfl<|veT<|zAi (t:=(q:Int)==(↑(bigL v fs):Int)) (by kernel_rfl) (λhc=>?_)<|λhc=>?_;simp only[beq_iff_eq]at hc;refine zA rfl<|veT<|zB<|zA rfl<|vrT 3<|vspD 50 (b<0) (λhc=>?_)<|λhc=>?_;refine veT<|vt<|zA rfl<|vrT 4<|vnil<|zD<|zC<|zK<|zA rfl<|vr 2 (i6 ((i:Int)+(1:Int)))<|vnil<|zC ?_;rotate_left;refine veT<|vcD ((0:Int)<(l:Int)) (λhc=>?_)<|λhc=>?_;refine zA rfl<|vrT 4<|vnil<|zD<|zC<|zK<|zA rfl<|vr 2 (i6 ((i:Int)+(1:Int)))<|vnil<|zC ?_;rotate_left;refine zM<|zD<|zC<|zK<|zA rfl<|vr 2 (i6 ((i:Int)+(1:Int)))<|vnil<|zC ?_;rotate_left;simp only[beq_eq_false_iff_ne]at hc;refine zM<|zC<|zK<|zB<|zA rfl<|vrT 3<|vspD 50 (b<0) (λhc=>?_)<|λhc=>?_;refine veT<|vt<|zA rfl<|vrT 4<|vnil<|zD<|zC<|zK<|zA rfl<|vr 2 (i6 ((i:Int)+(1:Int)))<|vnil<|zC ?_;rotate_left;refine veT<|vcD ((q:Int)<(l:Int)) (λhc=>?_)<|λhc=>?_;refine zA rfl<|vrT 4<|vnil<|zD<|zC<|zK<|zA rfl<|vr 2 (i6 ((i:Int)+(1:Int)))<|vnil<|zC ?_;rotate_left;refine zM<|zD<|zC<|zK<|zA rfl<|vr 2 (i6 ((i:Int)+(1:Int)))<|vnil<|zC ?_;rotate_left
  ·have e:zGv popN fs v=0:=by rw[hco,if_pos (by omega)]
   rw[e,if_pos (by simp only;omega)]at hst;refine⟨i+1,(v:Int),0,⟨by omega,hst.symm⟩,by omega,?_⟩;refine vk 0
  ·have e:zGv popN fs v=0:=by rw[hco,if_pos (by omega)]
   rw[e,if_pos (by simp only;omega)]at hst;refine⟨i+1,(v:Int),0,⟨by omega,hst.symm⟩,by omega,?_⟩;refine vk 0
  ·have e:zGv popN fs v=0:=by rw[hco,if_pos (by omega)]
   rw[e,if_neg (by simp only;omega)]at hst;refine⟨i+1,b,l,⟨by omega,hst.symm⟩,by omega,?_⟩;refine vk 0
  ·have e:zGv popN fs v=q:=by rw[hco,if_neg (by omega)]
   rw[e,if_pos (by simp only;omega)]at hst;refine⟨i+1,(v:Int),q,⟨by omega,hst.symm⟩,by omega,?_⟩;refine vk 0
  ·have e:zGv popN fs v=q:=by rw[hco,if_neg (by omega)]
   rw[e,if_pos (by simp only;omega)]at hst;refine⟨i+1,(v:Int),q,⟨by omega,hst.symm⟩,by omega,?_⟩;refine vk 0
  have e:zGv popN fs v=q:=by rw[hco,if_neg (by omega)]
  rw[e,if_neg (by simp only;omega)]at hst;refine⟨i+1,b,l,⟨by omega,hst.symm⟩,by omega,?_⟩;refine vk 0
 rw[AK (by omega)]at h2;have hcm:=(zHp popN fs hne).2;rw[<-h2]at hcm;refine zB<|zA rfl<|v0s<|veT<|zB<|vF ((i:Int)<(Aa E:Int))<|zAv<|zP<|zP<|zAk rfl<|zC<|zK<|zB<|zA rfl<|veT<|zG<|vre (True) (As<|AF Bh b) (.inr rfl) ?_;rw[<-hcm]
end
section
open Go.RowKit
set_option maxRecDepth 4096
abbrev fsBB(l:List D):Bk:=⟨l,94,3,Ab,Ac, .plain⟩
theorem grow_cB(n:Nat)(hn:0<n)(hb:n<=1000000):Pure Ao 161 [nl,iD (n:Nat)] [fsBB []] (.osl 0 0 0 0 Ab):=by
 obtain⟨i0,hi0⟩:∃i0,Ao.info? 94=Ar i0/\i0.size=3/\i0.bytes=72/\i0.zero=Ar (.agg #[.slice Au 0 0, .slice Au 0 0, .slice Au 0 0]):=⟨(Ao.info? 94).getD Ai,by kernel_rfl,by kernel_rfl,by kernel_rfl,by kernel_rfl⟩;obtain⟨h1,h2,h3,h4⟩:=hi0;intro I w vs hr hi hg;rw[zHy [.slice Au 0 0, .int .i64 n] vs hr];have hc:=Any8.slices_Grow_grow Tryz.grow161 i0 _ h1 h4 (by omega) Au 0 0 n [] w (Bi _) (by omega) (by rw[h3];omega) (by omega) (by simp) (λ_=>rfl) (λa h=>by cases h);have hge:=grownCap_ge w (0+n) 0 (Tryz.grow161_ren.t 25);have hmx:=grownCap_le_maxLen w (0+n) 0 (Tryz.grow161_ren.t 25) (by unfold maxLen;omega);generalize grownCap w (0+n) 0 (Tryz.grow161_ren.t 25)=G at*;refine hc.mono ?_;rintro e w' ⟨rfl,rfl⟩;have key:∀{k b c:Nat},(if k=0 then Ar (w.heap.size,G)else Au)=Ar (b,c)->k=0/\b=w.heap.size/\c=G:=λ{k b c} h=>by
  split at h
  ·rename_i e;cases h;exact⟨e,rfl,rfl⟩
  cases h
 have hext:∀o,Ext w (w.drew.alloc o):=λo=>(Ext.drew w).trans (Ext.alloc _ o);refine⟨_,I,λk=>if k=0 then Ar (w.heap.size,G)else Au,rfl,hext _,λb o hb=>Ci (hi b o hb) (hext _).size,Fix.ext (hext _) λ_ _ h=>h,λ_ _ h=> .inl h,λk b c h=>?_,λk b c h=>?_,λk k' b c c' h h'=>?_,λk b c j e h he hij=>?_,λk y h=>?_,?_,by simp⟩
 ·exact BT (key h).2.1.symm
 ·obtain⟨rfl,rfl,rfl⟩:=key h;refine⟨fsBB [],rfl,OwnC.r ⟨(#[]++Builtin.zeroCells (BB #[AW Au 0 0,AW Au 0 0,AW Au 0 0]).cells (0+n-0)++Builtin.zeroCells (BB #[AW Au 0 0,AW Au 0 0,AW Au 0 0]).cells (c-(0+n))).toList,?_,Bt _,?_,λ_=>?_,hmx⟩ rfl⟩
  ·rw[BU];exact heap_alloc_new w.drew _
  ·rfl
  rw[Array.length_toList,BV,BV,size_zeroCells,size_zeroCells,show(BB #[AW Au 0 0,AW Au 0 0,AW Au 0 0]).cells.size=3 from rfl];simp only[List.size_toArray,BW];show _=c*3;omega
 ·rw[(key h).1,(key h').1]
 ·have:=hi b j hij
  have:=(key h).2.1
  omega
 ·have:=(key h).1
  simp;omega
 simp only[Rel];exact .inr (.inr ⟨w.heap.size,G,G,rfl,rfl,Bt _,hmx,λ_=>by simp⟩)
theorem grow0_cB:Pure Ao 161 [nl,iD ((0:Nat):Int)] [] nl:=
 zC4 (us:=[.slice Au 0 0, .int .i64 ((0:Nat):Int)]) (λw=>(Any8.slices_Grow_room Tryz.grow161 Au 0 0 0 w (by omega) (by omega) (by omega) (by omega)).mono λe w' h=>⟨h.1,h.2.symm⟩)
end
section
open Go.RowKit
attribute [local irreducible] seqW awp zAa zAb zR Weak updS zAd retL Pure Acts rP setP setQ cP nP fr
set_option maxRecDepth 4096
set_option maxHeartbeats 2000000 in
theorem concat_cB(a b:List D)(n m:Nat)(ha:a.length=n*3)(hb:b.length=m*3)(hn:n<=1000)(hm:m<=1000)(n1:∀d∈a,True):Pure Ao 136 [.row [.row a n, .row b m] 2] [] (.row (a++b) (n+m)):=by
 have zadd:(n:Int)+(m:Int)=((n+m:Nat):Int):=by omega
 have ht:(a++b).take ((n+m)*3)=a++b:=AK (by rw[AZ];omega);rcases Bx (n+m)with h|h
 ·obtain rfl:n=0:=by omega
  obtain rfl:m=0:=by omega
  obtain rfl:a=[]:=BC (by omega);obtain rfl:b=[]:=BC (by omega);refine zH zDt mixed Tryz.func136 rfl<|zB<|zA rfl<|v0s<|veT<|zB<|zA rfl<|veT<|zB<|zB<|zA rfl<|veT<|zF<|zAj<|zB<|zA rfl<|veT<|zB<|vt<|zM<|zC<|zK<|zB<|zF<|zB<|zA rfl<|ve (ix (0:Int) (↑(2:Nat):Int) ([Ad [] 0,Ad [] 0]≠[])/\0<2)<|zB<|zA rfl<|ve (i6 ((0:Int)+(↑(0:Nat):Int)))<|zB<|zA rfl<|veT<|vf<|zM<|zD<|zC<|zK<|zA rfl<|vr 2 (i6 ((0:Int)+(1:Int)))<|vnil<|zC<|zAj ?_;refine zB<|zA rfl<|veT<|zB<|vt<|zM<|zC<|zK<|zB<|zF<|zB<|zA rfl<|ve (ix (1:Int) (↑(2:Nat):Int) ([Ad [] 0,Ad [] 0]≠[])/\0<1)<|zB<|zA rfl<|ve (i6 ((0:Int)+(↑(0:Nat):Int)+(↑(0:Nat):Int)))<|zB<|zA rfl<|veT<|vf<|zM<|zD<|zC<|zK<|zA rfl<|vr 2 (i6 ((1:Int)+(1:Int)))<|vnil<|zC<|zAj<|zB<|zA rfl<|veT<|zB<|vf<|zAv<|zP<|zP<|zAk rfl<|zC<|zK<|zB<|zA rfl<|vrT 1<|vc (grow0_cB)<|veT<|zB<|zB<|zA rfl<|veT<|zF<|zAj<|zB<|zA rfl<|veT<|zB<|vt<|zM<|zC<|zK<|zB<|zF<|zB<|zA rfl<|ve (ix (0:Int) (↑(2:Nat):Int) ([Ad [] 0,Ad [] 0]≠[])/\0<2)<|zA rfl<|vr 4 (0=0/\0<3/\0<72/\94=94/\0<=140737488355328/\3=3)<|vnil<|zD<|zC<|zK<|zA rfl<|vr 2 (i6 ((0:Int)+(1:Int)))<|vnil<|zC<|zAj<|zB<|zA rfl<|veT<|zB<|vt<|zM<|zC<|zK<|zB<|zF<|zB<|zA rfl<|ve (ix (1:Int) (↑(2:Nat):Int) ([Ad [] 0,Ad [] 0]≠[])/\0<1)<|zA rfl<|vr 4 (Ab=Ab/\0=0/\0=0/\94=94/\3=3/\0=0/\0<3/\0<72/\94=94/\0<=140737488355328/\3=3/\Ac=Ac/\(Ac=Ac\/Ac=Ab))<|vnil<|zD<|zC<|zK<|zA rfl<|vr 2 (i6 ((1:Int)+(1:Int)))<|vnil<|zC<|zAj<|zB<|zA rfl<|veT<|zB<|vf<|zAv<|zP<|zP<|zAk rfl<|zC<|zK<|zB<|zA rfl<|veT<|zG<|vret (True)<|.inr rfl
 have hg:=grow_cB (n+m) h (by omega);refine zH zDt mixed Tryz.func136 rfl<|zB<|zA rfl<|v0s<|veT<|zB<|zA rfl<|veT<|zB<|zB<|zA rfl<|veT<|zF<|zAj<|zB<|zA rfl<|veT<|zB<|vt<|zM<|zC<|zK<|zB<|zF<|zB<|zA rfl<|ve (ix (0:Int) (↑(2:Nat):Int) ([Ad a n,Ad b m]≠[])/\0<2)<|zB<|zA rfl<|vr 4 (i6 ((0:Int)+(n:Int)))<|vs 18 (iD ((0:Int)+(n:Int))) (iD (n:Int)) (hd:=by simp(disch:=omega) only[Int.zero_add])<|veT<|zB<|zA rfl<|veT<|vF ((n:Int)<0)<|zM<|zD<|zC<|zK<|zA rfl<|vr 2 (i6 ((0:Int)+(1:Int)))<|vnil<|zC<|zAj<|zB<|zA rfl<|veT<|zB<|vt<|zM<|zC<|zK<|zB<|zF<|zB<|zA rfl<|ve (ix (1:Int) (↑(2:Nat):Int) ([Ad a n,Ad b m]≠[])/\0<1)<|zB<|zA rfl<|ve (i6 ((n:Int)+(m:Int)))<|zB<|zA rfl<|veT<|vF ((↑(n+m):Int)<0)<|zM<|zD<|zC<|zK<|zA rfl<|vr 2 (i6 ((1:Int)+(1:Int)))<|vnil<|zC<|zAj<|zB<|zA rfl<|veT<|zB<|vf<|zAv<|zP<|zP<|zAk rfl<|zC<|zK<|zB<|zA rfl<|vrT 1<|vn (hg)<|veT<|zB<|zB<|zA rfl<|veT<|zF<|zAj<|zB<|zA rfl<|veT<|zB<|vt<|zM<|zC<|zK<|zB<|zF<|zB<|zA rfl<|ve (ix (0:Int) (↑(2:Nat):Int) ([Ad a n,Ad b m]≠[])/\0<2)<|zA rfl<|vr 4 (Ab=Ab/\0=0/\0=0/\94=94/\3=3/\Aa a=n*3/\0<3/\0<72/\94=94/\(0+n)*72<=140737488355328/\3=3/\Ac=Ac/\(Ac=Ac\/Ac=Ab))<|vs 6 (Ah 0 0 (0+n) ((0+n)*3) Ab) (Ah 0 0 n (n*3) Ab) (hd:=by simp(disch:=omega) only[BX])<|vnil<|zD<|zC<|zK<|zA rfl<|vr 2 (i6 ((0:Int)+(1:Int)))<|vnil<|zC<|zAj<|zB<|zA rfl<|veT<|zB<|vt<|zM<|zC<|zK<|zB<|zF<|zB<|zA rfl<|ve (ix (1:Int) (↑(2:Nat):Int) ([Ad a n,Ad b m]≠[])/\0<1)<|zA rfl<|vr 4 (AU (Ak a 94 3 Ab Ac Aj)=Ab/\Aa a=n*3/\n*3=n*3/\AN (Ak a 94 3 Ab Ac Aj)=94/\AO (Ak a 94 3 Ab Ac Aj)=3/\Aa b=m*3/\0<3/\0<72/\94=94/\(n+m)*72<=140737488355328/\3=3/\AR (Az<|Ak a 94 3 Ab Ac Aj)=Ac/\(Ac=Ac\/AS (Az<|Ak a 94 3 Ab Ac Aj)=Ab))<|vnil<|zD<|zC<|zK<|zA rfl<|vr 2 (i6 ((1:Int)+(1:Int)))<|vnil<|zC<|zAj<|zB<|zA rfl<|veT<|zB<|vf<|zAv<|zP<|zP<|zAk rfl<|zC<|zK<|zB<|zA rfl<|veT<|zG<|zB3 (True) (Ad (Am ((n+m)*3)<|Ag 0 (a++b)) (n+m)) (Ad (a++b) (n+m)) (.inr rfl) (by simp(disch:=omega) only[AP,ht]) rfl
theorem info_fasB:(Ao.info? 94).map (λi=>(i.zero,i.size,i.bytes))=Ar (Ar (.agg #[.slice Au 0 0, .slice Au 0 0, .slice Au 0 0]),3,72):=by kernel_rfl
set_option maxHeartbeats 400000 in
theorem clone0_fasB:Pure Ao 82 [.row [] 0] [⟨[],94,3,Ab,Ac, .plain⟩] (.osl 0 0 0 0 Ab):=by
 refine zHd λI w vs hr=>?_;simp only[RelT,Rel]at hr;obtain⟨v,ys,rfl,⟨a,c,rfl,_,_,hc,_⟩,rfl⟩:=hr;cases a with
 |none=>
  obtain rfl:=hc rfl;have he:=λ(w:World)=>BY (P:=Ao) w 87 94 Au 0 0 0 0 Tryz.underlying87;go_enter Tryz.func82,Tryz.ntmps82;go_wp2;go_ret;exact .inl ⟨rfl,Ext.refl _⟩
 |some x=>
  obtain⟨i0,hi,hz0,hz1,hz2⟩:=info_parts info_fasB;have he:=λ(w:World)=>BY (P:=Ao) w 87 94 (Ar x) 0 c 0 0 Tryz.underlying87;have hS:RowAt (λ_=>True) w (Ar x) []:= .inl rfl;go_enter Tryz.func82,Tryz.ntmps82;go_wp2_with (at_builtin;refine zBy rfl _ _ 87 rfl w.heap.size 94 i0 (.agg #[.slice Au 0 0, .slice Au 0 0, .slice Au 0 0]) 3 72 Tryz.underlying87 hi hz0 hz1 hz2 rfl (by decide) (.slice (Ar ⟨w.heap.size,0,Au⟩) 0 0) 0 [] rfl (World.ownsRow_made _ #[] 0 (Bi _) (Bt _) rfl) x 0 c [] rfl (by simp) (by simp) (by simp) (by simp[maxLen]) (by decide) (by simp) ?_;intro v' w' hown hgrow hdr);go_ret;have hext:Ext w w':=⟨((Below.refl _ _).alloc (Bi _) _).grown hgrow (by simp) (by simp[Value.ownBlock]),hdr⟩;obtain⟨_,⟨rfl,_⟩|⟨g,cap,cur,rfl,hb,hg,_,hc1,hs,_⟩⟩:=hown
  ·exact .inl ⟨rfl,hext⟩
  exact .inr ⟨g,cur.toList,cap,rfl,hb,hext,by rw[BU];exact hg,by simpa using hs,hc1⟩
theorem cloneF_cB(a:List D)(n:Nat)(ha:a.length=n*3)(hn:n<=1000):Pure Ao 82 [.row a n] [] (.row a n):=by
 by_cases h0:n=0
 ·subst h0;obtain rfl:a=[]:=BC (by omega);exact clone0_fasB.frozen rfl rfl
 have h1:0<n:=by omega
 have ht:a.take (n*3)=a:=AK (by omega);refine zH zDt mixed Tryz.func82 rfl<|zB<|zA rfl<|v0s<|veT<|zB<|zB<|zA rfl<|ve (0<n)<|vf<|zM<|zC<|zK<|zB<|zA rfl<|vr 4 ((True/\0<3/\3=3/\0<=16777216/\0<=9223372036854775807)/\Ab=Ab/\0=0/\0=0/\94=94/\3=3/\Aa a=n*3/\0<3/\0<72/\94=94/\(0+n)*72<=140737488355328/\3=3/\Ac=Ac/\(Ac=Ac\/Ac=Ab))<|vs 2 (Ah 0 0 (0+n) ((0+n)*3) Ab) (Ah 0 0 n (n*3) Ab) (hd:=by simp(disch:=omega) only[BX])<|veT<|zG<|zB3 (True) (Ad (Am (n*3)<|Ag 0 a) n) (Ad a n) (.inr rfl) (by simp(disch:=omega) only[AP,ht]) rfl
theorem zLo(l:List (Fa Bool)):(l.flatMap zAg).length=l.length*3:=zG3 zA8 l
theorem with_succB(v:Nat)(fs:List (Fa Bool))(k:Nat)(h:k<fs.length):zDx v (fs.take (k+1))=zDx v (fs.take k)++(if v∈(fs.getD k Ai).A then[fs.getD k Ai]else[])/\zDy v (fs.take (k+1))=zDy v (fs.take k)++(if v∈(fs.getD k Ai).A then[]else[fs.getD k Ai]):=by
 rw[zBm fs k h];unfold zDx zDy;rw[BM,BM];constructor<;>congr 1<;>by_cases hc:v∈(fs.getD k Ai).A<;>simp[Cj,hc]
theorem zSy(l:List (Fa Bool))(f:Fa Bool):(l++[f]).flatMap zAg=l.flatMap zAg++zAg f:=by simp
section
variable {Dm : List Va}
set_option maxHeartbeats 8000000 in
theorem zWf(hD:Okv Dm)(fs:List (Fa Bool))(v:Nat)(hf:∀f∈fs,FOk rcmp Dm f)(hl:fs.length<=500)(hr:pz rz fs<=900000)(hz:pz bz fs<=Bz)(hv:∃f∈fs,v∈f.A)(hv32:v<32):
  Pure Ao 84 [booD, .row (fs.flatMap zAg) fs.length,iD (v:Nat)] [] (.row ((elim rcmp Sb v fs).flatMap zAg) (elim rcmp Sb v fs).length):=by
 have hg:∀f∈fs,GofB Dm f:=λf h=>⟨hf f h,AB (zLz zFe h) hr,AB (zLz zPo h) hz⟩;refine zH zDt mixed Tryz.func84 rfl<|zB<|zA rfl<|v0s<|veT<|zB<|zA rfl<|veT<|zB<|zB<|zA rfl<|veT<|zF<|zA2 (λ(k:Nat)(a:List (Fa Bool))(b:List (Fa Bool))=>fr 65 [(0,booD),(2,iD (v:Int)),(6,nl),(7,Ah 0 0 (Aa a) (Aa a*3) Ab),(8,Ah 1 0 (Aa b) (Aa b*3) Ab),(14,Ad (Af zAg fs)<|Aa fs),(15,iD (Aa fs:Int)),(16,iD (k:Int))]) (λ(k:Nat)(a:List (Fa Bool))(b:List (Fa Bool))=>[fsBB<|a.flatMap zAg,fsBB<|b.flatMap zAg]) (λk a b=>fs.length-k) (λ(k:Nat)(a:List (Fa Bool))(b:List (Fa Bool))=>k<=fs.length/\a=zDx v (fs.take k)/\b=zDy v (fs.take k)) 0 [] [] ?_ ?_ ?_
 ·exact⟨by omega,rfl,rfl⟩
 ·refine vk 0
 rintro k a b ⟨h1,ha,hb⟩;rcases Av k fs.length with h2|h2
 ·have hmf:=zAx fs Ai k h2;have hg2:=zDg zA8 fs k h2;have hle:=zFp zA8 fs k h2;have hne2:=zEi zA8 (by decide) fs;have hAf:=(hf _ hmf).asc;have nAf:=zCw hAf;have sA:=zLi (fs.getD k Ai).A _ rfl (by omega) hAf.2 (zAw (fs.getD k Ai).l) (zA3 (fs.getD k Ai).l) (fs.getD k Ai).l.length (fs.getD k Ai).l.length;have hma:=zCf hAf.2;have w1:=bit_b hma v;have w2:=bit_w hma v;rw[zCv]at w1 w2;have w3:=zG7 (msk (fs.getD k Ai).A) hv32;obtain⟨u1,u2⟩:=with_succB v fs k h2;rw[<-ha]at u1;rw[<-hb]at u2;have la:a.length<=500:=by rw[ha];exact AB (Bp _ _) (by simp;omega)
  have lb:b.length<=500:=by rw[hb];exact AB (Bp _ _) (by simp;omega)
  have ca:=zLo a;have cb:=zLo b;generalize fs.getD k Ai=f at*;focus
   refine zB<|zA rfl<|v0s<|veT<|zB<|vT ((k:Int)<(Aa fs:Int))<|zM<|zC<|zK<|zB<|zF<|zB<|zA rfl<|vr 2 (ix (k:Int) (Aa fs:Int) (Af zAg fs≠[])/\3<=Aa (Ag (k*3)<|Af zAg fs))<|vs 19 (Aq<|Am 3<|Ag (k*3)<|Af zAg fs) (Aq<|zAg f) (hd:=by simp(disch:=omega) only[hg2])<|ve (Ac=Ac/\Ab=Ab/\3=3/\3<=3)<|zB<|zA rfl<|vr 1 (3<=3)<|vc (sA)<|vr 2 ((0:Int)<=(v:Int))<|vs 23 (As<|AF Ax<|BL (↑(msk<|AC f):Int) ((2:Int)^min (Ap (v:Int)) 32)) (dig (msk (AC f)>>>v)) (hd:=by simp(disch:=omega) only[AG,w3])<|vrT 1<|vs 24 (As<|AF Ax<|AT Ax (↑(AQ (Aw 32 (↑(msk (AC f)>>>v):Int)&&&Aw 32 (1:Int))):Int)) (dig<|AQ (Aw 32 (↑(msk (AC f)>>>v):Int)&&&Aw 32 (1:Int))) (hd:=by simp(disch:=omega) only[zBx])<|vrT 1<|vs 25 (bD ((↑(AQ (Aw 32 (↑(msk (AC f)>>>v):Int)&&&Aw 32 (1:Int))):Int)==(1:Int))) (bD<|decide (v∈AC f)) (hd:=by simp(disch:=omega) only[w1])<|veT<|vcD (v∈AC f) (λhc=>?_)<|λhc=>?_;refine zA rfl<|vr 5 (3<=3/\((3=3/\3<=3/\True)/\0<3/\3=3/\3<=16777216/\1<=9223372036854775807)/\AU (fsBB<|Af zAg a)=Ab/\Aa (AJ<|fsBB<|Af zAg a)=Aa a*3/\Aa a*3=Aa a*3/\AN (fsBB<|Af zAg a)=94/\AO (fsBB<|Af zAg a)=3/\3=3/\0<3/\0<72/\94=94/\(Aa a+1)*72<=140737488355328/\3=3/\AR (Az<|fsBB<|Af zAg a)=Ac/\(Ac=Ac\/AS (Az<|fsBB<|Af zAg a)=Ab))<|vnil<|zD<|zC<|zK<|zA rfl<|vr 2 (i6 ((k:Int)+(1:Int)))<|vnil<|zC ?_;rotate_left;refine zA rfl<|vr 5 (3<=3/\((3=3/\3<=3/\True)/\0<3/\3=3/\3<=16777216/\1<=9223372036854775807)/\AU (fsBB<|Af zAg b)=Ab/\Aa (AJ<|fsBB<|Af zAg b)=Aa b*3/\Aa b*3=Aa b*3/\AN (fsBB<|Af zAg b)=94/\AO (fsBB<|Af zAg b)=3/\3=3/\0<3/\0<72/\94=94/\(Aa b+1)*72<=140737488355328/\3=3/\AR (Az<|fsBB<|Af zAg b)=Ac/\(Ac=Ac\/AS (Az<|fsBB<|Af zAg b)=Ab))<|vnil<|zD<|zC<|zK<|zA rfl<|vr 2 (i6 ((k:Int)+(1:Int)))<|vnil<|zC ?_;rotate_left
  ·rw[if_pos hc]at u1 u2;rw[Bu]at u2;refine⟨k+1,a++[f],b,⟨by omega,u1.symm,u2.symm⟩,by omega,?_⟩;rw[zSy,zF6];refine vk 2
  rw[if_neg hc]at u1 u2;rw[Bu]at u1;refine⟨k+1,a,b++[f],⟨by omega,u1.symm,u2.symm⟩,by omega,?_⟩;rw[zSy,zF6];refine vk 2
 rw[AK (by omega)]at ha hb;have hperm:=zEm v fs;rw[<-ha,<-hb]at hperm;have hpr:=zNi rz hperm;have hpv:=zNi bz hperm;have hmem:=λf=>hperm.mem_iff (a:=f);have hvin:∀f∈a,v∈f.A:=λf h=>by
  rw[ha,zDx,A4]at h;simpa using h.2
 have hlen:=hperm.length_eq;rw[AZ]at hlen;cases a with
 |nil=>
  exfalso;obtain⟨f,h5,h6⟩:=hv;have:f∈zDx v fs:=A4.2 ⟨h5,by simpa using h6⟩;rw[<-ha]at this;simp at this
 | cons p ws=>
  have hel:elim rcmp Sb v fs=b++[fsum rcmp Sb v (zCd rcmp Sb p ws b)]:=by
   unfold elim;rw[<-ha,<-hb]
  rw[hel];clear hel ha hb hv;have h0:((p::ws).flatMap zAg).take 3=zAg p:=rfl;have hfa:=zE6 zA8 (p::ws) (ws.length+1) rfl;have hfb:=zE6 zA8 b _ rfl;refine zB<|zA rfl<|v0s<|veT<|zB<|vF ((k:Int)<(Aa fs:Int))<|zAv<|zP<|zP<|zAk rfl<|zC<|zK<|zB<|zA rfl<|vr 5 (((0:Int)<=(0:Int)/\(0:Int)<(↑(Aa ws+1):Int))/\3<=Aa (Ag 0<|AJ<|fsBB<|Af zAg (p::ws))/\Ac=Ac/\Ab=Ab/\3=3/\3<=3)<|vnil<|zC<|vnn (fr 65 [(0,booD),(2,iD (v:Int)),(6,nl),(7,Ah 0 0 (Aa (p::ws)) (Aa (p::ws)*3) Ab),(8,Ah 1 0 (Aa b) (Aa b*3) Ab),(11,Al 2 0),(14,Ad (Af zAg fs)<|Aa fs),(15,iD (Aa fs:Int)),(16,iD (k:Int)),(17,bD<|decide ((k:Int)<(Aa fs:Int))),(35,Ah 0 0 (Aa ws+1) ((Aa ws+1)*3) Ab),(36,Al 0 0),(37,Aq [Ad (nsD<|AC p)<|Aa<|AC p,Ad (zAw<|A0 p)<|Aa<|A0 p,Ad (zA3<|A0 p)<|Aa<|A0 p])]) [fsBB<|Af zAg (p::ws),fsBB<|Af zAg b,Ak [Ad (nsD<|AC p)<|Aa<|AC p,Ad (zAw<|A0 p)<|Aa<|A0 p,Ad (zA3<|A0 p)<|Aa<|A0 p] 94 0 Ac Ac Aj] ?_;clear h1 h2 hperm;refine zBf (((BD (s:=7) (k:=0) (off:=0) (n:=ws.length+1) (m:=(ws.length+1)*3) (wh:=Ab) (cs:=(p::ws).flatMap zAg) (by kernel_rfl) (by exact(show Ar (Ad ((((p::ws).flatMap zAg).drop 0).take ((ws.length+1)*3)) (ws.length+1),[0])=_ by rw[AP,hfa]))).trans (BD (s:=8) (k:=1) (off:=0) (n:=b.length) (m:=b.length*3) (wh:=Ab) (cs:=b.flatMap zAg) (by kernel_rfl) (by exact(show Ar (Ad (((b.flatMap zAg).drop 0).take (b.length*3)) b.length,[1])=_ by rw[AP,hfb])))).trans<|Weak.leS (s:=7) (d':= .row ((p::ws).flatMap zAg) (ws.length+1)) (by kernel_rfl)<|LeD.osr_row 0 0 (ws.length+1) ((ws.length+1)*3) Ab<|(p::ws).flatMap zAg) ?_;have hs1:((p::ws).flatMap zAg).drop 3=ws.flatMap zAg:=rfl;have hs2:(ws.flatMap zAg).take (ws.length*3)=ws.flatMap zAg:=zE6 zA8 ws _ rfl;have hwl:ws.length<=500:=by simp only[A5]at hlen;omega
  refine zB<|zB<|zA rfl<|v0s<|vr 2 ((0:Int)<=(1:Int)/\True/\True/\0<3/\1<=Aa ws+1/\Aa ws+1<=Aa ws+1/\Aa ws+1=Aa ws+1)<|vs 39 (Ad (Am ((Aa ws+1-1)*3)<|Ag 3<|Af zAg (p::ws)) (Aa ws+1-1)) (Ad (Af zAg ws)<|Aa ws) (hd:=by simp(disch:=omega) only[BZ,hs1,hs2])<|veT<|zF ?_;have hp1:=hf p ((hmem p).1 (by simp));have hws:∀f∈ws,f∈fs:=λf h=>(hmem f).1 (List.mem_append_left _ (Bj _ h));have hbs:∀f∈b,f∈fs:=λf h=>(hmem f).1 (List.mem_append_right _ h);have b1:rz p*pz rz ws<=900000:=by
   rw[zNj,zCi]at hpr;exact AB (AV _ (zFh zFe b)) (by omega)
  have b2:bz p*pz bz ws<=Bz:=by
   rw[zNj,zCi]at hpv;exact AB (AV _ (zFh zPo b)) (by omega)
  refine zA2 (λ(t:Nat)(A:List Nat)(l:List (Rw×Bool))=>fr 65 [(0,booD),(2,iD (v:Int)),(6,nl),(7,Ad (Af zAg (p::ws)) (Aa ws+1)),(8,D.osr 1 0 (Aa b) (Aa b*3) Ab<|Af zAg b),(11,Al 2 0),(39,Ad (Af zAg ws)<|Aa ws),(40,iD (Aa ws:Int)),(41,iD (t:Int))]) (λ(t:Nat)(A:List Nat)(l:List (Rw×Bool))=>[⟨(p::ws).flatMap zAg,94,3,Ab,Ab,.plain⟩,⟨b.flatMap zAg,94,3,Ab,Ab,.plain⟩,fB1B (.row (nsD A) A.length) (.row (zAw l) l.length)<|.row (zA3 l) l.length]) (λt A l=>ws.length-t) (λ(t:Nat)(A:List Nat)(l:List (Rw×Bool))=>t<=ws.length/\zCd rcmp Sb ⟨A,l⟩ (ws.drop t) b=zCd rcmp Sb p ws b/\FOk rcmp Dm ⟨A,l⟩/\rz (⟨A,l⟩:Fa Bool)*pz rz (ws.drop t)<=900000/\bz (⟨A,l⟩:Fa Bool)*pz bz (ws.drop t)<=Bz/\v∈A) 0 p.A p.l ?_ ?_ ?_
  ·exact⟨by omega,rfl,hp1,b1,b2,hvin p (by simp)⟩
  ·refine vk 3
  rintro t A l ⟨t1,t2,t3,t4,t5,t6⟩;rcases Av t ws.length with t7|t7
  ·have hmf:=zAx ws Ai t t7;have hg2:=zDg zA8 ws t t7;have hle:=zFp zA8 ws t t7;have hne2:=zEi zA8 (by decide) ws;have hdr:ws.drop t=ws.getD t Ai::ws.drop (t+1):=by
    rw[B3 t7,AE,AM t7];rfl
   rw[hdr]at t2 t4 t5;rw[zCi,<-B5]at t4 t5;have q1:rz (⟨A,l⟩:Fa Bool)*rz (ws.getD t Ai)<=900000:=AB (AV _ (zFh zFe _)) t4;have q2:bz (⟨A,l⟩:Fa Bool)*bz (ws.getD t Ai)<=Bz:=AB (AV _ (zFh zPo _)) t5;have gA:GofB Dm ⟨A,l⟩:=⟨t3,AB (AV _ (zFe _)) q1,AB (AV _ (zPo _)) q2⟩;have hmul:=zL2 hD ⟨A,l⟩ (ws.getD t Ai) (ws.drop (t+1)++b) gA (hg _ (hws _ hmf)) (λo ho=>by
    rcases List.mem_append.1 ho with h|h
    ·exact hg _ (hws _ (B6 h))
    exact hg _ (hbs _ h)) (by rw[AZ,A6];simp only[A5]at hlen;omega) q1
   have r1:=zJn (c:=rcmp) Sb ⟨A,l⟩ (ws.getD t Ai) (ws.drop (t+1)++b);have r2:=zX6 (c:=rcmp) ⟨A,l⟩ (ws.getD t Ai) (ws.drop (t+1)++b);have r3:=zHm (S:=Sb) rcw t3 (hf _ (hws _ hmf)) (ws.drop (t+1)++b);have r4:=AB (Bm (pz rz (ws.drop (t+1))) r1) t4;have r5:=AB (Bm (pz bz (ws.drop (t+1))) r2) t5;have r6:v∈(fmul rcmp Sb ⟨A,l⟩ (ws.getD t Ai) (ws.drop (t+1)++b)).A:=zEt.2 ⟨hv32, .inl t6⟩;rw[zCd]at t2;have hcc:=concat_cB ((ws.drop (t+1)).flatMap zAg) (b.flatMap zAg) (ws.drop (t+1)).length b.length (zLo _) (zLo _) (by rw[A6];simp only[A5]at hlen;omega) (by simp only[A5]at hlen;omega) (λ_ _=>trivial);rw[<-Ck,<-AZ]at hcc;have hsl:((p::ws).flatMap zAg).drop ((t+2)*3)=(ws.drop (t+1)).flatMap zAg:=by
    rw[zN7 zA8];rfl
   have hsn:ws.length+1-(t+2)=(ws.drop (t+1)).length:=by rw[A6];omega
   have hst:=zE6 zA8 (ws.drop (t+1)) _ rfl;generalize ws.getD t Ai=f at*;generalize fmul rcmp Sb ⟨A,l⟩ f (ws.drop (t+1)++b)=q at*;obtain⟨A',l'⟩:=q;have cast2:(t:Int)+2=((t+2:Nat):Int):=by omega
   refine zB<|zA rfl<|v0s<|veT<|zB<|vT ((t:Int)<(Aa ws:Int))<|zM<|zC<|zK<|zB<|zF<|zB<|zA rfl<|vr 3 (ix (t:Int) (Aa ws:Int) (Af zAg ws≠[])/\3<=Aa (Ag (t*3)<|Af zAg ws))<|vs 45 (Aq<|Am 3<|Ag (t*3)<|Af zAg ws) (Aq<|zAg f) (hd:=by simp(disch:=omega) only[hg2])<|ve (Ac=Ac/\Ab=Ab/\3=3/\3<=3)<|vd [0,3,4,5,6,7,1,2,8,9,10,11]<|vr 5 (i6 ((t:Int)+(2:Int))/\(0:Int)<=(↑(t+2):Int)/\True/\True/\0<3/\Ap (↑(t+2):Int)<=Aa ws+1/\Aa ws+1<=Aa ws+1/\Aa ws+1=Aa ws+1)<|vs 52 (Ad (Am ((Aa ws+1-Ap (↑(t+2):Int))*3)<|Ag (Ap (↑(t+2):Int)*3)<|Af zAg (p::ws)) (Aa ws+1-Ap (↑(t+2):Int))) (Ad (Af zAg<|Ag (t+1) ws)<|Aa<|Ag (t+1) ws) (hd:=by simp(disch:=omega) only[AG,hst,hsl,hsn])<|vr 4 (3<=3/\3<=3/\(1=1/\1<=2/\1=1/\2<=2/\True)/\0<1/\1=1/\2<=16777216/\2<=9223372036854775807)<|vc (hcc)<|vc (hmul)<|vr 1 (A1 (fB1B (Ad (nsD A)<|Aa A) (Ad (zAw l)<|Aa l)<|Ad (zA3 l)<|Aa l)=Ac/\Ab=Ab/\3=3/\3<=3)<|vnil<|zD<|zC<|zK<|zA rfl<|vr 2 (i6 ((t:Int)+(1:Int)))<|vnil<|zC<|⟨t+1,A',l',⟨by omega,t2,r3,r4,r5,r6⟩,by omega,?_⟩;refine vk 3
  rw[B7 t7]at t2 t4 t5;simp only[pz,List.foldr_nil,A2,zCd]at t2 t4 t5;have hsum:=sumOutF_cB hD ⟨A,l⟩ ⟨t3,t4,t5⟩ v t6;rw[<-t2,zSy,zF6];have cb:=zLo b;generalize fsum rcmp Sb v ⟨A,l⟩=q at*;obtain⟨A',l'⟩:=q;have ht:(b.flatMap zAg++zAg ⟨A',l'⟩).take ((b.length+1)*3)=b.flatMap zAg++zAg ⟨A',l'⟩:=AK (by rw[AZ,cb];show _+3<=_;omega);refine zB<|zA rfl<|v0s<|veT<|zB<|vF ((t:Int)<(Aa ws:Int))<|zAv<|zP<|zP<|zAk rfl<|zC<|zK<|zB<|zA rfl<|vr 4 (3<=3)<|vc (hsum)<|ve (((3=3/\3<=3/\True)/\0<3/\3=3/\3<=16777216/\1<=9223372036854775807)/\AU (Ak (Af zAg b) 94 3 Ab Ab Aj)=Ab/\Aa (Af zAg b)=Aa b*3/\Aa b*3=Aa b*3/\AN (Ak (Af zAg b) 94 3 Ab Ab Aj)=94/\AO (Ak (Af zAg b) 94 3 Ab Ab Aj)=3/\3=3/\0<3/\0<72/\94=94/\(Aa b+1)*72<=140737488355328/\3=3/\AR (Az<|Ak (Af zAg b) 94 3 Ab Ab Aj)=Ac/\(Ac=Ac\/AS (Az<|Ak (Af zAg b) 94 3 Ab Ab Aj)=Ab))<|zG<|zB3 (True) (Ad (Am ((Aa b+1)*3)<|Ag 0 (Af zAg b++[Ad (nsD A')<|Aa A',Ad (zAw l')<|Aa l',Ad (zA3 l')<|Aa l'])) (Aa b+1)) (Ad (Af zAg b++zAg (Bq A' l')) (Aa b+1)) (.inr rfl) (by simp(disch:=omega) only[AP,ht]) rfl
end
section
variable {Dm : List Va}
set_option maxHeartbeats 8000000 in
theorem zXv(hD:Okv Dm)(hDn:Dm.Nodup)(n keep:Nat)(fs:List (Fa Bool))(hn:n<=8)(hk:keep<4294967296)(hf:∀f∈fs,FOk rcmp Dm f)(hl:fs.length<=500)(hr:2*pz rz fs<=900000)(hz:2*pz bz fs<=Bz)
  (hcv:∀v,v<n->∃f∈fs,v∈f.A)(hck:Pure Ao 81 [iD (n:Nat),u32D keep, .row (fs.flatMap zAg) fs.length] [] (iD 0)):
  Pure Ao 43 [booD,iD (n:Nat),u32D keep, .row (fs.flatMap zAg) fs.length] [] (.tup [faAB (zGp popN rcmp Sb fs ((AA n).filter λv=>!keep.testBit v)),iD 0]):=by
 have hcl:=cloneF_cB (fs.flatMap zAg) fs.length (zLo fs) (by omega);have w2:=zG8 (v:=n) (by omega);have h2n:2^n<=256:=Br (n:=2) (by omega) hn;have h1n:=Cl (n:=n);have w3:((2^n:Nat):Int)-1=((2^n-1:Nat):Int):=by omega
 have w4:=zCm (n:=2^n-1) (by omega);have w5:=an_keep (n:=n) (by omega) hk;have hEa:Asc ((AA n).filter λv=>!keep.testBit v):=⟨(Cm (n:=n)).filter _,λv hv=>by have:=(A4.1 hv).1;simp at this;omega⟩;have hEc:∀v∈(AA n).filter (λv=>!keep.testBit v),∃f∈fs,v∈f.A:=λv hv=>hcv v (by have:=(A4.1 hv).1;simpa using this);generalize (AA n).filter (λv=>!keep.testBit v)=E at*;have w6:=zCm (zCf hEa.2);refine zH (T:=Tc) (zPy _ _ _) mixed Tryz.func43 rfl<|zB<|zA rfl<|v0s<|veT<|zB<|zB<|zA rfl<|vrT 3<|vc (hck)<|veT<|zB<|zA rfl<|veT<|vf<|zM<|zC<|zK<|zB<|zA rfl<|vrT 1<|vc (hcl)<|veT<|zB<|zB<|zA rfl<|vr 2 ((0:Int)<=(n:Int))<|vs 28 (As<|AF Ax<|AT Ax ((1:Int)*(2:Int)^min (Ap (n:Int)) 32)) (dig ((2:Nat)^n)) (hd:=by simp(disch:=omega) only[AG,w2])<|vr 1 (u3 ((↑((2:Nat)^n):Int)-(1:Int)))<|vs 29 (As<|AF Ax ((↑((2:Nat)^n):Int)-(1:Int))) (dig ((2:Nat)^n-1)) (hd:=by simp(disch:=omega) only[w3])<|vrT 2<|vs 31 (As<|AF Ax<|AT Ax (↑(AQ (Aw 32 (↑((2:Nat)^n-1):Int)&&&~~~Aw 32 (keep:Int))):Int)) (dig<|msk E) (hd:=by simp(disch:=omega) only[w5,w6])<|veT<|zF<|zA2 (λ(i:Nat)(L:List (Fa Bool))(F:List Nat)=>fr 68 [(0,booD),(8,Al 0 0),(9,iD 0),(11,Ad (Af zAg L)<|Aa L),(12,u32D<|msk F)]) (λ(i:Nat)(L:List (Fa Bool))(F:List Nat)=>[fB1B nl nl nl]) (λi L F=>i) (λ(i:Nat)(L:List (Fa Bool))(F:List Nat)=>i=F.length/\Asc F/\(∀v∈F,∃f∈L,v∈f.A)/\(∀f∈L,FOk rcmp Dm f)/\L.length<=500/\2*pz rz L<=900000/\2*pz bz L<=Bz/\zD8 popN rcmp Sb F.length L F=zD8 popN rcmp Sb E.length fs E) E.length fs E ?_ ?_ ?_
 ·exact⟨rfl,hEa,hEc,hf,hl,hr,hz,rfl⟩
 ·refine vk 1
 rintro i L F ⟨rfl,f1,f2,f3,f4,f5,f6,f7⟩;by_cases hF:F=[]
 ·subst hF;have hL:zD8 popN rcmp Sb E.length fs E=L:=f7.symm;have hres:zGp popN rcmp Sb fs E=zCd rcmp Sb (zCb Sb) L []:=by unfold zGp;rw[hL]
  rw[hres];have m0:msk []=0:=rfl;rw[m0];obtain⟨o,ho⟩:∃o:Bool,o=true:=⟨_,rfl⟩;refine zB<|zB<|zA rfl<|v0s<|veT<|vf<|zAv<|zP<|zP<|zAk rfl<|zC<|zK<|zB<|zA rfl<|vr 3 ((True/\0<3/\3=3/\0<=16777216/\0<=9223372036854775807)/\(1=1/\1<=1/\True)/\0<1/\1=1/\1<=16777216/\1<=9223372036854775807)<|vc (bone_c o ho)<|vr 4 (((1=1/\1<=1/\True)/\0<1/\1=1/\1<=16777216/\1<=9223372036854775807)/\((1=1/\2<=3/\1=1/\3<=3/\True)/\Ab=Ab)/\Ac=Ac/\Ab=Ab/\3=3/\3<=3)<|vnil<|zC<|vnn (fr 68 [(0,booD),(8,Al 0 0),(9,iD 0),(11,Ad (Af zAg L)<|Aa L),(12,u32D 0),(14,Al 4 0),(33,bD Ac),(45,Ah 1 0 0 0 Ab),(46,Ah 2 0 1 1 Ab),(47,A7 96<|Aq []),(48,bD o),(49,Ah 3 0 1 1 Ab),(50,Aq [nl,Ah 2 0 1 1 Ab,Ah 3 0 1 1 Ab])]) [fB1B nl nl nl,Ak [] 107 3 Ab Ab Aj,Ak [Ad [] 0] 110 1 Ab Ac Aj,Ak [bD o] 4 1 Ab Ac Aj,Ak [nl,Ah 2 0 1 1 Ab,Ah 3 0 1 1 Ab] 94 0 Ac Ac Aj] ?_;clear hck hcl hcv hEa hEc w5 w6 f1 f2 f7 hL hres;refine zBf ((B8 (j:=4) (i:=1) (d:= .osl 2 0 1 1 Ab) (x:= .row [.row [] 0] 1) (ks:=[2]) rfl rfl rfl rfl (by exact rfl) (by decide)).trans<|(B8 (j:=4) (i:=2) (d:= .osl 3 0 1 1 Ab) (x:= .row [bD o] 1) (ks:=[3]) rfl rfl rfl rfl (by exact rfl) (by decide)).trans<|Weak.leC (j:=4) (i:=0) (d':= .row [] 0) rfl rfl rfl LeD.nil_row) ?_;refine zB<|zB<|zA rfl<|v0s<|veT<|zF ?_;have hu:(zCb Sb:Fa Bool)=⟨[],[([],o)]⟩:=by rw[ho];rfl
  have hU:FOk rcmp Dm (⟨[],[([],o)]⟩:Fa Bool):=hu▸zGd;have u1:rz (⟨[],[([],o)]⟩:Fa Bool)=2:=rfl;have u2:bz (⟨[],[([],o)]⟩:Fa Bool)<=2:=by rw[ho];decide
  rw[hu];refine zA2 (λ(t:Nat)(A:List Nat)(l:List (Rw×Bool))=>fr 68 [(0,booD),(8,Al 0 0),(9,iD 0),(11,Ad (Af zAg L)<|Aa L),(14,Al 4 0),(51,Ad (Af zAg L)<|Aa L),(52,iD (Aa L:Int)),(53,iD (t:Int))]) (λ(t:Nat)(A:List Nat)(l:List (Rw×Bool))=>[fB1B nl nl nl,⟨[],107,3,Ab,Ab,.plain⟩,⟨[.row [] 0],110,1,Ab,Ab,.plain⟩,⟨[bD o],4,1,Ab,Ab,.plain⟩,fB1B (.row (nsD A) A.length) (.row (zAw l) l.length)<|.row (zA3 l) l.length]) (λt A l=>L.length-t) (λ(t:Nat)(A:List Nat)(l:List (Rw×Bool))=>t<=L.length/\zCd rcmp Sb ⟨A,l⟩ (L.drop t) []=zCd rcmp Sb ⟨[],[([],o)]⟩ L []/\FOk rcmp Dm ⟨A,l⟩/\rz (⟨A,l⟩:Fa Bool)*pz rz (L.drop t)<=900000/\bz (⟨A,l⟩:Fa Bool)*pz bz (L.drop t)<=Bz) 0 [] [([],o)] ?_ ?_ ?_
  ·exact⟨by omega,rfl,hU,by rw[u1];exact f5,AB (Bm _ u2) f6⟩
  ·refine vk 5
  rintro t A l ⟨t1,t2,t3,t4,t5⟩;rcases Av t L.length with t7|t7
  ·have hmf:=zAx L Ai t t7;have hg2:=zDg zA8 L t t7;have hle:=zFp zA8 L t t7;have hne2:=zEi zA8 (by decide) L;have hdr:L.drop t=L.getD t Ai::L.drop (t+1):=by
    rw[B3 t7,AE,AM t7];rfl
   rw[hdr]at t2 t4 t5;rw[zCi,<-B5]at t4 t5;have q1:rz (⟨A,l⟩:Fa Bool)*rz (L.getD t Ai)<=900000:=AB (AV _ (zFh zFe _)) t4;have q2:bz (⟨A,l⟩:Fa Bool)*bz (L.getD t Ai)<=Bz:=AB (AV _ (zFh zPo _)) t5;have gA:GofB Dm ⟨A,l⟩:=⟨t3,AB (AV _ (zFe _)) q1,AB (AV _ (zPo _)) q2⟩;have hg:∀f∈L,GofB Dm f:=λf h=>⟨f3 f h,AB (zLz zFe h) (by omega),AB (zLz zPo h) (by omega)⟩;have hmul:=zL2 hD ⟨A,l⟩ (L.getD t Ai) (L.drop (t+1)) gA (hg _ hmf) (λo ho=>hg _ (B6 ho)) (by rw[A6];omega) q1;have r1:=zJn (c:=rcmp) Sb ⟨A,l⟩ (L.getD t Ai) (L.drop (t+1));have r2:=zX6 (c:=rcmp) ⟨A,l⟩ (L.getD t Ai) (L.drop (t+1));have r3:=zHm (S:=Sb) rcw t3 (f3 _ hmf) (L.drop (t+1));have r4:=AB (Bm (pz rz (L.drop (t+1))) r1) t4;have r5:=AB (Bm (pz bz (L.drop (t+1))) r2) t5;rw[zCd,Bu]at t2;have hsl:(L.flatMap zAg).drop ((t+1)*3)=(L.drop (t+1)).flatMap zAg:=zN7 zA8 L (t+1);have hsn:L.length-(t+1)=(L.drop (t+1)).length:=by rw[A6]
   have hst:=zE6 zA8 (L.drop (t+1)) _ rfl;generalize L.getD t Ai=f at*;generalize fmul rcmp Sb ⟨A,l⟩ f (L.drop (t+1))=q at*;obtain⟨A',l'⟩:=q;refine zB<|zA rfl<|v0s<|veT<|zB<|vT ((t:Int)<(Aa L:Int))<|zM<|zC<|zK<|zB<|zF<|zB<|zA rfl<|vr 3 (ix (t:Int) (Aa L:Int) (Af zAg L≠[])/\3<=Aa (Ag (t*3)<|Af zAg L))<|vs 57 (Aq<|Am 3<|Ag (t*3)<|Af zAg L) (Aq<|zAg f) (hd:=by simp(disch:=omega) only[hg2])<|ve (Ac=Ac/\Ab=Ab/\3=3/\3<=3)<|vd [0,3,4,5,6,1,2,7,8]<|vr 5 (i6 ((t:Int)+(1:Int))/\(0:Int)<=(↑(t+1):Int)/\True/\True/\0<3/\Ap (↑(t+1):Int)<=Aa L/\Aa L<=Aa L/\Aa L=Aa L)<|vs 64 (Ad (Am ((Aa L-Ap (↑(t+1):Int))*3)<|Ag (Ap (↑(t+1):Int)*3)<|Af zAg L) (Aa L-Ap (↑(t+1):Int))) (Ad (Af zAg<|Ag (t+1) L)<|Aa<|Ag (t+1) L) (hd:=by simp(disch:=omega) only[AG,hsl,hsn,hst])<|vr 2 (3<=3/\3<=3)<|vc (hmul)<|vr 1 (A1 (fB1B (Ad (nsD A)<|Aa A) (Ad (zAw l)<|Aa l)<|Ad (zA3 l)<|Aa l)=Ac/\Ab=Ab/\3=3/\3<=3)<|vnil<|zD<|zC<|zK<|zA rfl<|vr 2 (i6 ((t:Int)+(1:Int)))<|vnil<|zC<|⟨t+1,A',l',⟨by omega,t2,r3,r4,r5⟩,by omega,?_⟩;refine vk 5
  rw[B7 t7]at t2;simp only[zCd]at t2;rw[<-t2];refine zB<|zA rfl<|v0s<|veT<|zB<|vF ((t:Int)<(Aa L:Int))<|zAv<|zP<|zP<|zAk rfl<|zC<|zK<|zB<|zA rfl<|ve (3<=3/\Ac=Ac/\Ab=Ab/\3=3/\3<=3)<|zG<|vret (3<=3)<|.inr rfl
 have hm:=zHp popN L hF;have hch:=zYu L F f1 hF (λf h=>(f3 f h).asc) (by omega);have hv32:=f1.2 _ hm.1;have hel:=zWf hD L (zA9 popN L F) f3 f4 (by omega) (by omega) (f2 _ hm.1) hv32;have hmn:=msk_ne hF;have x1:=zG8 hv32;have x2:=an_less f1 hv32;have x3:=zCm (zCf (zKd f1 (zA9 popN L F)).2);have hz1:=elim_z (c:=rcmp) (S:=Sb) (z:=rz) (zJn Sb) (zX2 Sb) (zA9 popN L F) L;have hz2:=elim_z (c:=rcmp) (S:=Sb) (z:=bz) zX6 fsum_bz (zA9 popN L F) L;have hlen:=elim_len (c:=rcmp) (S:=Sb) (zA9 popN L F) L;have hA:=elim_A (c:=rcmp) (S:=Sb) (fs:=L) (λf h=>(f3 f h).asc.2) (zA9 popN L F);have hok:=zYg (S:=Sb) rcw f3 (zA9 popN L F);have hll:=zSk f1.nd hm.1;have hla:=zKd f1 (zA9 popN L F);have hmg:zD8 popN rcmp Sb F.length L F=zD8 popN rcmp Sb (less F (zA9 popN L F)).length (elim rcmp Sb (zA9 popN L F) L) (less F (zA9 popN L F)):=by
  rw[<-hll];rfl
 have hcm:=hm.1;generalize zA9 popN L F=v at*;generalize elim rcmp Sb v L=L' at*;refine zB<|zB<|zA rfl<|v0s<|veT<|zFm (t:=(↑(msk F):Int)!=(0:Int)) (by kernel_rfl) (by simpa using by omega)<|zM<|zC<|zK<|zF<|zB<|zA rfl<|vrT 2<|vc (hch)<|veT<|zB<|zA rfl<|vrT 3<|vc (hel)<|veT<|zA rfl<|vr 3 ((0:Int)<=(v:Int))<|vs 43 (As<|AF Ax<|AT Ax ((1:Int)*(2:Int)^min (Ap (v:Int)) 32)) (dig ((2:Nat)^v)) (hd:=by simp(disch:=omega) only[AG,x1])<|vrT 1<|vs 44 (As<|AF Ax<|AT Ax (↑(AQ (Aw 32 (↑(msk F):Int)&&&~~~Aw 32 (↑((2:Nat)^v):Int))):Int)) (dig<|msk<|less F v) (hd:=by simp(disch:=omega) only[x3,x2])<|vrT 1<|vnil<|zD<|zC<|⟨(less F v).length,L',less F v,⟨rfl,hla,λw hw=>(hA w).2 ⟨f2 w (zC1.1 hw).1,(zC1.1 hw).2⟩,hok,by omega,by omega,by omega,by rw[<-hmg];exact f7⟩,by omega,?_⟩;refine vk 1
end
end
section
open Go.RowKit
attribute [local irreducible] seqW awp zAa zAb zR Weak updS zAd retL Pure Acts rP setP setQ cP nP fr
set_option maxRecDepth 4096
set_option maxRecDepth 4096
abbrev fcRB(V:List Int)(R:List Rw)(W:List D)(m:Nat):D:= .agg [.row (V.map λz=>iD z) V.length, .row (R.map rowV) R.length, .row W m]
set_option maxHeartbeats 4000000 in
theorem check_cB (n : Int) (V : List Int)(R:List Rw)(W:List D)(m:Nat)(hV:V.length<=1000000)(hR:R.length<=1000000):
    Pure Ao 134 [iD n,fcRB V R W m] [] (iD (chk n V R m)):=by
  refine zH Tq_ok mixed Tryz.func134 rfl<|zB<|zA rfl<|v0s<|veT<|zB<|zB<|zA rfl<|ve (True/\0<3)<|zF<|zN (λ(i:Nat)=>fr 94 [(0,iD n),(3,Al 0 0),(13,Ad (Ae (λ(z:Int)=>iD z) V)<|Aa V),(14,iD (Aa V:Int)),(15,iD (i:Int))]) (λ(i:Nat)=>[fB1B (.row (V.map λz=>iD z) V.length) (.row (R.map rowV) R.length)<|.row W m]) (λi=>V.length-i) (λ(i:Nat)=>i<=V.length/\∀j,j<i->zE8 n V j=Ab) 0 ?_ ?_ ?_
  ·exact⟨by omega,λj h=>by omega⟩
  ·refine vk 1
  rintro i ⟨h1,h2⟩;rcases Av i V.length with h3|h3
  · have hne:(V.map λz=>iD z)≠[]:=zW
    have hx:=zB0 V i h3;by_cases hs:zE8 n V i=Ab
    · have hs2:=hs
      simp only[zE8,Bn,Cn,decide_eq_true_eq]at hs2;obtain⟨s1,s2,s3⟩:=hs2;rcases i with _|k
      · rw[AP]at hx
        refine zB<|zA rfl<|v0s<|veT<|zB<|vT ((↑(0:Nat):Int)<(Aa V:Int))<|zM<|zC<|zK<|zB<|zF<|zB<|zA rfl<|vr 3 (ix (↑(0:Nat):Int) (Aa V:Int) (Ae (λ(z:Int)=>iD z) V≠[])/\0<Aa (Ae (λ(z:Int)=>iD z) V))<|vsh 19 hx<|veT<|zB<|zA rfl<|vew [] [(2,Ac),(7,Ac)] (decide (An V 0 (0:Int)<0)=Ac/\decide (An V 0 (0:Int)>=n)=Ac) (vf<|zM<|zD<|zC<|zK<|zA rfl<|vr 2 (i6 ((↑(0:Nat):Int)+(1:Int)))<|vnil<|zC ?_) ⟨(by exact decide_eq_false (by omega)),(by exact decide_eq_false (by omega))⟩;refine⟨1,⟨by omega,λj hj=>?_⟩,by omega,?_⟩
        · obtain rfl:j=0:=by omega
          exact hs
        refine vk 1
      · have hx2:=zB0 V k (by omega)
        have s4:V.getD k 0<V.getD (k+1) 0:=by
          rcases s3 with h|h
          ·omega
          exact h
        refine zB<|zA rfl<|v0s<|veT<|zB<|vT ((↑(k+1):Int)<(Aa V:Int))<|zM<|zC<|zK<|zB<|zF<|zB<|zA rfl<|vr 2 (ix (↑(k+1):Int) (Aa V:Int) (Ae (λ(z:Int)=>iD z) V≠[]))<|vp 18 (k+1) (Ae (λ(z:Int)=>iD z) V)<|vr 1 (0<Aa (Ag (k+1)<|Ae (λ(z:Int)=>iD z) V))<|vsh 19 hx<|veT<|zB<|zA rfl<|vw 15 [] [(2,Ac),(7,Ac),(10,Ab)] (decide (An V (k+1) (0:Int)<0)=Ac/\decide (An V (k+1) (0:Int)>=n)=Ac/\decide ((↑(k+1):Int)>(0:Int))=Ab/\True/\0<3/\i6 ((↑(k+1):Int)-(1:Int))) (vs 34 (iD ((↑(k+1):Int)-(1:Int))) (iD (k:Int)) (hd:=by simp(disch:=omega) only[zR8])<|vr 1 (ix (k:Int) (Aa V:Int) (Ae (λ(z:Int)=>iD z) V≠[]))<|vp 35 (k) (Ae (λ(z:Int)=>iD z) V)<|vr 1 (0<Aa (Ag k<|Ae (λ(z:Int)=>iD z) V))<|vsh 36 hx2<|veT<|vF (An V k (0:Int)>=An V (k+1) (0:Int)) ?_) ⟨(by exact decide_eq_false (by omega)),(by exact decide_eq_false (by omega)),(by exact decide_eq_true (by omega)),trivial,(by omega),(by omega)⟩;refine zM<|zD<|zC<|zK<|zA rfl<|vr 2 (i6 ((↑(k+1):Int)+(1:Int)))<|vnil<|zC<|⟨k+2,⟨by omega,λj hj=>?_⟩,by omega,?_⟩
        · rcases Av j (k+1)with h|h
          ·exact h2 j h
          · obtain rfl:j=k+1:=by omega
            exact hs
        refine vk 1
    · have hc3:chk n V R m=3:=chk_v h3 (by simpa using hs)
      rw[hc3];rcases i with _|k
      · rw[AP]at hx
        focus
          refine zB<|zA rfl<|v0s<|veT<|zB<|vT ((↑(0:Nat):Int)<(Aa V:Int))<|zM<|zC<|zK<|zB<|zF<|zB<|zA rfl<|vr 3 (ix (↑(0:Nat):Int) (Aa V:Int) (Ae (λ(z:Int)=>iD z) V≠[])/\0<Aa (Ae (λ(z:Int)=>iD z) V))<|vsh 19 hx<|veT<|zB<|zA rfl<|vrT 3<|vspD 22 (An V 0 (0:Int)<0) (λhc=>?_)<|λhc=>?_;refine veT<|vt<|zB<|zA rfl<|veT<|zG<|zJ<|zE<|zE<|zJ<|zE<|vret (True)<|.inr rfl;refine vrT 5<|vspD 27 (An V 0 (0:Int)>=n) (λhc=>?_)<|λhc=>?_;refine veT<|vt<|zB<|zA rfl<|veT<|zG<|zJ<|zE<|zE<|zJ<|zE<|vret (True)<|.inr rfl;refine veT<|vf<|zM<|zD<|zC<|zK<|zA rfl<|vr 2 (i6 ((↑(0:Nat):Int)+(1:Int)))<|vnil<|zC ?_;rotate_left
        all_goals exact absurd (zKw (by omega) (by omega) (.inl rfl)) hs
      · have hx2:=zB0 V k (by omega)
        focus
          refine zB<|zA rfl<|v0s<|veT<|zB<|vT ((↑(k+1):Int)<(Aa V:Int))<|zM<|zC<|zK<|zB<|zF<|zB<|zA rfl<|vr 2 (ix (↑(k+1):Int) (Aa V:Int) (Ae (λ(z:Int)=>iD z) V≠[]))<|vp 18 (k+1) (Ae (λ(z:Int)=>iD z) V)<|vr 1 (0<Aa (Ag (k+1)<|Ae (λ(z:Int)=>iD z) V))<|vsh 19 hx<|veT<|zB<|zA rfl<|vrT 3<|vspD 22 (An V (k+1) (0:Int)<0) (λhc=>?_)<|λhc=>?_;refine veT<|vt<|zB<|zA rfl<|veT<|zG<|zJ<|zE<|zE<|zJ<|zE<|vret (True)<|.inr rfl;refine vrT 5<|vspD 27 (An V (k+1) (0:Int)>=n) (λhc=>?_)<|λhc=>?_;refine veT<|vt<|zB<|zA rfl<|veT<|zG<|zJ<|zE<|zE<|zJ<|zE<|vret (True)<|.inr rfl;refine vw 7 [] [(10,Ab)] (decide ((↑(k+1):Int)>(0:Int))=Ab/\True/\0<3/\i6 ((↑(k+1):Int)-(1:Int)))<|vs 34 (iD ((↑(k+1):Int)-(1:Int))) (iD (k:Int)) (hd:=by simp(disch:=omega) only[zR8])<|vr 1 (ix (k:Int) (Aa V:Int) (Ae (λ(z:Int)=>iD z) V≠[]))<|vp 35 (k) (Ae (λ(z:Int)=>iD z) V)<|vr 1 (0<Aa (Ag k<|Ae (λ(z:Int)=>iD z) V))<|vsh 36 hx2<|veT<|vcD (An V k (0:Int)>=An V (k+1) (0:Int)) (λhc=>?_)<|λhc=>?_;refine zB<|zA rfl<|veT<|zG<|zJ<|zE<|zE<|zJ<|zE<|vret (True)<|.inr rfl;refine zM<|zD<|zC<|zK<|zA rfl<|vr 2 (i6 ((↑(k+1):Int)+(1:Int)))<|vnil<|zC ?_;rotate_left
        all_goals exact absurd (zKw (by omega) (by omega) (.inr (by simp only[BZ];omega))) hs
  have hv:=zGh (p:=zE8 n V) (n:=V.length) λj hj=>h2 j (by omega);by_cases hlm:R.length=m;case neg=>
    rw[chk_l hv hlm];refine zB<|zA rfl<|v0s<|veT<|zB<|vF ((i:Int)<(Aa V:Int))<|zAv<|zP<|zP<|zAk rfl<|zC<|zK<|zB<|zB<|zA rfl<|ve (True/\0<2/\True/\0<1/\True)<|zFm (t:=(Aa R:Int)!=(m:Int)) (by kernel_rfl) (by simpa using by omega)<|zB<|zA rfl<|veT<|zG<|zE<|vret (True)<|.inr rfl
  refine zB<|zA rfl<|v0s<|veT<|zB<|vF ((i:Int)<(Aa V:Int))<|zAv<|zP<|zP<|zAk rfl<|zC<|zK<|zB<|zB<|zA rfl<|ve (True/\0<2/\True/\0<1/\True)<|zG4 (t:=(Aa R:Int)!=(m:Int)) (by kernel_rfl) (by simpa using by omega)<|zM<|zC<|zK<|zB<|zB<|zA rfl<|ve (True/\0<2)<|zF<|zN (λ(i:Nat)=>fr 94 [(3,Al 0 0),(50,Ad (Ae rowV R)<|Aa R),(51,iD (Aa R:Int)),(52,iD (i:Int))]) (λ(i:Nat)=>[fB1B (.row (V.map λz=>iD z) V.length) (.row (R.map rowV) R.length)<|.row W m]) (λi=>R.length-i) (λ(i:Nat)=>i<=R.length/\∀j,j<i->j<R.length->decide ((R.getD j []).length=V.length)=Ab) 0 ?_ ?_ ?_
  ·exact⟨by omega,λj h=>by omega⟩
  ·refine vk 1
  clear h1 h2 h3 i;rintro i ⟨h1,h2⟩;rcases Av i R.length with h3|h3
  · have hne:R.map rowV≠[]:=zW
    have hx:=zAh R i h3;have hca:=chk_a hv hlm h3;generalize hg:R.getD i []=r at*;focus
      refine zB<|zA rfl<|v0s<|veT<|zB<|vT ((i:Int)<(Aa R:Int))<|zM<|zC<|zK<|zB<|zF<|zB<|zA rfl<|vr 1 (ix (i:Int) (Aa R:Int) (Ae rowV R≠[]))<|vp 54 (i) (Ae rowV R)<|vr 1 (0<Aa (Ag i<|Ae rowV R))<|vsh 55 hx<|veT<|zB<|zA rfl<|ve (True/\0<3/\True)<|zAi (t:=(Aa r:Int)!=(Aa V:Int)) (by kernel_rfl) (λhc=>?_)<|λhc=>?_;simp only[bne_iff_ne]at hc;refine zB<|zA rfl<|veT<|zG<|zJ<|zE<|zE<|zJ<|zE<|vre (True) (As<|AF Bh (6:Int)) (.inr rfl) ?_;rotate_left;simp only[bne_eq_false_iff_eq]at hc;refine zM<|zD<|zC<|zK<|zA rfl<|vr 2 (i6 ((i:Int)+(1:Int)))<|vnil<|zC ?_;rotate_left
    ·rw[hca (by omega)]
    · refine⟨i+1,⟨by omega,λj hj hjl=>?_⟩,by omega,?_⟩
      · rcases Av j i with h|h
        ·exact h2 j h hjl
        · obtain rfl:j=i:=by omega
          rw[hg];exact decide_eq_true (by omega)
      refine vk 1
  have ha:=zEk (p:=λx:Rw=>decide (x.length=V.length)) (d:=[]) h3 h2;have hl:∀x∈R,x.length<=1000000000:=λx hx=>by
    have:=of_decide_eq_true (A3.1 ha x hx)
    omega
  refine zB<|zA rfl<|v0s<|veT<|zB<|vF ((i:Int)<(Aa R:Int))<|zAv<|zP<|zP<|zAk rfl<|zC<|zK<|zB<|zB<|zA rfl<|ve (True/\0<2)<|zF<|zN (λ(i:Nat)=>fr 94 [(3,Al 0 0),(64,Ad (Ae rowV R)<|Aa R),(65,iD (Aa R:Int)),(66,iD (i:Int))]) (λ(i:Nat)=>[fB1B (.row (V.map λz=>iD z) V.length) (.row (R.map rowV) R.length)<|.row W m]) (λi=>R.length-i) (λ(i:Nat)=>i<=R.length/\∀j,j<i->j<R.length->(R.getD j []).all vok=Ab) 0 ?_ ?_ ?_
  ·exact⟨by omega,λj h=>by omega⟩
  ·refine vk 1
  clear h1 h2 h3 i;rintro i ⟨h1,h2⟩;rcases Av i R.length with h3|h3
  · have hne:R.map rowV≠[]:=zW
    have hx:=zAh R i h3;have hco:=chk_o hv hlm ha h3;have hlr:=hl _ (zAx R [] i h3);generalize hg:R.getD i []=r at*;focus
      refine zB<|zA rfl<|v0s<|veT<|zB<|vT ((i:Int)<(Aa R:Int))<|zM<|zC<|zK<|zB<|zF<|zB<|zA rfl<|vr 1 (ix (i:Int) (Aa R:Int) (Ae rowV R≠[]))<|vp 68 (i) (Ae rowV R)<|vr 1 (0<Aa (Ag i<|Ae rowV R))<|vsh 69 hx<|veT<|zB<|zA rfl<|vrT 1<|vc (zRv r _ rfl (by omega))<|veT<|zAi (t:=!List.all r vok) (by kernel_rfl) (λhc=>?_)<|λhc=>?_;simp only[BN]at hc;refine zB<|zA rfl<|veT<|zG<|zJ<|zE<|zE<|zJ<|zE<|vre (True) (As<|AF Bh (4:Int)) (.inr rfl) ?_;rotate_left;simp only[B9]at hc;refine zM<|zD<|zC<|zK<|zA rfl<|vr 2 (i6 ((i:Int)+(1:Int)))<|vnil<|zC ?_;rotate_left
    ·rw[hco (by simpa using hc)]
    · refine⟨i+1,⟨by omega,λj hj hjl=>?_⟩,by omega,?_⟩
      · rcases Av j i with h|h
        ·exact h2 j h hjl
        · obtain rfl:j=i:=by omega
          rw[hg];simpa using hc
      refine vk 1
  have ho:=zEk (p:=λx:Rw=>x.all vok) (d:=[]) h3 h2;refine zB<|zA rfl<|v0s<|veT<|zB<|vF ((i:Int)<(Aa R:Int))<|zAv<|zP<|zP<|zAk rfl<|zC<|zK<|zB<|zB<|zA rfl<|veT<|zF<|zN (λ(k:Nat)=>fr 94 [(3,Al 0 0),(11,iD ((k:Int)+(1:Int)))]) (λ(k:Nat)=>[fB1B (.row (V.map λz=>iD z) V.length) (.row (R.map rowV) R.length)<|.row W m]) (λk=>R.length-k) (λ(k:Nat)=>k<=R.length/\∀j,j<=k->j<R.length->zK4 R j=Ab) 0 ?_ ?_ ?_
  · exact ⟨by omega, fun j h _ => by obtain rfl:j=0:=by omega
                                     rfl⟩
  ·refine vk 1
  clear h1 h2 h3 i;rintro k ⟨h1,h2⟩;rcases Av (k+1) R.length with h3|h3
  · have hne:R.map rowV≠[]:=zW
    have hx:=zAh R (k+1) h3;have hx0:=zAh R k (by omega);have hcs:=chk_s hv hlm ha ho h3;have hst:zK4 R (k+1)=decide (rcmp (R.getD k []) (R.getD (k+1) [])<0):=by simp[zK4]
    have hcm:=zDo (R.getD k []) (R.getD (k+1) []) _ _ rfl rfl (hl _ (zAx R [] k (by omega))) (hl _ (zAx R [] (k+1) h3));generalize R.getD (k+1) []=r at*;generalize R.getD k []=r0 at*;focus
      refine zB<|zB<|zA rfl<|v0s<|ve (True/\0<2)<|vT ((↑(k+1):Int)<(Aa R:Int))<|zM<|zC<|zK<|zB<|zF<|zB<|vd [0,2,3,6,8,1,4,5,7,9,10,11,12]<|vr 3 (True/\i6 ((↑(k+1):Int)-(1:Int)))<|vs 84 (iD ((↑(k+1):Int)-(1:Int))) (iD (k:Int)) (hd:=by simp(disch:=omega) only[zR8])<|vr 4 (True/\0<2/\ix (k:Int) (Aa R:Int) (Ae rowV R≠[]))<|vp 85 (k) (Ae rowV R)<|vr 1 (0<Aa (Ag k<|Ae rowV R))<|vsh 86 hx0<|vr 2 (0<2/\ix (↑(k+1):Int) (Aa R:Int) (Ae rowV R≠[]))<|vp 90 (k+1) (Ae rowV R)<|vr 1 (0<Aa (Ag (k+1)<|Ae rowV R))<|vsh 91 hx<|vc (hcm)<|veT<|vcD (rcmp r0 r>=(0:Int)) (λhc=>?_)<|λhc=>?_;refine zB<|zA rfl<|veT<|zG<|zJ<|zE<|zE<|zJ<|zE<|vre (True) (As<|AF Bh (16:Int)) (.inr rfl) ?_;rotate_left;refine zM<|zD<|zC<|zK<|zA rfl<|vr 3 (i6 ((↑(k+1):Int)+(1:Int)))<|vnil<|zC ?_;rotate_left
    ·rw[hcs (by rw[hst];exact decide_eq_false (by omega))]
    · refine⟨k+1,⟨by omega,λj hj hjl=>?_⟩,by omega,?_⟩
      · rcases Av j (k+1)with h|h
        ·exact h2 j (by omega) hjl
        · obtain rfl:j=k+1:=by omega
          rw[hst];exact decide_eq_true (by omega)
      refine vk 1
  rw[chk_0 hv hlm ha ho (zGh λj hj=>h2 j (by omega) hj)];refine zB<|zB<|zA rfl<|v0s<|ve (True/\0<2)<|vF ((k:Int)+(1:Int)<(Aa R:Int))<|zAv<|zP<|zP<|zAk rfl<|zC<|zK<|zB<|zA rfl<|veT<|zG<|vret (True)<|.inr rfl
end
section
open Go.RowKit
attribute [local irreducible] seqW awp zAa zAb zR Weak updS zAd retL Pure Acts rP setP setQ cP nP fr
set_option maxRecDepth 4096
abbrev rnCB(f:Rn):List D:=[.row (f.V.map λz=>iD z) f.V.length, .row (f.R.map rowV) f.R.length, .row (f.W.map λx=>bD (g0 x)) f.W.length]
theorem zRx(f:Rn):(rnCB f).length=3:=rfl
set_option maxHeartbeats 4000000 in
theorem zYt(n keep:Nat)(fs:List Rn)(hn:n<=8)(hk:keep<4294967296)(hl:fs.length<=1000)(hs:∀f∈fs,Rsz f):Pure Ao 81 [iD (n:Nat),u32D keep, .row (fs.flatMap rnCB) fs.length] [] (iD (zFu n keep fs)):=by
 have w1:=zG7 keep (v:=n) (by omega);have w2:=zG8 (v:=n) (by omega);have h2n:2^n<=256:=Br (n:=2) (by omega) hn;have h1n:=Cl (n:=n);have w3:((2^n:Nat):Int)-1=((2^n-1:Nat):Int):=by omega
 have w4:=zCm (n:=2^n-1) (by omega);have ewr:zFu n keep fs=if keep>>>n≠0 then 3 else if errL n fs≠0 then errL n fs else if covP n fs then 0 else 22:=by
  unfold zFu;rw[AG];by_cases h:keep>>>n≠0
  ·rw[if_pos (.inr (.inr h)),if_pos h]
  rw[if_neg (by intro k;rcases k with k|k|k<;>first|omega|exact h k),if_neg h]
 generalize keep>>>n=kk at*;refine zH Tq_ok mixed Tryz.func81 rfl ?_;focus
  refine zB<|zA rfl<|v0s<|veT<|zB<|zB<|zA rfl<|vw 10 [] [(2,Ac),(6,Ac)] (decide ((n:Int)<0)=Ac/\decide ((n:Int)>(32:Int))=Ac/\(0:Int)<=(n:Int))<|vs 20 (As<|AF Ax<|BL (keep:Int) ((2:Int)^min (Ap (n:Int)) 32)) (dig kk) (hd:=by simp(disch:=omega) only[AG,w1])<|veT<|zAi (t:=(kk:Int)!=(0:Int)) (by kernel_rfl) (λhc=>?_)<|λhc=>?_;simp only[bne_iff_ne]at hc;refine zB<|zA rfl<|veT<|zG<|zE<|vre (True) (As<|AF Bh (3:Int)) (.inr rfl) ?_;rotate_left;simp only[bne_eq_false_iff_eq]at hc;refine zM<|zC<|zK<|zB<|zA rfl<|veT<|zB<|zB<|zA rfl<|veT<|zF ?_;rotate_left
 ·rw[ewr,if_pos (by omega)]
 have hcu:∀i,covM (fs.take i)<4294967296\/¬∀j,j<i->chkR n (fs.getD j Ai)=0:=λi=>by
  by_cases h:∀j,j<i->chkR n (fs.getD j Ai)=0
  ·refine .inl (zYj (fs.take i) 0 (by omega) λf hf v hv=>?_);obtain⟨j,hj,rfl⟩:=Cp.1 hf;have hj2:j<i/\j<fs.length:=by rw[BO]at hj;omega
   have:=h j hj2.1
   rw[AE,AM hj2.2,Cf]at this;obtain⟨A,hA,hfit⟩:=zCl this;rw[Cq,hA,show A.map (λv:Nat=>(v:Int))=intL A from rfl,zB5]at hv
   have:=hfit.lt v hv
   omega
  exact .inr h
 refine zN (λ(i:Nat)=>fr 45 [(0,iD (n:Int)),(7,u32D<|covM<|Am i fs),(23,Ad (Af rnCB fs)<|Aa fs),(24,iD (Aa fs:Int)),(25,iD (i:Int))]) (λ(i:Nat)=>[]) (λi=>fs.length-i) (λ(i:Nat)=>i<=fs.length/\∀j,j<i->chkR n (fs.getD j Ai)=0) 0 ?_ ?_ ?_
 ·exact⟨by omega,λj h=>by omega⟩
 ·refine vk 0
 rintro i ⟨h1,h2⟩;have hcl:=(hcu i).resolve_right (λh=>h h2);rcases Av i fs.length with h3|h3
 ·have hm:=zAx fs Ai i h3;have hg2:=zDg zRx fs i h3;have hle:=zFp zRx fs i h3;have hne:=zEi zRx (by decide) fs;have hsz:=hs _ hm;have hat:=zS1 h2 h3;have htk:covM (fs.take (i+1))=covM (fs.take i)|||msk ((fs.getD i Ai).V.map Ap):=by
   rw[zBm fs i h3];unfold covM;rw[BR];rfl
  generalize hff:fs.getD i Ai=f at*;obtain⟨V,R,W⟩:=f;have hch:=check_cB n V R (W.map λx=>bD (g0 x)) W.length (by have:=hsz.v;simp only at this;omega) (by have:=hsz.r;simp only at this;omega);by_cases e0:chk n V R W.length=0
  ·obtain⟨A,hA,hfit⟩:=zCl e0;have hA:V=intL A:=hA;subst hA;rw[e0]at hch;have eA:(intL A).map (λz=>iD z)=nsD A:=by simp[intL]
   have eL:(intL A).length=A.length:=by simp
   have hv32:∀v∈A,v<32:=λv hv=>by have:=hfit.lt v hv;omega
   have nA:A.length<=1000:=by have:=hsz.v;simp only[eL]at this;exact this
   have sA:=zLi A _ rfl nA hv32 (R.map rowV) (W.map λx=>bD (g0 x)) R.length W.length;rw[zB5]at htk;have w5:=zWs hcl (zCf hv32);have w6:=zCm (zP1 hcl (zCf hv32));simp only[rnCB,eA,eL]at hg2;simp only[fcRB,eA,eL]at hch;refine zB<|zA rfl<|v0s<|veT<|zB<|vT ((i:Int)<(Aa fs:Int))<|zM<|zC<|zK<|zB<|zF<|zB<|zA rfl<|vr 2 (ix (i:Int) (Aa fs:Int) (Af rnCB fs≠[])/\3<=Aa (Ag (i*3)<|Af rnCB fs))<|vs 28 (Aq<|Am 3<|Ag (i*3)<|Af rnCB fs) (Aq [Ad (nsD A)<|Aa A,Ad (Ae rowV R)<|Aa R,Ad (Ae (λ(x:Nat)=>bD (g0 x)) W)<|Aa W]) (hd:=by simp(disch:=omega) only[hg2])<|ve (Ac=Ac/\Ab=Ab/\3=3/\3<=3)<|zB<|zB<|zA rfl<|vr 2 (3<=3)<|vc (hch)<|veT<|zB<|zA rfl<|veT<|vf<|zM<|zC<|zK<|zA rfl<|vr 2 (3<=3)<|vc (sA)<|vrT 1<|vs 38 (As<|AF Ax<|AT Ax (↑(AQ (Aw 32 (↑(covM<|Am i fs):Int)|||Aw 32 (↑(msk A):Int))):Int)) (dig (covM (Am i fs)|||msk A)) (hd:=by simp(disch:=omega) only[w5,w6])<|vrT 1<|vnil<|zD<|zC<|zK<|zA rfl<|vr 2 (i6 ((i:Int)+(1:Int)))<|vnil<|zC<|⟨i+1,⟨by omega,λj hj=>?_⟩,by omega,?_⟩
   ·rcases Av j i with h|h
    ·exact h2 j h
    obtain rfl:j=i:=by omega
    rw[hff];exact e0
   rw[htk];refine vk 0
  have hat':=hat e0;have hat2:errL n fs=chk n V R W.length:=hat';generalize chk n V R W.length=e at*;refine zB<|zA rfl<|v0s<|veT<|zB<|vT ((i:Int)<(Aa fs:Int))<|zM<|zC<|zK<|zB<|zF<|zB<|zA rfl<|vr 2 (ix (i:Int) (Aa fs:Int) (Af rnCB fs≠[])/\3<=Aa (Ag (i*3)<|Af rnCB fs))<|vs 28 (Aq<|Am 3<|Ag (i*3)<|Af rnCB fs) (Aq<|rnCB<|Rn.mk V R W) (hd:=by simp(disch:=omega) only[hg2])<|ve (Ac=Ac/\Ab=Ab/\3=3/\3<=3)<|zB<|zB<|zA rfl<|vr 2 (3<=3)<|vc (hch)<|veT<|zB<|zA rfl<|veT<|zFm (t:=e !=(0:Int)) (by kernel_rfl) (by simpa using by omega)<|zB<|zA rfl<|veT<|zG<|zE<|zJ<|zE<|zE<|zJ<|zE<|vre (True) (As<|AF Bh e) (.inr rfl) ?_;rw[ewr,if_neg (by omega),if_pos (by omega),hat2]
 rw[AK h3]at hcl⊢;have h0:=errL_0 λj hj=>h2 j (by omega);have hce:=covM_eq n fs λf hf=>by
  obtain⟨A,hA,hfit⟩:=zCl (zCn h0 f hf);exact⟨A,hA,λv hv=>by have:=hfit.lt v hv;omega⟩
 focus
  refine zB<|zA rfl<|v0s<|veT<|zB<|vF ((i:Int)<(Aa fs:Int))<|zAv<|zP<|zP<|zAk rfl<|zC<|zK<|zB<|zB<|zA rfl<|vr 3 ((0:Int)<=(n:Int))<|vs 42 (As<|AF Ax<|AT Ax ((1:Int)*(2:Int)^min (Ap (n:Int)) 32)) (dig ((2:Nat)^n)) (hd:=by simp(disch:=omega) only[AG,w2])<|vr 1 (u3 ((↑((2:Nat)^n):Int)-(1:Int)))<|vs 43 (As<|AF Ax ((↑((2:Nat)^n):Int)-(1:Int))) (dig ((2:Nat)^n-1)) (hd:=by simp(disch:=omega) only[w3])<|veT<|zAi (t:=(↑(covM fs):Int)!=(↑((2:Nat)^n-1):Int)) (by kernel_rfl) (λhc=>?_)<|λhc=>?_;simp only[bne_iff_ne]at hc;refine zB<|zA rfl<|veT<|zG<|zE<|vre (True) (As<|AF Bh (22:Int)) (.inr rfl) ?_;rotate_left;simp only[bne_eq_false_iff_eq]at hc;refine zM<|zC<|zK<|zB<|zA rfl<|veT<|zG<|vre (True) (As<|AF Bh (0:Int)) (.inr rfl) ?_;rotate_left
 ·rw[ewr,if_neg (by omega),if_neg (by omega),if_neg (λh=>by have:=hce.2 h;omega)]
 rw[ewr,if_neg (by omega),if_neg (by omega),if_pos (hce.1 (by omega))]
section
variable (n e : Int) (keep : Nat) (cs : List D) (m : Nat)
theorem total_cB(f:Fa Bool)(hm:Pure Ao 43 [booD,iD n,u32D 0, .row cs m] [] (.tup [faAB f,iD 0])):Pure Ao 22 [booD,iD n, .row cs m] [] (.tup [bD ((f.l.map (·.2)).headD Ac),iD 0]):=by
 obtain⟨A,l⟩:=f;rcases l with _|⟨p,l⟩
 ·skip;obtain⟨z,hz⟩:∃z:Bool,z=false:=⟨_,rfl⟩;have hr:bD (([]:List (Rw×Bool)).map (·.2)|>.headD Ac)=bD z:=by rw[hz];rfl
  simp only[hr];refine zH (T:=Tc) (zPy _ _ _) mixed Tryz.func22 rfl<|zB<|zA rfl<|v0s<|veT<|zB<|zA rfl<|vrT 3<|vc (hm)<|ve (0<2/\1<2/\Ac=Ac/\Ab=Ab/\3=3/\3<=3)<|zB<|zB<|zA rfl<|veT<|vf<|zM<|zC<|zK<|zB<|zB<|zA rfl<|ve (True/\0<1/\True)<|vt<|zB<|zA rfl<|vrT 1<|vc (bzero_c z hz)<|veT<|zG<|zE<|vret (True)<|.inr rfl
 skip;show Pure _ _ _ _ (.tup [bD p.2,iD 0]);have hx:(zA3 (p::l)).headD .unk=bD p.2:=rfl;have hne:zA3 (p::l)≠[]:=by simp
 refine zH (T:=Tc) (zPy _ _ _) mixed Tryz.func22 rfl<|zB<|zA rfl<|v0s<|veT<|zB<|zA rfl<|vrT 3<|vc (hm)<|ve (0<2/\1<2/\Ac=Ac/\Ab=Ab/\3=3/\3<=3)<|zB<|zB<|zA rfl<|veT<|vf<|zM<|zC<|zK<|zB<|zB<|zA rfl<|ve (True/\0<1/\True)<|vEf ((↑(Aa l+1):Int)) ((0:Int))<|zM<|zC<|zK<|zB<|zA rfl<|ve (True/\0<1/\ix (0:Int) (↑(Aa l+1):Int) (zA3 (p::l)≠[])/\0<Aa (zA3 (p::l)))<|zG<|vret (True)<|.inr rfl
end
end
section
open Go.RowKit
abbrev toAt(a:List Nat×List Rw):At:=⟨a.1.map λv:Nat=>(v:Int),(a.1.length:Nat),a.2⟩
theorem toAt_fl(A:List (List Nat×List Rw)):(A.map toAt).flatMap atC=A.flatMap atN:=by
 rw[BI];refine congrArg (λf=>Af f A) (funext λa=>?_);show[Ad ((a.1.map λv:Nat=>(v:Int)).map λz=>iD z) (a.1.map λv:Nat=>(v:Int)).length,_,_]=_;rw[A8,Ay];rfl
theorem vok_at{n:Nat}{A:List (List Nat×List Rw)}(h:Vok n A.length λi=>(A.getD i Ai).1):∀a∈A,a.1.Pairwise (· <·)/\∀v∈a.1,v<n:=λa ha=>by
 obtain⟨i,hi,rfl⟩:=Cu ha;have h1:=h.asc i hi;have h2:=h.lt i hi;simp only[AE,AM hi,Cf]at h1 h2;exact⟨h1,h2⟩
theorem atE_ok{n:Nat}{a:List Nat×List Rw}(h1:a.1.Pairwise (· <·))(h2:∀v∈a.1,v<n):atE (n:Nat) (toAt a)=0:=by
 have ha:ascB (toAt a).V=true:=by
  unfold ascB;rw[A3];intro i hi;have hi:i<a.1.length:=by
   have:=BP.1 hi
   rwa[Ay]at this
  unfold aStep;rcases Bx i with h0|h0
  ·rw[decide_eq_true h0,Bool.true_or]
  have h3:=List.pairwise_iff_getElem.1 h1 (i-1) i (by omega) hi (by omega);rw[Cn];refine .inr (decide_eq_true ?_);rw[AE,AE,By,By,AM hi,AM (by omega:i-1<a.1.length)];show((a.1[i-1]:Nat):Int)<((a.1[i]:Nat):Int);omega
 have hb:(toAt a).V.all (inB (n:Nat))=true:=by
  rw[A3];intro z hz;obtain⟨v,hv,rfl⟩:=AD.1 hz;exact decide_eq_true ⟨by omega,by have:=h2 v hv;omega⟩
 unfold atE;rw[if_neg (by rw[ha];decide),if_neg (by rw[hb];decide),if_neg];show¬((a.1.map λv:Nat=>(v:Int)).length:Int)≠(a.1.length:Nat);rw[Ay];exact λh=>h rfl
theorem check_ok(n:Nat)(A:List (List Nat×List Rw))(hn:n<=32)(hA:A.length<=32)(hV:Vok n A.length λi=>(A.getD i Ai).1):Pure Ao 39 [iD (n:Nat), .row (A.flatMap atN) A.length] [] (iD 0):=by
 have hv:=vok_at hV;have h:=lfCheck_c n (A.map toAt) hn (by rwa[Ay]) (λa ha=>by
  obtain⟨b,hb,rfl⟩:=AD.1 ha;obtain⟨h1,h2⟩:=hv b hb;show(b.1.map λv:Nat=>(v:Int)).length<=_;rw[Ay]
  have:=zMx (n:=n) 0 h1 λw hw=>⟨Bt _,h2 w hw⟩
  omega)
 rw[toAt_fl,Ay]at h;have h0:atL (n:Nat) (A.map toAt)=0:=atL_0 λj hj=>by
  rw[Ay]at hj;have e:(A.map toAt).getD j Ai=toAt A[j]:=by
   rw[AE,By,AM hj];rfl
  rw[e];obtain⟨h1,h2⟩:=hv A[j] (A9 hj);exact atE_ok h1 h2
 have hu:(useP n (A.map toAt) []).contains Ac=false:=by
  rw[Co];intro hc;rw[List.contains_iff_mem]at hc;unfold useP at hc;obtain⟨v,hv1,hv2⟩:=AD.1 hc;obtain⟨i,hi,hm⟩:=hV.cov v (BP.1 hv1);rw[Bool.or_eq_false_iff]at hv2;have h3:=List.any_eq_false.1 hv2.1 (toAt A[i]) (AD.2 ⟨A[i],A9 hi,rfl⟩);refine h3 (decide_eq_true (AD.2 ⟨v,?_,rfl⟩));simpa[AE,AM hi]using hm
 rw[if_neg (by rw[h0];exact λk=>k rfl),if_neg (by rw[hu];decide)]at h;exact h
end
section
open Go.RowKit
attribute [local irreducible] seqW awp zAa zAb zR Weak updS zAd retL Pure Acts rP setP setQ cP nP fr
set_option maxRecDepth 4096
abbrev afC(f:Rn):List D:=[.row (f.V.map λz=>iD z) f.V.length,iD (f.V.length:Nat), .row (f.R.map rowV) f.R.length]
theorem zPv(f:Rn):(afC f).length=3:=rfl
abbrev afB(f:Rn):Bk:=⟨afC f,75,0,Ac,Ac, .plain⟩
theorem zZu{α:Type}(f:α->D)(a:α)(i:Nat):(AI (i+1) a).map f=(AI i a).map f++[f a]:=by
 rw[List.replicate_succ',BF];rfl
set_option maxHeartbeats 2000000 in
theorem fromN_c(f:Rn)(hV:f.V.length<=1000)(hR:f.R.length<=1000)(hl:∀r∈f.R,r.length<=2000000):Pure Ao 20 [cntD, .agg (afC f)] [] (.agg (rnC (rn1 f))):=by
 obtain⟨V,R,W⟩:=f;simp only at hV hR hl;have hcl:=zQ5 (V.map λz=>iD z) V.length (by simp) (by omega);have hrr:=zXo (V.length:Nat) R (by omega) hl;show Pure _ _ _ [] (.agg [.row (V.map λz=>iD z) V.length, .row (R.map rowV) R.length, .row ((AI R.length 1).map natD) (AI R.length 1).length]);obtain⟨o,ho⟩:∃o:Nat,o=1:=⟨1,rfl⟩;rw[Ca,<-ho];have hone:=cone_c o ho;refine zH (T:=Tc) (zPy _ _ _) mixed Tryz.func20 rfl<|vAu<|zB<|vd [0,3,1,2,4,5,6,7,8]<|vr 3 (True/\True/\0<3)<|vc (hcl)<|vr 1 (2<=2)<|vc (hrr)<|vr 3 (((1=1/\1<=3/\1=1/\2<=3/\True)/\Ab=Ab)/\Ac=Ac/\Ab=Ab/\3=3/\3<=3)<|vnil<|zC<|vnn (fr 27 [(0,cntD),(3,Al 0 0),(4,Al 1 0),(5,Al 2 0),(6,Al 0 0),(7,Ad (Ae (λ(z:Int)=>iD z) V)<|Aa V),(8,Ad (Ae (λ(z:Int)=>iD z) V)<|Aa V),(9,Al 0 1),(10,Aq [iD (Aa V:Int),Ad (Ae rowV R)<|Aa R]),(11,Ad (Ae rowV R)<|Aa R),(12,Aq [Ad (Ae (λ(z:Int)=>iD z) V)<|Aa V,Ad (Ae rowV R)<|Aa R,nl])]) [Ak [Ad (Ae (λ(z:Int)=>iD z) V)<|Aa V,iD (Aa V:Int),Ad (Ae rowV R)<|Aa R] 75 0 Ac Ac Aj,Ak [nl,nl,nl] 90 0 Ac Ac Aj,Ak [Ad (Ae (λ(z:Int)=>iD z) V)<|Aa V,Ad (Ae rowV R)<|Aa R,nl] 90 0 Ac Ac Aj]<|zBf (Bo (j:=2) (i:=2) (natB []) rfl rfl rfl rfl) ?_;refine zB<|vAs<|ve (True/\0<2)<|zF<|zN (λ(i:Nat)=>fr 27 [(0,cntD),(4,Al 1 0),(5,Al 2 0),(15,iD<|Aa R),(16,iD i)]) (λ(i:Nat)=>[afB ⟨V,R,W⟩,fB1 nl nl nl,fB1 (.row (V.map λz=>iD z) V.length) (.row (R.map rowV) R.length)<|.osl 3 0 i i Ab,natB<|(AI i o).map natD]) (λi=>R.length-i) (λ(i:Nat)=>i<=R.length) 0 ?_ ?_ ?_
 ·omega
 ·refine vk 4
 rintro i h1;have hll:((AI i o).map natD).length=i:=by simp
 rcases Av i R.length with h2|h2
 ·have e0:=zZu natD o i;refine vAu<|zB<|vT ((i:Int)<↑(Aa R))<|vKB<|vd [0,2,1,3,4,5,6,7]<|vr 3 (True/\0<1)<|vc hone<|vr 4 (((1=1/\1<=1/\True)/\0<1/\1=1/\1<=16777216/\1<=9223372036854775807)/\(AU (natB<|Ae natD<|AI i o)=Ab/\Aa (AJ<|natB<|Ae natD<|AI i o)=i*1/\i=i*1/\AN (natB<|Ae natD<|AI i o)=50/\AO (natB<|Ae natD<|AI i o)=1/\1=1/\0<1/\0<24/\50=50/\(i+1)*24<=140737488355328/\1=1/\AR (Az<|natB<|Ae natD<|AI i o)=Ac/\(Ac=Ac\/AS (Az<|natB<|Ae natD<|AI i o)=Ab))/\True/\Ac=Ac/\Ab=Ab/\1=1/\3<=3)<|vb 2 (Ak [Ad (Ae (λ(z:Int)=>iD z) V)<|Aa V,Ad (Ae rowV R)<|Aa R,Ah 3 0 (i+1) ((i+1)*1) Ab] 90 0 Ac Ac Aj) (Ak [Ad (Ae (λ(z:Int)=>iD z) V)<|Aa V,Ad (Ae rowV R)<|Aa R,Ah 3 0 (i+1) (i+1) Ab] 90 0 Ac Ac Aj) (hd:=by simp(disch:=omega) only[A2])<|vnil<|zD<|vN<|zA rfl<|vr 2 (i6 (↑i+1))<|vnil<|zC<|⟨i+1,by omega,by omega,?_⟩;rw[e0];refine vk 4
 obtain rfl:i=R.length:=by omega
 have ht:((AI R.length o).map natD).take R.length=(AI R.length o).map natD:=AK (by simp);refine vAu<|zB<|vF ((Aa R:Int)<↑(Aa R))<|vZ2<|vA<|ve (3<=3/\Ac=Ac/\Ab=Ab/\3=3/\3<=3)<|zG<|zB3 (3<=3) (Aq [Ad (Ae (λ(z:Int)=>iD z) V)<|Aa V,Ad (Ae rowV R)<|Aa R,Ad (Am (Aa R)<|Ag 0<|AJ<|natB<|Ae natD<|AI (Aa R) o)<|Aa R]) (Aq [Ad (Ae (λ(z:Int)=>iD z) V)<|Aa V,Ad (Ae rowV R)<|Aa R,Ad (Ae natD<|AI (Aa R) o)<|Aa R]) (.inr rfl) (by simp(disch:=omega) only[AP,ht]) rfl (hc:=by omega)
set_option maxHeartbeats 2000000 in
theorem fromB_c(f:Rn)(hV:f.V.length<=1000)(hR:f.R.length<=1000)(hl:∀r∈f.R,r.length<=2000000):Pure Ao 21 [booD, .agg (afC f)] [] (.agg (rnCB (rn1 f))):=by
 obtain⟨V,R,W⟩:=f;simp only at hV hR hl;have hcl:=zQ5 (V.map λz=>iD z) V.length (by simp) (by omega);have hrr:=zXo (V.length:Nat) R (by omega) hl;show Pure _ _ _ [] (.agg [.row (V.map λz=>iD z) V.length, .row (R.map rowV) R.length, .row ((AI R.length 1).map λx=>bD (g0 x)) (AI R.length 1).length]);obtain⟨o,ho⟩:∃o:Bool,o=true:=⟨Ab,rfl⟩;have e1:(AI R.length 1).map (λx=>bD (g0 x))=(AI R.length o).map bD:=by
  rw[List.map_replicate,List.map_replicate,ho];rfl
 rw[Ca,e1];have hone:=bone_c o ho;refine zH (T:=Tc) (zPy _ _ _) mixed Tryz.func21 rfl<|vAu<|zB<|vd [0,3,1,2,4,5,6,7,8]<|vr 3 (True/\True/\0<3)<|vc (hcl)<|vr 1 (2<=2)<|vc (hrr)<|vr 3 (((1=1/\1<=3/\1=1/\2<=3/\True)/\Ab=Ab)/\Ac=Ac/\Ab=Ab/\3=3/\3<=3)<|vnil<|zC<|vnn (fr 27 [(0,booD),(3,Al 0 0),(4,Al 1 0),(5,Al 2 0),(6,Al 0 0),(7,Ad (Ae (λ(z:Int)=>iD z) V)<|Aa V),(8,Ad (Ae (λ(z:Int)=>iD z) V)<|Aa V),(9,Al 0 1),(10,Aq [iD (Aa V:Int),Ad (Ae rowV R)<|Aa R]),(11,Ad (Ae rowV R)<|Aa R),(12,Aq [Ad (Ae (λ(z:Int)=>iD z) V)<|Aa V,Ad (Ae rowV R)<|Aa R,nl])]) [Ak [Ad (Ae (λ(z:Int)=>iD z) V)<|Aa V,iD (Aa V:Int),Ad (Ae rowV R)<|Aa R] 75 0 Ac Ac Aj,Ak [nl,nl,nl] 94 0 Ac Ac Aj,Ak [Ad (Ae (λ(z:Int)=>iD z) V)<|Aa V,Ad (Ae rowV R)<|Aa R,nl] 94 0 Ac Ac Aj]<|zBf (Bo (j:=2) (i:=2) (zEx []) rfl rfl rfl rfl) ?_;refine zB<|vAs<|ve (True/\0<2)<|zF<|zN (λ(i:Nat)=>fr 27 [(0,booD),(4,Al 1 0),(5,Al 2 0),(15,iD<|Aa R),(16,iD i)]) (λ(i:Nat)=>[afB ⟨V,R,W⟩,fB1B nl nl nl,fB1B (.row (V.map λz=>iD z) V.length) (.row (R.map rowV) R.length)<|.osl 3 0 i i Ab,zEx<|(AI i o).map bD]) (λi=>R.length-i) (λ(i:Nat)=>i<=R.length) 0 ?_ ?_ ?_
 ·omega
 ·refine vk 4
 rintro i h1;have hll:((AI i o).map bD).length=i:=by simp
 rcases Av i R.length with h2|h2
 ·have e0:=zZu bD o i;refine vAu<|zB<|vT ((i:Int)<↑(Aa R))<|vKB<|vd [0,2,1,3,4,5,6,7]<|vr 3 (True/\0<1)<|vc hone<|vr 4 (((1=1/\1<=1/\True)/\0<1/\1=1/\1<=16777216/\1<=9223372036854775807)/\(AU (zEx<|Ae bD<|AI i o)=Ab/\Aa (AJ<|zEx<|Ae bD<|AI i o)=i*1/\i=i*1/\AN (zEx<|Ae bD<|AI i o)=4/\AO (zEx<|Ae bD<|AI i o)=1/\1=1/\0<1/\0<1/\4=4/\(i+1)*1<=140737488355328/\1=1/\AR (Az<|zEx<|Ae bD<|AI i o)=Ac/\(Ac=Ac\/AS (Az<|zEx<|Ae bD<|AI i o)=Ab))/\True/\Ac=Ac/\Ab=Ab/\1=1/\3<=3)<|vb 2 (Ak [Ad (Ae (λ(z:Int)=>iD z) V)<|Aa V,Ad (Ae rowV R)<|Aa R,Ah 3 0 (i+1) ((i+1)*1) Ab] 94 0 Ac Ac Aj) (Ak [Ad (Ae (λ(z:Int)=>iD z) V)<|Aa V,Ad (Ae rowV R)<|Aa R,Ah 3 0 (i+1) (i+1) Ab] 94 0 Ac Ac Aj) (hd:=by simp(disch:=omega) only[A2])<|vnil<|zD<|vN<|zA rfl<|vr 2 (i6 (↑i+1))<|vnil<|zC<|⟨i+1,by omega,by omega,?_⟩;rw[e0];refine vk 4
 obtain rfl:i=R.length:=by omega
 have ht:((AI R.length o).map bD).take R.length=(AI R.length o).map bD:=AK (by simp);refine vAu<|zB<|vF ((Aa R:Int)<↑(Aa R))<|vZ2<|vA<|ve (3<=3/\Ac=Ac/\Ab=Ab/\3=3/\3<=3)<|zG<|zB3 (3<=3) (Aq [Ad (Ae (λ(z:Int)=>iD z) V)<|Aa V,Ad (Ae rowV R)<|Aa R,Ad (Am (Aa R)<|Ag 0<|AJ<|zEx<|Ae bD<|AI (Aa R) o)<|Aa R]) (Aq [Ad (Ae (λ(z:Int)=>iD z) V)<|Aa V,Ad (Ae rowV R)<|Aa R,Ad (Ae bD<|AI (Aa R) o)<|Aa R]) (.inr rfl) (by simp(disch:=omega) only[AP,ht]) rfl (hc:=by omega)
end
section
open Go.RowKit
set_option maxRecDepth 4096
theorem fmS{α β:Type}(f:α->β)(l:List α):(l.flatMap λx=>[f x])=l.map f:=by
 induction l with
 |nil=>rfl
 |cons a l ih=>rw[Bv,ih];rfl
theorem flatB{Dm:List Va}:∀{fs:List Rn},(∀f∈fs,Tofa Dm f/\f.R.length=f.W.length)->fs.flatMap rnCB=((fs.map toFa).map (Fa.mp g0)).flatMap zAg
 |[],_=>rfl
 | f::fs,h=>by
  obtain⟨h1,h2⟩:=h f (Bl ..);have e:rnCB f=zAg ((toFa f).mp g0):=by
   have e:=cells_mp h1 h2 g0 λb=>[bD b];rw[fmS,fmS]at e;exact e
  rw[Bv,flatB λg hg=>h g (Bj _ hg),e];rfl
theorem bool_head(fs:List (Fa Nat))(E:List Nat):((zGp popN rcmp Sb (fs.map (Fa.mp g0)) E).l.map (·.2)).headD Ac=g0 (((zGp popN rcmp Sn fs E).l.map (·.2)).headD 0):=by
 rw[<-mp_head (g:=g0),margP_mp popN hmB];rfl
section
variable {n : Nat} {fs : List Rn} (hn : n ≤ 8) (hl : fs.length ≤ 4) (hs : ∀ f ∈ fs, Rsm f) (hv : ∀ f ∈ fs, ∀ x ∈ f.R, ∀ a ∈ x, Vi a) (h0 : zFu n 0 fs = 0)
include hn hl hs hv h0
theorem totB:Pure Ao 22 [booD,iD (n:Nat), .row (fs.flatMap rnCB) fs.length] [] (.tup [bD (g0 (((zGp popN rcmp Sn (fs.map toFa) ((AA n).filter λv=>!(0:Nat).testBit v)).l.map (·.2)).headD 0)),iD 0]):=by
 obtain⟨_,_,h1,h2⟩:=zMi h0;have ht:=zHn (by omega) h1 hs;have hD:=zS0 h1 hv;have hmm:∀f∈fs,Tofa (domP fs) f/\f.R.length=f.W.length:=λf hf=>⟨ht f hf,rn_len (zCn h1 f hf)⟩;have hcv:=zWl h2 ht;have hok:∀g∈(fs.map toFa).map (Fa.mp g0),FOk rcmp (domP fs) g:=λg hg=>by
  obtain⟨b,hb,rfl⟩:=AD.1 hg;obtain⟨f,hf,rfl⟩:=AD.1 hb;exact mp_ok _ (ht f hf).ok
 have hck:=zYt n 0 fs hn (by omega) (by omega) λf hf=>(hs f hf).z;rw[h0,flatB hmm]at hck;have hln:((fs.map toFa).map (Fa.mp g0)).length=fs.length:=by simp
 have s1:=pz_le (z:=rz) (b:=11) (l:=(fs.map toFa).map (Fa.mp g0)) λa ha=>by
  obtain⟨b,hb,rfl⟩:=AD.1 ha;obtain⟨f,hf,rfl⟩:=AD.1 hb;rw[mp_rz];exact(ht f hf).r
 have s2:=pz_le (z:=bz) (b:=1) (l:=(fs.map toFa).map (Fa.mp g0)) λa ha=>Bi _;rw[hln]at s1 s2;rw[Nat.one_pow]at s2;have s3:11^fs.length<=11^4:=Br (by omega) hl;have e1:11^4=14641:=by decide
 have s6:2^1<=Bz:=Br (by omega) (by rw[Ez_eq];omega);have s4:2*pz bz ((fs.map toFa).map (Fa.mp g0))<=Bz:=AB (Nat.mul_le_mul_left 2 s2) s6;have hm:=zXv hD (zDi _) n 0 _ hn (by omega) hok (by omega) (by omega) s4 (λv hv=>by
  obtain⟨f,hf,h3⟩:=hcv v hv;exact⟨_,AD.2 ⟨f,hf,rfl⟩,h3⟩) (by rw[hln];exact hck)
 rw[hln,<-flatB hmm]at hm;have ht:=total_cB _ _ _ _ hm;rw[bool_head]at ht;exact ht
end
theorem cost_ok:∀a,a<5->∀n,n<9->(a+1)*cE a 18 n+1<=big:=by decide+kernel
abbrev cntJ(n:Nat)(fs:List Rn):Nat:=(jn (mkC n (fs.map atA))).length
theorem ats_af{n:Int}:∀{fs:List Rn},errL n fs=0->fs.flatMap afC=(fs.map atA).flatMap atN
 |[],_=>rfl
 | f::fs,h=>by
  have h3:=zCn h f (Bl ..);obtain⟨A,hA,hfit⟩:=zCl h3;have h5:errL n fs=0:=by
   rw[errL,if_neg (by rw[h3];exact λk=>k rfl)]at h;exact h
  have e:afC f=atN (atA f):=by
   obtain⟨V,R,W⟩:=f;have hA:V=intL A:=hA;subst hA;have tA:(intL A).map Ap=A:=zB5 A;have eA:((intL A).map λz=>iD z)=nsD A:=by simp[intL]
   have eL:(intL A).length=A.length:=by simp[intL]
   show[Ad ((intL A).map λz=>iD z) (intL A).length,iD ((intL A).length:Nat),_]=[Ad (((intL A).map Ap).map λv=>iD (v:Nat)) ((intL A).map Ap).length,iD (((intL A).map Ap).length:Nat),_];rw[tA,eA,eL]
  rw[Bv,ats_af h5,e];rfl
theorem ones_v{fs:List Rn}(hv:∀f∈fs,∀x∈f.R,∀a∈x,Vi a):∀f∈fs.map rn1,∀x∈f.R,∀a∈x,Vi a:=λf hf=>by
 obtain⟨g,hg,rfl⟩:=AD.1 hf;exact hv g hg
section
variable {n : Nat} {fs : List Rn} (hn : n ≤ 8) (hl : fs.length ≤ 4) (hs : ∀ f ∈ fs, Rsm f) (hv : ∀ f ∈ fs, ∀ x ∈ f.R, ∀ a ∈ x, Vi a) (h1 : errL n fs = 0) (h2 : covP n fs = true)
include hn hl hs hv h1 h2
theorem totJ:Pure Ao 11 [cntD,iD (n:Nat), .row (fs.flatMap λf=>rnC (rn1 f)) fs.length] [] (.tup [natD (cntJ n fs),iD 0]):=by
 have h:=totN hn (by rw[Ay];exact hl) (zFx hs) (ones_v hv) (zHr hn h1 h2).1;rw[zKx hn hl hs h1 h2,Ay,BI]at h;exact h
theorem totJB:Pure Ao 22 [booD,iD (n:Nat), .row (fs.flatMap λf=>rnCB (rn1 f)) fs.length] [] (.tup [bD (g0 (cntJ n fs)),iD 0]):=by
 have h:=totB hn (by rw[Ay];exact hl) (zFx hs) (ones_v hv) (zHr hn h1 h2).1;rw[zKx hn hl hs h1 h2,Ay,BI]at h;exact h
theorem cntJ_le:cntJ n fs<=4000000000000000000:=by
 have h0:=(zHr hn h1 h2).1;obtain⟨m,hm⟩:=zSg hn (by decide) (by rw[Ay];exact hl) (zFx hs) (ones_v hv) h0;obtain⟨_,_,h3,h4⟩:=zMi h0;have ht:=zHn (by omega) h3 (zFx hs);have hcv:=zWl h4 ht;have hok:∀g∈(fs.map rn1).map toFa,FOk rcmp (domP (fs.map rn1)) g:=λg hg=>by
  obtain⟨f,hf,rfl⟩:=AD.1 hg;exact(ht f hf).ok
 have hEn:((AA n).filter λv=>!(0:Nat).testBit v).Nodup:=Cv.filter _;have hEc:∀v∈(AA n).filter (λv=>!(0:Nat).testBit v),∃f∈(fs.map rn1).map toFa,v∈f.A:=λv h=>hcv v (by have:=(A4.1 h).1;simpa using this);have he:=hm.e;rw[<-zSf (pop:=popN) (S:=Sn) rcw (zDi _) hEn (.refl _) hok hEc]at he;show(jn (mkC n (fs.map atA))).length<=_;rw[<-zKx hn hl hs h1 h2,<-he];have h5:=hm.v;unfold vz at h5;have:(m.l.map (·.2)).headD 0<=(m.l.map (·.2)).sum:=by
  cases m.l with
  |nil=>simp
  |cons a l=>simp only[B_,List.headD_cons,Cr];omega
 omega
theorem cnt_c:∃z:Nat,Pure Ao 19 [iD (n:Nat), .row (fs.flatMap afC) fs.length] [] (.tup [natD (cntJ n fs),iD (z:Nat),iD 0]):=by
 have hao:=atoms_ok hn hl hs h1 h2;have hj:=cntJ_le hn hl hs hv h1 h2;have hA:(fs.map atA).length<=4:=by rw[Ay];exact hl
 obtain⟨z,hz⟩:=lcount_c hao 18 (λa ha=>by
  obtain⟨f,hf,rfl⟩:=AD.1 ha
  have:=(hs f hf).r
  show f.R.length+n<=18;omega) (show cntJ n fs<_ by omega) (cost_ok _ (by omega) n (by omega)) (check_ok n _ (by omega) (by omega) hao.v)
 refine⟨z,?_⟩;rw[ats_af h1];have hz:Pure Ao 19 [iD (n:Nat), .row ((fs.map atA).flatMap atN) (fs.map atA).length] [] (.tup [natD (cntJ n fs),iD (z:Nat),iD 0]):=hz;rw[Ay]at hz;exact hz
end
end
section
open Go.RowKit
attribute [local irreducible] seqW awp zAa zAb zR Weak updS zAd retL Pure Acts rP setP setQ cP nP fr
set_option maxRecDepth 4096
theorem acc_fit{n:Int}{V:List Int}{R:List Rw}{m:Nat}(h:chk n V R m=0):accL (V.length:Nat) R=0/\relR R=R:=by
 obtain⟨A,hA,hfit⟩:=zCl h;refine⟨accL_0 λj hj=>?_,relR_id hfit.srt⟩;have hm:R.getD j []∈R:=by rw[AE,AM hj];exact A9 hj
 have h1:=hfit.len _ hm;have h2:=hfit.vok _ hm;unfold accE;rw[if_neg,if_pos h2];rw[h1,hA,Ay];exact λk=>k rfl
abbrev aaB(l:List D):Bk:=⟨l,75,3,Ab,Ac, .plain⟩
theorem af_snoc(l:List Rn)(f:Rn):(l++[f]).flatMap afC=l.flatMap afC++afC f:=by simp
set_option maxHeartbeats 4000000 in
theorem atoms_c(n:Nat)(h8:n<=8)(fs:List Rn)(hl:fs.length<=4)(hs:∀f∈fs,Rsm f):Pure Ao 16 [iD (n:Nat), .row (fs.flatMap rwD) fs.length] [] (if errL n fs=0 then .tup [.row (fs.flatMap afC) fs.length,bD (covP n fs)]else .tup [.row [] 0,bD Ac]):=by
 have hcov:=covered_c n fs (by omega) (by omega) λf hf=>by have:=(hs f hf).v;omega
 generalize hcv:covP n fs=cv at*;refine zH zDt mixed Tryz.func16 rfl<|vAu<|vAe<|zB<|vAe<|zF<|zBq (λ(i:Nat)(a:List Rn)=>fr 56 [(0,iD (n:Int)),(1,Ad (Af rwD fs)<|Aa fs),(6,Ah 0 0 (Aa a) (Aa a*3) Ab),(7,iD (i:Int))]) (λ(i:Nat)(a:List Rn)=>[aaB<|a.flatMap afC]) (λi a=>fs.length-i) (λ(i:Nat)(a:List Rn)=>i<=fs.length/\a=fs.take i/\∀j,j<i->chkR n (fs.getD j Ai)=0) 0 [] ?_ ?_ ?_
 ·exact⟨by omega,rfl,λj h=>by omega⟩
 ·refine vk 0
 rintro i a ⟨h1,h2,h4⟩;have la:a.length<=1000:=by rw[h2];simp;omega
 have ca:(a.flatMap afC).length=a.length*3:=zG3 zPv a;rcases Av i fs.length with h3|h3
 ·have hm:=zAx fs Ai i h3;have hg2:=zSu zK1 fs i h3;have hle:=zFp zK1 fs i h3;have hne:=zEi zK1 (by decide) fs;have htk:=zBm fs i h3;rw[<-h2]at htk;have hsm:=hs _ hm;have hat:=zS1 h4 h3;generalize hff:fs.getD i Ai=f at*;obtain⟨V,R,W⟩:=f;have hV:=hsm.v;have hR:=hsm.r;simp only at hV hR;have hch:=rcheck_c n V R (natI W) (by omega) (by omega);have erw:rwD ⟨V,R,W⟩=[.row (V.map λz=>iD z) V.length, .row (R.map rowV) R.length, .row (nsD W) W.length]:=by
   show[_,_,Ad ((natI W).map λz=>iD z) (natI W).length]=_;rw[zK6,Ay]
  have erd:rawD ⟨V,R,natI W⟩= .agg [.row (V.map λz=>iD z) V.length, .row (R.map rowV) R.length, .row (nsD W) W.length]:=congrArg Aq erw;rw[erw]at hg2;rw[erd,Ay]at hch;have hof:=relOf_c (V.length:Nat) R R.length (by omega) (by omega) rfl (by omega);by_cases e0:chk n V R W.length=0
  ·obtain⟨q1,q2⟩:=acc_fit e0;rw[q1,if_pos rfl,q2]at hof;rw[e0]at hch;refine zB<|vAu<|vT ((i:Int)<↑(Aa fs))<|vKB<|zB<|vd [0,1,2,3,6,7,8,9,4,5,10,11,12,13,14,15,16,17]<|vr 3 (ix ↑i ↑(Aa fs) (Af rwD fs≠[]))<|vs 19 (AH<|Ag (Ap (i:Int)*3)<|Af rwD fs) (AH (Ad (Ae (λ(z:Int)=>iD z) V) (Aa V)::Ad (Ae rowV R) (Aa R)::Ad (nsD W) (Aa W)::Af rwD (Ag (i+1) fs))) (hd:=by simp(disch:=omega) only[AG,AX,AY,hg2])<|vr 4 (True/\ix ↑i ↑(Aa fs) (Af rwD fs≠[]))<|vs 25 (AH<|Ag (Ap (i:Int)*3)<|Af rwD fs) (AH (Ad (Ae (λ(z:Int)=>iD z) V) (Aa V)::Ad (Ae rowV R) (Aa R)::Ad (nsD W) (Aa W)::Af rwD (Ag (i+1) fs))) (hd:=by simp(disch:=omega) only[AG,AX,AY,hg2])<|vr 4 (True/\0<Aa (Ad (Ae (λ(z:Int)=>iD z) V) (Aa V)::Ad (Ae rowV R) (Aa R)::Ad (nsD W) (Aa W)::Af rwD (Ag (i+1) fs))/\0<Aa (Ad (Ae rowV R) (Aa R)::Ad (nsD W) (Aa W)::Af rwD (Ag (i+1) fs)))<|vc hof<|ve (0<2/\1<2/\Ac=Ac/\Ab=Ab/\2=2/\2<=2)<|zB<|vA<|vr 4 (ix ↑i ↑(Aa fs) (Af rwD fs≠[]))<|vs 34 (AH<|Ag (Ap (i:Int)*3)<|Af rwD fs) (AH (Ad (Ae (λ(z:Int)=>iD z) V) (Aa V)::Ad (Ae rowV R) (Aa R)::Ad (nsD W) (Aa W)::Af rwD (Ag (i+1) fs))) (hd:=by simp(disch:=omega) only[AG,AX,AY,hg2])<|vr 1 (3<=Aa (Ad (Ae (λ(z:Int)=>iD z) V) (Aa V)::Ad (Ae rowV R) (Aa R)::Ad (nsD W) (Aa W)::Af rwD (Ag (i+1) fs)))<|vc hch<|ve (True/\True)<|vf<|vK<|vd [0,1,2,3,4,5,6,7,8,9,10]<|vr 4 (ix ↑i ↑(Aa fs) (Af rwD fs≠[]))<|vs 45 (AH<|Ag (Ap (i:Int)*3)<|Af rwD fs) (AH (Ad (Ae (λ(z:Int)=>iD z) V) (Aa V)::Ad (Ae rowV R) (Aa R)::Ad (nsD W) (Aa W)::Af rwD (Ag (i+1) fs))) (hd:=by simp(disch:=omega) only[AG,AX,AY,hg2])<|vr 7 (True/\0<Aa (Ad (Ae (λ(z:Int)=>iD z) V) (Aa V)::Ad (Ae rowV R) (Aa R)::Ad (nsD W) (Aa W)::Af rwD (Ag (i+1) fs))/\2<=2/\((1=1/\1<=3/\2=2/\3<=3/\True)/\Ab=Ab)/\((3=3/\3<=3/\True)/\0<3/\3=3/\3<=16777216/\1<=9223372036854775807)/\AU (aaB<|Af afC a)=Ab/\Aa (AJ<|aaB<|Af afC a)=Aa a*3/\Aa a*3=Aa a*3/\AN (aaB<|Af afC a)=75/\AO (aaB<|Af afC a)=3/\3=3/\0<3/\0<56/\75=75/\(Aa a+1)*56<=140737488355328/\3=3/\AR (Az<|aaB<|Af afC a)=Ac/\(Ac=Ac\/AS (Az<|aaB<|Af afC a)=Ab))<|vnil<|zD<|vN<|zA rfl<|vr 3 (i6 (↑i+1))<|vnil<|zC<|⟨i+1,a++[⟨V,R,W⟩],⟨by omega,htk.symm,λj hj=>?_⟩,by omega,?_⟩
   ·rcases Av j i with h|h
    ·exact h4 j h
    obtain rfl:j=i:=by omega
    rw[hff];exact e0
   rw[af_snoc,len_sn];refine vk 1
  have hat2:errL n fs=chk n V R W.length:=hat e0;rw[if_neg (by rw[hat2];exact e0)];obtain⟨x1,x2,x3,x4,hof⟩:∃(x1:Int)(x2:List D)(x3:Nat)(x4:Int),Pure Ao 36 [iD (V.length:Nat), .row (R.map rowV) R.length] [] (.tup [.agg [iD x1, .row x2 x3],iD x4]):=by
   split at hof
   ·exact⟨_,_,_,_,hof⟩
   exact⟨_,_,_,_,hof⟩
  generalize chk n V R W.length=e at*;refine zB<|vAu<|vT ((i:Int)<↑(Aa fs))<|vKB<|zB<|vd [0,1,2,3,6,7,8,9,4,5,10,11,12,13,14,15,16,17]<|vr 3 (ix ↑i ↑(Aa fs) (Af rwD fs≠[]))<|vs 19 (AH<|Ag (Ap (i:Int)*3)<|Af rwD fs) (AH (Ad (Ae (λ(z:Int)=>iD z) V) (Aa V)::Ad (Ae rowV R) (Aa R)::Ad (nsD W) (Aa W)::Af rwD (Ag (i+1) fs))) (hd:=by simp(disch:=omega) only[AG,AX,AY,hg2])<|vr 4 (True/\ix ↑i ↑(Aa fs) (Af rwD fs≠[]))<|vs 25 (AH<|Ag (Ap (i:Int)*3)<|Af rwD fs) (AH (Ad (Ae (λ(z:Int)=>iD z) V) (Aa V)::Ad (Ae rowV R) (Aa R)::Ad (nsD W) (Aa W)::Af rwD (Ag (i+1) fs))) (hd:=by simp(disch:=omega) only[AG,AX,AY,hg2])<|vr 4 (True/\0<Aa (Ad (Ae (λ(z:Int)=>iD z) V) (Aa V)::Ad (Ae rowV R) (Aa R)::Ad (nsD W) (Aa W)::Af rwD (Ag (i+1) fs))/\0<Aa (Ad (Ae rowV R) (Aa R)::Ad (nsD W) (Aa W)::Af rwD (Ag (i+1) fs)))<|vc hof<|ve (0<2/\1<2/\Ac=Ac/\Ab=Ab/\2=2/\2<=2)<|zB<|vA<|vr 4 (ix ↑i ↑(Aa fs) (Af rwD fs≠[]))<|vs 34 (AH<|Ag (Ap (i:Int)*3)<|Af rwD fs) (AH (Ad (Ae (λ(z:Int)=>iD z) V) (Aa V)::Ad (Ae rowV R) (Aa R)::Ad (nsD W) (Aa W)::Af rwD (Ag (i+1) fs))) (hd:=by simp(disch:=omega) only[AG,AX,AY,hg2])<|vr 1 (3<=Aa (Ad (Ae (λ(z:Int)=>iD z) V) (Aa V)::Ad (Ae rowV R) (Aa R)::Ad (nsD W) (Aa W)::Af rwD (Ag (i+1) fs)))<|vc hch<|vew [] [(7,Ab)] (True/\(e !=(0:Int))=Ab) ?_;refine vt<|vAe<|zG<|zE<|zJ<|zE<|zE<|zJ<|zE<|vret (True)<|.inr rfl
 rw[AK (by omega)]at h2;have h0:=errL_0 (n:=n) (fs:=fs) λj hj=>h4 j (by omega);rw[h0,if_pos rfl];subst h2;have ht:=zE6 zPv a _ rfl;refine zB<|vAu<|vF ((i:Int)<↑(Aa a))<|vZ2<|vA<|vrT 3<|vc hcov<|veT<|zG<|zB3 (True) (D.tup [Ad (Am (Aa a*3)<|Ag 0<|AJ<|aaB<|Af afC a)<|Aa a,bD cv]) (D.tup [Ad (Af afC a)<|Aa a,As<|BH cv]) (.inr rfl) (by simp(disch:=omega) only[AP,ht]) rfl
theorem len32c(n:Nat)(hn:n<4294967296):Pure Ao 44 [.val (.int .u32 n)] [] (iD (Bw n:Nat)):=
 zC4 (us:=[.int .u32 n]) (λw=>(Tryz.bits_Len32 n w (by omega) (by omega)).mono λe w' h=>⟨by rw[h.1];simp,h.2.symm⟩)
theorem nbitsC_c(a:Nat)(h:Sm a):∃z:Nat,(0<z↔0<a)/\Pure Ao 23 [natD a] [] (iD (z:Nat)):=by
 unfold Sm at h;have ht:Pure Ao 31 [.row ((dg a).map dig) (dg a).length] [] (.row ((dg a).map dig) (dg a).length):=by
  have h2:=zG5 (dg a) _ rfl (zCk a);rw[zCj]at h2;exact h2
 show∃z:Nat,(0<z↔0<a)/\Pure Ao 23 [.row ((dg a).map dig) (dg a).length] [] (iD (z:Nat));have hd:=zCk a;have hn:=zVl a;have hv:=zCj a;generalize dg a=l at*;rcases Bx l.length with h0|h0
 ·refine⟨0,⟨λhh=>by omega,λhh=>?_⟩,?_⟩
  ·rw[Ct.1 h0]at hv;have:nval []=0:=rfl;omega
  refine zH zBt mixed Tryz.func23 rfl<|vAu<|vA<|vrT 1<|vc (ht)<|veT<|zB<|vAe<|vEt ((Aa l:Int)) ((0:Int)) ?_;refine vAe<|zG<|zE<|vret (True)<|.inr rfl
 refine⟨32*(l.length-1)+Bw (l.getD (l.length-1) 0),?_,?_⟩
 ·have hne:l≠[]:=λe=>by rw[e]at h0;cases h0
  have ht:=hn.resolve_left hne;have hp:0<Bw (l.getD (l.length-1) 0):=by
   show 0<if _=0 then 0 else 1+_
   rw[if_neg ht];omega
  refine⟨λ_=>Nat.pos_of_ne_zero λe=>hne (hn.zero.1 (by omega)),λ_=>by omega⟩
 have hb:=Lib.bitLen_le (l.getD (l.length-1) 0) 32 (by omega) (hd _);have hx:=len32c (l.getD (l.length-1) 0) (hd _);refine zH zBt mixed Tryz.func23 rfl<|vAu<|vA<|vrT 1<|vc (ht)<|veT<|zB<|vAe<|vEf ((Aa l:Int)) ((0:Int)) ?_;refine vK<|vA<|vr 3 (i6 (↑(Aa l)-1))<|vs 10 (iD (↑(Aa l)-1)) (iD ↑(Aa l-1)) (hd:=by simp(disch:=omega) only[zDj])<|vr 5 (i6 ((32:Int)*(↑(Aa l-1):Int))/\i6 (↑(Aa l)-1))<|vs 15 (iD (↑(Aa l)-1)) (iD ↑(Aa l-1)) (hd:=by simp(disch:=omega) only[zDj])<|vr 1 (ix ↑(Aa l-1) ↑(Aa l) (Ae dig l≠[])) (vp 16 (Aa l-1) (Ae dig l)<|vr 1 (0<Aa (Ag (Aa l-1)<|Ae dig l))<|vs 17 (Bb (Ag (Aa l-1)<|Ae dig l) Uk) (dig<|An l (Aa l-1) 0) (hd:=by simp(disch:=omega) only[zB7])<|vc hx ?_) ⟨(by omega),⟨(by omega),(by exact zW)⟩⟩;refine ve (i6 ((32:Int)*(↑(Aa l-1):Int)+(↑(Bw<|An l (Aa l-1) 0):Int)))<|zG<|vret (True)<|.inr rfl
section
variable (n : Int) (cs : List D) (k : Nat)
theorem zQ4(b:Bool)(hb:b=Ac\/n<0\/8<n)(hfew:Pure Ao 7 [.row cs k] [] (bD b)):Pure Ao 5 [iD n, .row cs k] [] (bD Ab):=by
 cases b
 ·refine zH zDt mixed Cg rfl<|vAu<|zB<|vA<|vc (zPr)<|veT<|vf<|vK<|zB<|vA<|vrT 1<|vc (hfew)<|veT<|vt<|vAe<|zG<|zE<|vret (True)<|.inr rfl
 have hb:n<0\/8<n:=by simpa using hb
 refine zH zDt mixed Cg rfl ?_;by_cases h0:n<0
 ·refine vAu<|zB<|vA<|vc (zPr)<|veT<|vf<|vK<|zB<|vA<|vrT 1<|vc (hfew)<|vew [] [(7,Ab)] (decide (n<0)=Ab)<|vt<|vAe<|zG<|zE<|vret (True)<|.inr rfl
 refine vAu<|zB<|vA<|vc (zPr)<|veT<|vf<|vK<|zB<|vA<|vrT 1<|vc (hfew)<|vew [] [(7,Ac)] (decide (n<0)=Ac)<|vT (n>(8:Int))<|vAe<|zG<|zE<|vret (True)<|.inr rfl
theorem zWm(h0:0<=n)(h8:n<=8)(xs:List D)(m:Nat)(hfew:Pure Ao 7 [.row cs k] [] (bD Ab))(ha:Pure Ao 16 [iD n, .row cs k] [] (.tup [.row xs m,bD Ac])):Pure Ao 5 [iD n, .row cs k] [] (bD Ab):=by
 refine zH zDt mixed Cg rfl<|vAu<|zB<|vA<|vc (zPr)<|veT<|vf<|vK<|zB<|vA<|vrT 1<|vc (hfew)<|vew [] [(7,Ac)] (decide (n<0)=Ac)<|vF (n>(8:Int))<|vK<|vA<|vrT 2<|vc (ha)<|ve (0<2/\1<2)<|zB<|vAe<|vt<|vAe<|zG<|zE<|vret (True)<|.inr rfl
end
abbrev rnJ(f:Rn):List D:=rnC (rn1 f)
abbrev rnJB(f:Rn):List D:=rnCB (rn1 f)
theorem rnJ_snoc(l:List Rn)(f:Rn):(l++[f]).flatMap rnJ=l.flatMap rnJ++rnJ f:=by simp
theorem rnJB_snoc(l:List Rn)(f:Rn):(l++[f]).flatMap rnJB=l.flatMap rnJB++rnJB f:=by simp
theorem rnJ_len(f:Rn):(rnJ f).length=3:=rfl
theorem zZt(f:Rn):(rnJB f).length=3:=rfl
set_option maxHeartbeats 8000000 in
theorem countsOk_c(n:Nat)(h8:n<=8)(fs:List Rn)(hl:fs.length<=4)(hs:∀f∈fs,Rsm f)(hr:∀f∈fs,∀r∈f.R,r.length<=2000000)(J:Nat)(hJ:Sm J)(z:Nat)
  (hfew:Pure Ao 7 [.row (fs.flatMap rwD) fs.length] [] (bD Ab))(hat:Pure Ao 16 [iD (n:Nat), .row (fs.flatMap rwD) fs.length] [] (.tup [.row (fs.flatMap afC) fs.length,bD Ab]))
  (hN:Pure Ao 11 [cntD,iD (n:Nat), .row (fs.flatMap rnJ) fs.length] [] (.tup [natD J,iD 0]))
  (hB:Pure Ao 22 [booD,iD (n:Nat), .row (fs.flatMap rnJB) fs.length] [] (.tup [bD (g0 J),iD 0]))
  (hC:Pure Ao 19 [iD (n:Nat), .row (fs.flatMap afC) fs.length] [] (.tup [natD J,iD (z:Nat),iD 0])):Pure Ao 5 [iD (n:Nat), .row (fs.flatMap rwD) fs.length] [] (bD Ab):=by
 have hcm:=ncmp_c J J hJ hJ;have e0:cmpD (J:Int) (J:Int)=0:=by rcases zD6 (J:Int) J with h|h|h<;>omega
 rw[e0]at hcm;obtain⟨bt,hb1,hb2⟩:=nbitsC_c J hJ;refine zH zDt mixed Cg rfl<|vAu<|zB<|vA<|vc (zPr)<|veT<|vf<|vK<|zB<|vA<|vrT 1<|vc (hfew)<|vew [] [(7,Ac)] (decide ((n:Int)<0)=Ac)<|vF ((n:Int)>(8:Int))<|vK<|vA<|vrT 2<|vc (hat)<|ve (0<2/\1<2)<|zB<|vAe<|vf<|vK<|vAe<|vAe<|zB<|vAe<|zF<|zBq (λ(i:Nat)(a:List Rn)=>fr 110 [(0,iD (n:Int)),(4,bD Ac),(5,Ad (Af afC fs)<|Aa fs),(7,Ah 0 0 (Aa a) (Aa a*3) Ab),(8,Ah 1 0 (Aa a) (Aa a*3) Ab),(9,iD (i:Int))]) (λ(i:Nat)(a:List Rn)=>[fsB<|a.flatMap rnJ,fsBB<|a.flatMap rnJB]) (λi a=>fs.length-i) (λ(i:Nat)(a:List Rn)=>i<=fs.length/\a=fs.take i) 0 [] ?_ ?_ ?_
 ·exact⟨by omega,rfl⟩
 ·refine vk 0
 rintro i a ⟨h1,h2⟩;have la:a.length<=1000:=by rw[h2];simp;omega
 have caN:(a.flatMap rnJ).length=a.length*3:=zG3 rnJ_len a;have caB:(a.flatMap rnJB).length=a.length*3:=zG3 zZt a;rcases Av i fs.length with h3|h3
 ·have hm:=zAx fs Ai i h3;have hg2:=zDg zPv fs i h3;have hle:=zFp zPv fs i h3;have hne:=zEi zPv (by decide) fs;have htk:=zBm fs i h3;rw[<-h2]at htk;have hsm:=hs _ hm;have hfn:=fromN_c (fs.getD i Ai) (by have:=hsm.v;omega) (by have:=hsm.r;omega) (hr _ hm);have hfb:=fromB_c (fs.getD i Ai) (by have:=hsm.v;omega) (by have:=hsm.r;omega) (hr _ hm);generalize fs.getD i Ai=f at*;refine zB<|vAu<|vT ((i:Int)<↑(Aa fs))<|vKB<|vA<|vr 7 ((True/\Ab=Ab)/\ix ↑i ↑(Aa fs) (Af afC fs≠[])/\3<=Aa (Ag (i*3)<|Af afC fs))<|vs 50 (Aq<|Am 3<|Ag (i*3)<|Af afC fs) (Aq<|afC f) (hd:=by simp(disch:=omega) only[hg2])<|vc hfn<|ve (((3=3/\3<=3/\True)/\0<3/\3=3/\3<=16777216/\1<=9223372036854775807)/\AU (fsB<|Af rnJ a)=Ab/\Aa (AJ<|fsB<|Af rnJ a)=Aa a*3/\Aa a*3=Aa a*3/\AN (fsB<|Af rnJ a)=90/\AO (fsB<|Af rnJ a)=3/\3=3/\0<3/\0<72/\90=90/\(Aa a+1)*72<=140737488355328/\3=3/\AR (Az<|fsB<|Af rnJ a)=Ac/\(Ac=Ac\/AS (Az<|fsB<|Af rnJ a)=Ab))<|zA rfl<|vr 7 ((True/\Ab=Ab)/\ix ↑i ↑(Aa fs) (Af afC fs≠[])/\3<=Aa (Ag (i*3)<|Af afC fs))<|vs 60 (Aq<|Am 3<|Ag (i*3)<|Af afC fs) (Aq<|afC f) (hd:=by simp(disch:=omega) only[hg2])<|vc hfb<|vr 3 (((3=3/\3<=3/\True)/\0<3/\3=3/\3<=16777216/\1<=9223372036854775807)/\Ab=Ab/\Aa (Af rnJB a)=Aa a*3/\Aa a*3=Aa a*3/\94=94/\3=3/\3=3/\0<3/\0<72/\94=94/\(Aa a+1)*72<=140737488355328/\3=3/\AR Aj=Ac/\(Ac=Ac\/AS Aj=Ab))<|vnil<|zD<|vN<|zA rfl<|vr 3 (i6 (↑i+1))<|vnil<|zC<|⟨i+1,a++[f],⟨by omega,htk.symm⟩,by omega,?_⟩;rw[rnJ_snoc,rnJB_snoc,len_sn];refine vk 2
 rw[AK (by omega)]at h2;subst h2;have ht1:=zE6 rnJ_len a _ rfl;have ht2:=zE6 zZt a _ rfl;rcases Bx J with hz|hz
 ·have e1:g0 J=false:=by rw[hz];rfl
  have e2:bt=0:=by
   rcases Bx bt with h|h
   ·exact h
   have:=hb1.1 h;omega
  rw[e1]at hB;subst e2;refine zB<|vAu<|vF ((i:Int)<↑(Aa a))<|vZ2<|vA<|vr 4 (True/\Ab=Ab)<|vcl [A7 29<|Aq [],iD n,Ad (Am (Aa a*3)<|Ag 0<|AJ<|fsB<|Af rnJ a)<|Aa a] [A7 29<|Aq [],iD n,Ad (Af rnJ a)<|Aa a] (BK (by simp(disch:=omega) only[AP,ht1])) (by exact hN)<|ve (0<2/\1<2)<|vA<|vr 4 (True/\Ab=Ab)<|vcl [A7 96<|Aq [],iD n,Ad (Am (Aa a*3)<|Ag 0<|AJ<|fsBB<|Af rnJB a)<|Aa a] [A7 96<|Aq [],iD n,Ad (Af rnJB a)<|Aa a] (BK (by simp(disch:=omega) only[AP,ht2])) (by exact hB)<|ve (0<2/\1<2)<|vA<|vrT 2<|vc hC<|ve (0<3/\1<3/\2<3)<|vA<|vr 13 (True/\True/\True)<|vc hcm<|vrT 5<|vc hb2<|veT<|zG<|vret (True)<|.inr rfl
 have e1:g0 J=true:=decide_eq_true hz;have e2:0<bt:=hb1.2 hz;rw[e1]at hB;refine zB<|vAu<|vF ((i:Int)<↑(Aa a))<|vZ2<|vA<|vr 4 (True/\Ab=Ab)<|vcl [A7 29<|Aq [],iD n,Ad (Am (Aa a*3)<|Ag 0<|AJ<|fsB<|Af rnJ a)<|Aa a] [A7 29<|Aq [],iD n,Ad (Af rnJ a)<|Aa a] (BK (by simp(disch:=omega) only[AP,ht1])) (by exact hN)<|ve (0<2/\1<2)<|vA<|vr 4 (True/\Ab=Ab)<|vcl [A7 96<|Aq [],iD n,Ad (Am (Aa a*3)<|Ag 0<|AJ<|fsBB<|Af rnJB a)<|Aa a] [A7 96<|Aq [],iD n,Ad (Af rnJB a)<|Aa a] (BK (by simp(disch:=omega) only[AP,ht2])) (by exact hB)<|ve (0<2/\1<2)<|vA<|vrT 2<|vc hC<|ve (0<3/\1<3/\2<3)<|vA<|vr 13 (True/\True/\True)<|vc hcm<|vrT 5<|vc hb2<|veT<|zG<|vre (True) (As<|BH (Ab==decide ((bt:Int)>(0:Int)))) (.inr rfl) ?_;rw[decide_eq_true (show(bt:Int)>0 by omega)];rfl
theorem counts_all(n:Int)(l:List Raw)(hn:inK .i64 n)(hl:∀f∈l,RawOk f):Pure Ao 5 [iD n, .row (l.flatMap rawC) l.length] [] (bD Ab):=by
 have hfew:=few_c l;by_cases hf:fewP l=Ab;case neg=>
  rw[Bool.not_eq_true]at hf;rw[hf]at hfew;exact zQ4 n _ _ Ac (.inl rfl) hfew
 rw[hf]at hfew;by_cases h8:n<0\/8<n
 ·exact zQ4 n _ _ Ab (.inr h8) hfew
 obtain⟨hl4,fs,rfl,hs⟩:=fewP_rn hf;rw[Ay]at hl4;have hvv:∀f∈fs,∀x∈f.R,∀a∈x,Vi a:=λf hf=>(hl (rnR f) (AD.2 ⟨f,hf,rfl⟩)).r;have e:(fs.map rnR).flatMap rawC=fs.flatMap rwD:=by rw[BI]
 rw[e,Ay]at hfew⊢;obtain⟨N,rfl⟩:∃N:Nat,n=N:=⟨n.toNat,by omega⟩;have hN:N<=8:=by omega
 have ha:=atoms_c N hN fs hl4 hs;by_cases h1:errL N fs=0;case neg=>
  rw[if_neg h1]at ha;exact zWm N _ _ (by omega) (by omega) _ _ hfew ha
 rw[if_pos h1]at ha;by_cases h2:covP N fs=Ab;case neg=>
  rw[Bool.not_eq_true]at h2;rw[h2]at ha;exact zWm N _ _ (by omega) (by omega) _ _ hfew ha
 rw[h2]at ha;have hrr:∀f∈fs,∀r∈f.R,r.length<=2000000:=λf hf r hr=>by
  obtain⟨A,hA,hfit⟩:=zCl (zCn h1 f hf);have h3:=hfit.len r hr;have h4:=(hs f hf).v;rw[hA,Ay]at h4;omega
 obtain⟨z,hc⟩:=cnt_c hN hl4 hs hvv h1 h2;have hj:=cntJ_le hN hl4 hs hvv h1 h2;have hJ:=totJ hN hl4 hs hvv h1 h2;have hJB:=totJB hN hl4 hs hvv h1 h2;generalize cntJ N fs=J at*;exact countsOk_c N hN fs hl4 hs hrr J (Sm.of (by omega)) z hfew ha hJ hJB hc
end
end Go.Proofs.YtmfamhoopjeaiaaGreatDoor
