/- Texts of this claim, joined. -/
import Derived.Test.YthmfohpkimflhaaGreatDoorU04
import Derived.Deep.RegionLaw
import Derived.Shelf.RegionOpenPlain
set_option linter.unusedVariables false
set_option linter.unusedSimpArgs false
namespace Go.Proofs.YthmfohpkimflhaaGreatDoor
open _root_.List renaming length->Aa,map->Ae,flatMap->Af,drop->Ag,take->Au,length_map->AI,drop_zero->AJ,getD_eq_getElem?_getD->AK,range->AM,mem_map->AP,all->AR,take_of_length_le->AS,length_take->AV,cons_append->AW,nil_append->AX,length_drop->A0,eraseIdx->A2,getElem?_eq_getElem->A5,map_map->A6,map_congr_left->A7,mem_cons->A8,idxOf_lt_length_iff->A9,getElem_idxOf->A_,take_length->Ba,getElem?_map->Bb,getElem?_eq_some_iff->Bc,length_append->Bd,mem_of_mem_eraseIdx->Bf,length_eraseIdx_of_lt->Bh
open _root_.Bool renaming false->Ab,true->Ac
open D renaming row->Ad,own->Ah,val->Ao,agg->Ar,osl->AC,ptr->AE
open _root_.Option renaming some->Ai,none->As
open Value renaming int->Aj,string->Ay
open IntKind renaming u32->Ak,i64->Aq,wrap->AG
open _root_.Go.Proofs.Tryz renaming prog->Al,func7->AZ
open Cs renaming desc->Am,P->An
open _root_.Inhabited renaming default->Ap
open _root_.Int renaming toNat->Av,toNat_natCast->AD,tmod->AY,tdiv->A1
open Bk renaming mk->Aw,cells->AU
open _root_.BitVec renaming ofInt->Ax,toNat->AN
open TypeInfo renaming desc->Az,mk->AA
open TypeDesc renaming int->AB
open LeL renaming refl->AF,of_eq->AQ
open Kd renaming plain->AH
open _root_.Nat renaming lt_or_ge->AL,zero_add->AT,mul_one->A3,le_refl->A4
open Va renaming mk->AO
open _root_.Classical renaming byContradiction->Bg
section
open Go.RowKit
attribute [local irreducible] seqW awp zW zX zP Weak updS zZ retL Pure Acts rP setP setQ cP nP fr
set_option maxRecDepth 4096
abbrev u32V(s:Nat):Value:= .int .u32 (s:Int)
abbrev aaK(A:List (List Nat×List Rw)):Bk:=⟨[.row (A.flatMap atN) A.length],30,0,Ab,Ab, .plain⟩
abbrev knB:Bk:=⟨[.mref 1],110,0,Ab,Ab, .plain⟩
abbrev knM(al:Nat->Bool)(ks:List Nat):Bk:=⟨ks.map λs=>bD (al s),110,0,Ac,Ab, .map (ks.map u32V)⟩
abbrev kS(A:List (List Nat×List Rw))(al:Nat->Bool)(ks:List Nat):List Bk:=[aaK A,knM al ks,knB]
abbrev alF:D:= .clo (.func 55) [] [.own 2 0, .own 0 0]
theorem mfind_u(U:List Nat)(z:Nat):zDj (U.map u32V) (u32V z)=if z∈U then Ai (U.idxOf z)else none:=by
 unfold zDj;rw[List.findIdx?_map];have e:(vEq (u32V z)∘u32V)=λx=>decide (z=x):=by
  funext x;show(((z:Nat):Int)==((x:Nat):Int))=decide (z=x);rw[Bool.eq_iff_iff,beq_iff_eq,decide_eq_true_eq];omega
 rw[e];induction U with
 |nil=>rfl
 | cons s U ih=>
  rw[List.findIdx?_cons,ih];by_cases e:z=s
  ·subst e;simp
  have e2:(s==z)=false:=by simpa using λh:s=z=>e h.symm
  simp only[e,decide_false,Bool.false_eq_true,if_false,A8,false_or,List.idxOf_cons,e2,cond_false];split<;>simp
theorem look_u(al:Nat->Bool)(U:List Nat)(z:Nat):zEz Ac (bD Ab) (U.map u32V) (U.map λs=>bD (al s)) (u32V z)= .tup [bD (decide (z∈U)&&al z),bD (decide (z∈U))]:=by
 unfold zEz;rw[mfind_u];by_cases h:z∈U
 ·rw[if_pos h]
  have:=A9.2 h
  simp[ctD,AK,this,h,A_ this]
 rw[if_neg h];simp[ctD,h]
theorem mput_u(al:Nat->Bool)(U:List Nat)(z:Nat)(h:z∉U):mput (knM al U) (U.map u32V) (u32V z) (bD (al z))=knM al (U++[z]):=by
 unfold mput;rw[mfind_u,if_neg h];simp
theorem fits_u(U:List Nat):(U.map u32V).all (zT (.int .u32))=true:=by simp[zT]
theorem twcK{N:Nat}{i:FuncId->Bool}:∀k,N<=k->(Twc N i).keep k=false:=λk hk=>decide_eq_false (by omega)
section
variable {A : List (List Nat × List Rw)} (h : AtW A)
include h
set_option maxHeartbeats 2000000 in
theorem zHz(ks:List Nat)(s:Nat)(hs:s<4294967296):Acts Al 55 [u32D s, .own 2 0, .own 0 0] (kS A (alB A) ks) [] (bD (alB A s)) (kS A (alB A) (kput ks s)):=by
 have hl5:=h.l;have hch:=chosen_c A (by omega) s hs;have hsa:=satC_c h s;have hlk:=look_u (alB A) ks s;unfold kput;by_cases hk:s∈ks
 ·rw[if_pos hk];rw[decide_eq_true hk,Bool.true_and]at hlk;generalize alB A s=b at*;refine zAk (zEh 3 λ_=>Ab) mixed Tryz.func55 rfl (λk hk=>decide_eq_true hk) ?_;focus
   refine zB (zA rfl (v0s (veT (zB (zB (zA rfl (vwh 3 [] [] (0<1/\zT (Az (AA (AB Ak) "uint32" 1 4 Ab 4 4 (Ai (Aj Ak (0:Int))) Ac #[])) (Aj Ak (s:Int))=Ac/\AR (Ae u32V ks) (zT (Az (AA (AB Ak) "uint32" 1 4 Ab 4 4 (Ai (Aj Ak (0:Int))) Ac #[])))=Ac) ⟨(by omega),?_⟩ ?_)))))));rotate_left;refine vsh 11 hlk (ve (0<2/\1<2) (zB (zA rfl (veT (vt (zB (zA rfl (veT (zJ (zH (zAj (True) [Ao (Value.bool b)] (.inr rfl) ?_)))))))))));rotate_left
  ·exact⟨rfl,fits_u _⟩
  exact⟨by kernel_rfl,by kernel_rfl⟩
 rw[if_neg hk];rw[decide_eq_false hk,Bool.false_and]at hlk;have hmp:=mput_u (alB A) ks s hk;generalize alB A s=b at*;refine zAk (zEh 3 λ_=>Ab) mixed Tryz.func55 rfl (λk hk=>decide_eq_true hk) ?_;focus
  refine zB (zA rfl (v0s (veT (zB (zB (zA rfl (vwh 3 [] [] (0<1/\zT (Az (AA (AB Ak) "uint32" 1 4 Ab 4 4 (Ai (Aj Ak (0:Int))) Ac #[])) (Aj Ak (s:Int))=Ac/\AR (Ae u32V ks) (zT (Az (AA (AB Ak) "uint32" 1 4 Ab 4 4 (Ai (Aj Ak (0:Int))) Ac #[])))=Ac) ⟨(by omega),?_⟩ ?_)))))));rotate_left;refine vsh 11 hlk (ve (0<2/\1<2) (zB (zA rfl (veT (vf (zK (zC (zD (zB (zA rfl (vr 2 (0<1) (vc (hch) (vc (hsa) (veT (zB (zA rfl (vwh 4 [] [] (0<1/\Bk.fz (knM (alB A) ks)=Ab/\zT (Az (AA (AB Ak) "uint32" 1 4 Ab 4 4 (Ai (Aj Ak (0:Int))) Ac #[])) (Aj Ak (s:Int))=Ac/\AR (Ae u32V ks) (zT (Az (AA (AB Ak) "uint32" 1 4 Ab 4 4 (Ai (Aj Ak (0:Int))) Ac #[])))=Ac/\¬1∈[]) ⟨(by omega),?_⟩ ?_)))))))))))))))));rotate_left;refine vb 1 (mput (knM (alB A) ks) (Ae u32V ks) (Aj Ak (s:Int)) (bD b)) (knM (alB A) (ks++[s])) (hd:=by simp(disch:=omega) only[hmp]) (veT (zB (zA rfl (veT (zJ (zAj (True) [Ao (Value.bool b)] (.inr rfl) ?_))))));rotate_left
 ·exact⟨rfl,fits_u _⟩
 ·exact⟨rfl,rfl,fits_u _,by decide⟩
 exact⟨by kernel_rfl,by kernel_rfl⟩
set_option maxHeartbeats 2000000 in
theorem indexA_a(ks sets:List Nat)(hb:sets.length<=100000000)(hs:∀s∈sets,s<4294967296):∃z:Int,((z=-1/\sets.find? (alB A)=As)\/∃p:Nat,p<sets.length/\z=p/\sets.find? (alB A)=Ai (sets.getD p 0))/\Acts Al 77 [.row (sets.map u32D) sets.length,alF] (kS A (alB A) ks) [] (iD z) (kS A (alB A) (idxK (alB A) sets ks)):=by
 rcases fst_or (alB A) sets with⟨p,p1,p2,p3⟩|hno
 ·obtain⟨f1,f2⟩:=find_aa p1 p2 p3;refine⟨p, .inr ⟨p,p1,rfl,f1⟩,?_⟩;unfold idxK;rw[f2];simp only;clear f1 f2;refine zAk (zEh 3 λf=>f==55) mixed Tryz.func77 rfl (λk hk=>decide_eq_true hk)<|zB<|zA rfl<|v0s<|veT<|zB<|zB<|zA rfl<|veT<|zF<|zS (λ(i:Nat)=>fr 19 [(0,Ad (Ae u32D sets)<|Aa sets),(1,alF),(7,iD (Aa sets:Int)),(8,iD (i:Int))]) (λ(i:Nat)=>kS A (alB A) (zC7 ks<|sets.take i)) (λ(i:Nat)=>p-i) (λ(i:Nat)=>i<=p) 0 ?_ ?_ ?_
  ·omega
  ·refine vk 3 ?_;exact twcK
  rintro i h1;have hx:=zCb sets i (by omega);have hne:sets.map u32D≠[]:=zAb;have hm:=zHz h (zC7 ks (sets.take i)) (sets.getD i 0) (zE3 hs (by omega));rw[<-zF6,<-zDb sets i (by omega)]at hm;rcases AL i p with h2|h2
  ·rw[p3 i h2]at hm;generalize sets.getD i 0=s at*;refine zB<|zA rfl<|v0s<|veT<|zB<|vT ((i:Int)<(Aa sets:Int))<|zK<|zC<|zD<|zB<|zF<|zB<|zA rfl<|veT<|zB<|zA rfl<|vr 4 (ix (i:Int) (Aa sets:Int) (Ae u32D sets≠[]))<|vp 14 (i) (Ae u32D sets)<|vr 1 (0<Aa (Ag i<|Ae u32D sets))<|vsh 15 hx<|vnt [aaK A,knM (alB A)<|zC7 ks<|Au i sets,knB]<|zAx [] [] [dig s,Ah 2 0,Ah 0 0] [dig s,Ah 2 0,Ah 0 0] (AF _) (by exact hm) ?_;refine v0s<|veT<|vf<|zK<|zE<|zC<|zD<|zA rfl<|vr 2 (i6 ((i:Int)+(1:Int)))<|vnil<|zC<|⟨i+1,by omega,by omega,?_⟩;refine vk 3 ?_;exact twcK
  obtain rfl:i=p:=by omega
  rw[p2]at hm;generalize sets.getD i 0=s at*;refine zB<|zA rfl<|v0s<|veT<|zB<|vT ((i:Int)<(Aa sets:Int))<|zK<|zC<|zD<|zB<|zF<|zB<|zA rfl<|veT<|zB<|zA rfl<|vr 4 (ix (i:Int) (Aa sets:Int) (Ae u32D sets≠[]))<|vp 14 (i) (Ae u32D sets)<|vr 1 (0<Aa (Ag i<|Ae u32D sets))<|vsh 15 hx<|vnt [aaK A,knM (alB A)<|zC7 ks<|Au i sets,knB]<|zAx [] [] [dig s,Ah 2 0,Ah 0 0] [dig s,Ah 2 0,Ah 0 0] (AF _) (by exact hm) ?_;refine v0s<|veT<|vt<|zB<|zA rfl<|veT<|zJ<|zN<|zH<|zH<|zN<|zH<|zAj (True) [Ao<|Aj Aq (i:Int)] (.inr rfl) ?_;exact⟨by kernel_rfl,by kernel_rfl⟩
 obtain⟨f1,f2⟩:=find_nn hno;refine⟨-1, .inl ⟨rfl,f1⟩,?_⟩;unfold idxK;rw[f2];simp only;clear f1 f2;refine zAk (zEh 3 λf=>f==55) mixed Tryz.func77 rfl (λk hk=>decide_eq_true hk)<|zB<|zA rfl<|v0s<|veT<|zB<|zB<|zA rfl<|veT<|zF<|zS (λ(i:Nat)=>fr 19 [(0,Ad (Ae u32D sets)<|Aa sets),(1,alF),(7,iD (Aa sets:Int)),(8,iD (i:Int))]) (λ(i:Nat)=>kS A (alB A) (zC7 ks<|sets.take i)) (λ(i:Nat)=>sets.length-i) (λ(i:Nat)=>i<=sets.length) 0 ?_ ?_ ?_
 ·omega
 ·refine vk 3 ?_;exact twcK
 rintro i h1;rcases AL i sets.length with h2|h2
 ·have hx:=zCb sets i h2;have hne:sets.map u32D≠[]:=zAb;have hm:=zHz h (zC7 ks (sets.take i)) (sets.getD i 0) (zE3 hs h2);rw[<-zF6,<-zDb sets i h2]at hm;rw[hno i h2]at hm;generalize sets.getD i 0=s at*;refine zB<|zA rfl<|v0s<|veT<|zB<|vT ((i:Int)<(Aa sets:Int))<|zK<|zC<|zD<|zB<|zF<|zB<|zA rfl<|veT<|zB<|zA rfl<|vr 4 (ix (i:Int) (Aa sets:Int) (Ae u32D sets≠[]))<|vp 14 (i) (Ae u32D sets)<|vr 1 (0<Aa (Ag i<|Ae u32D sets))<|vsh 15 hx<|vnt [aaK A,knM (alB A)<|zC7 ks<|Au i sets,knB]<|zAx [] [] [dig s,Ah 2 0,Ah 0 0] [dig s,Ah 2 0,Ah 0 0] (AF _) (by exact hm) ?_;refine v0s<|veT<|vf<|zK<|zE<|zC<|zD<|zA rfl<|vr 2 (i6 ((i:Int)+(1:Int)))<|vnil<|zC<|⟨i+1,by omega,by omega,?_⟩;refine vk 3 ?_;exact twcK
 obtain rfl:i=sets.length:=by omega
 rw[Ba];refine zB<|zA rfl<|v0s<|veT<|zB<|vF ((Aa sets:Int)<(Aa sets:Int))<|zV<|zM<|zM<|zQ rfl<|zC<|zD<|zB<|zA rfl<|veT<|zJ<|zAj (True) [Ao<|Aj Aq (-1:Int)] (.inr rfl) ?_;exact⟨by kernel_rfl,by kernel_rfl⟩
set_option maxHeartbeats 8000000 in
theorem zTp(part:Nat)(hp:part<1024):∃r,zJ8 (alB A) part (part+2) [0]=Ai r/\∀ks,∃ks',Acts Al 57 [u32D part,alF] (kS A (alB A) ks) [] (.row (r.map u32D) r.length) (kS A (alB A) ks'):=by
 obtain⟨r,hr,_⟩:=zL4 (part+2) [] [0] (zEe (alB A) part) (by show part+1-0<part+2;omega);refine⟨r,hr,λks0=>?_⟩;obtain⟨ks',hk⟩:=zXh (part+2) [0] ks0 hr;refine⟨ks',?_⟩;refine zAk (zEh 3 λf=>f==55||f==77) mixed Tryz.func57 rfl (λk hk=>decide_eq_true hk)<|zB<|zA rfl<|v0s<|veT<|zB<|zA rfl<|ve ((1=1/\1<=1/\True)/\0<1/\1=1/\1<=16777216/\1<=9223372036854775807)<|zF<|zBh (λ(k:Nat)(sets:List Nat)(ks:List Nat)=>fr 48 [(0,u32D part),(1,alF),(5,Ad (Ae u32D sets)<|Aa sets)]) (λ(k:Nat)(sets:List Nat)(ks:List Nat)=>kS A (alB A) ks) (λk sets ks=>k) (λ(k:Nat)(sets:List Nat)(ks:List Nat)=>confK (alB A) part k sets ks=Ai (r,ks')/\∃Cs,Cnf (alB A) part Cs sets/\sets.Nodup) (part+2) [0] ks0 ?_ ?_ ?_
 ·exact⟨hk,[],zEe (alB A) part,by simp⟩
 ·refine wkn (fr 48 [(0,u32D part),(1,alF),(4,nl),(5,AC 3 0 1 1 Ac)]) [aaK A,knM (alB A) ks0,knB,Aw [Ao (Aj Ak (0:Int))] 97 1 Ac Ab AH] ?_;refine(Weak.frzSlot (s:=5) (d:= .osl 3 0 1 1 Ac) (x:= .row [u32D 0] 1) (ks:=[3]) (by kernel_rfl) rfl).trans ?_;refine vk 3 ?_;exact twcK
 rintro k sets ks ⟨hJ,Cs,hC,hnd⟩;obtain⟨k,rfl⟩:∃k',k=k'+1:=by
  cases k with
  |zero=>cases hJ
  |succ k=>exact⟨k,rfl⟩
 unfold confK at hJ;have hlen:=cnf_few hC hnd;have hlt:∀s∈sets,s<4294967296:=λs hs=>by have:=sub_le (hC.sub s hs);omega
 obtain⟨z,hz,hix⟩:=indexA_a h ks sets (by omega) hlt;generalize idxK (alB A) sets ks=ks1 at*;rcases hz with⟨rfl,hf⟩|⟨p,p1,rfl,hf⟩
 ·rw[hf]at hJ;injection hJ with hJ;injection hJ with e1 e2;subst e1;subst e2;refine zF<|zB<|zA rfl<|v0s<|vrT 2<|vnt [aaK A,knM (alB A) ks,knB]<|zAx [] [] [Ad (Ae u32D sets)<|Aa sets,D.clo (Fn.func 55) [] [Ah 2 0,Ah 0 0]] [Ad (Ae u32D sets)<|Aa sets,D.clo (Fn.func 55) [] [Ah 2 0,Ah 0 0]] (AF _) (by exact hix) ?_;refine v0s<|veT<|zB<|zB<|zA rfl<|veT<|vt<|zB<|zA rfl<|veT<|zJ<|zH<|zN<|zH<|zN ?_;refine zAj (True) [Ad (Ae u32D sets)<|Aa sets] (.inr rfl) ?_;exact⟨by kernel_rfl,by kernel_rfl⟩
 rw[hf]at hJ;have hx:=zCb sets p p1;have hne:sets.map u32D≠[]:=zAb;have hmem:sets.getD p 0∈sets:=List.mem_of_find?_eq_some hf;have hsub:=hC.sub _ hmem;have hcs:=zKl hC hmem;generalize sets.getD p 0=s at*;simp only at hJ;have hsp:=sub_le hsub;refine zF<|zB<|zA rfl<|v0s<|vrT 2<|vnt [aaK A,knM (alB A) ks,knB]<|zAx [] [] [Ad (Ae u32D sets)<|Aa sets,D.clo (Fn.func 55) [] [Ah 2 0,Ah 0 0]] [Ad (Ae u32D sets)<|Aa sets,D.clo (Fn.func 55) [] [Ah 2 0,Ah 0 0]] (AF _) (by exact hix) ?_;refine v0s<|veT<|zB<|zB<|zA rfl<|veT<|vF ((p:Int)<0)<|zK<|zC<|zD<|zB<|zA rfl<|vr 3 (ix (p:Int) (Aa sets:Int) (Ae u32D sets≠[]))<|vp 19 (p) (Ae u32D sets)<|vr 1 (0<Aa (Ag p<|Ae u32D sets))<|vsh 20 hx<|veT<|zB<|zB<|zA rfl<|veT<|zF<|zBh (λ(i:Nat)(w:Nat)(kk:List Nat)=>fr 48 [(0,u32D part),(1,alF),(5,Ad (Ae u32D sets)<|Aa sets),(7,u32D w),(21,iD (i:Int))]) (λ(i:Nat)(w:Nat)(kk:List Nat)=>kS A (alB A) kk) (λi w kk=>32-i) (λ(i:Nat)(w:Nat)(kk:List Nat)=>i<=32/\zLt (alB A) part (AM i) (s,ks1)=(w,kk)) 0 s ks1 ?_ ?_ ?_
 ·exact⟨by omega,rfl⟩
 ·refine vk 3 ?_;exact twcK
 rintro i w kk ⟨i1,i2⟩;have hw1:=zW7 (al:=alB A) (part:=part) (AM i) (s,ks1);rw[i2]at hw1;have hw1:w=zEd (alB A) part (AM i) s:=hw1;have hwp:w<=part:=by rw[hw1];exact sub_le (zHs _ _ hsub)
 rcases AL i 32 with i3|i3
 ·have hsn:=zTb (alB A) part (AM i) (s,ks1) i;rw[<-List.range_succ,i2]at hsn;unfold gstep at hsn;simp only at hsn;have hpw:=zF3 i3;have v1:=zEp i3;have v2:=zMf (a:=part) (b:=2^i) (by omega) hpw;have v3:part&&&2^i<=part:=Nat.and_le_left;have v4:=zAs (n:=part&&&2^i) (by omega);have v5:=an_eq (a:=part&&&2^i) (b:=w) (d:=dif (part&&&2^i) w) (by omega) (by omega) λj=>zBo _ _ j;have v6:=dif_le (part&&&2^i) w;have v7:=zAs (n:=dif (part&&&2^i) w) (by omega);generalize dif (part&&&2^i) w=d at*;by_cases hd:d=0
  ·have v8:(((d:Nat):Int)!=0)=false:=by rw[hd];rfl
   rw[if_pos hd]at hsn;refine zB<|zA rfl<|v0s<|veT<|zB<|vT ((i:Int)<(32:Int))<|zK<|zC<|zD<|zB<|zF<|zB<|zA rfl<|veT<|zB<|zA rfl<|vr 3 ((0:Int)<=(i:Int))<|vs 26 (Ao<|Aj Ak<|AG Ak ((1:Int)*(2:Int)^min (Av (i:Int)) 32)) (dig ((2:Nat)^i)) (hd:=by simp(disch:=omega) only[AD,v1])<|vrT 1<|vs 27 (Ao<|Aj Ak<|AG Ak (↑(AN (Ax 32 (part:Int)&&&Ax 32 (↑((2:Nat)^i):Int))):Int)) (dig (part&&&(2:Nat)^i)) (hd:=by simp(disch:=omega) only[v4,v2])<|vrT 2<|vs 29 (Ao<|Aj Ak<|AG Ak (↑(AN (Ax 32 (↑(part&&&(2:Nat)^i):Int)&&&~~~Ax 32 (w:Int))):Int)) (dig d) (hd:=by simp(disch:=omega) only[v5,v7])<|veT<|zB<|zA rfl<|vrT 2<|vs 31 (bD ((d:Int)!=(0:Int))) (bD Ab) (hd:=by simp(disch:=omega) only[v8])<|veT<|vf<|zK<|zE<|zC<|zD<|zA rfl<|vr 2 (i6 ((i:Int)+(1:Int)))<|vnil<|zC<|⟨i+1,w,kk,⟨by omega,hsn⟩,by omega,?_⟩;refine vk 3 ?_;exact twcK
  have v8:(((d:Nat):Int)!=0)=true:=by rw[bne_iff_ne];omega
  rw[if_neg hd]at hsn;have u1:=zMo (a:=w) (b:=d) (by omega) (by omega);have u2:=zLe (a:=w) (b:=d) (by omega) (by omega);have u3:=zAs u2;have hal:=zHz h kk (w|||d) u2;cases hb:alB A (w|||d)
  ·rw[hb]at hal hsn;rw[if_neg (by decide)]at hsn;refine zB<|zA rfl<|v0s<|veT<|zB<|vT ((i:Int)<(32:Int))<|zK<|zC<|zD<|zB<|zF<|zB<|zA rfl<|veT<|zB<|zA rfl<|vr 3 ((0:Int)<=(i:Int))<|vs 26 (Ao<|Aj Ak<|AG Ak ((1:Int)*(2:Int)^min (Av (i:Int)) 32)) (dig ((2:Nat)^i)) (hd:=by simp(disch:=omega) only[AD,v1])<|vrT 1<|vs 27 (Ao<|Aj Ak<|AG Ak (↑(AN (Ax 32 (part:Int)&&&Ax 32 (↑((2:Nat)^i):Int))):Int)) (dig (part&&&(2:Nat)^i)) (hd:=by simp(disch:=omega) only[v2,v4])<|vrT 2<|vs 29 (Ao<|Aj Ak<|AG Ak (↑(AN (Ax 32 (↑(part&&&(2:Nat)^i):Int)&&&~~~Ax 32 (w:Int))):Int)) (dig d) (hd:=by simp(disch:=omega) only[v7,v5])<|veT<|zB<|zA rfl<|vrT 2<|vs 31 (bD ((d:Int)!=(0:Int))) (bD Ac) (hd:=by simp(disch:=omega) only[v8])<|vrT 5<|vs 36 (Ao<|Aj Ak<|AG Ak (↑(AN (Ax 32 (w:Int)|||Ax 32 (d:Int))):Int)) (dig (w|||d)) (hd:=by simp(disch:=omega) only[u3,u1])<|vnt [aaK A,knM (alB A) kk,knB]<|zAx [] [] [dig (w|||d),Ah 2 0,Ah 0 0] [dig (w|||d),Ah 2 0,Ah 0 0] (AF _) (by exact hal) ?_;refine v0s<|veT<|vf<|zK<|zE<|zC<|zD<|zA rfl<|vr 2 (i6 ((i:Int)+(1:Int)))<|vnil<|zC<|⟨i+1,w,kput kk (w|||d),⟨by omega,hsn⟩,by omega,?_⟩;refine vk 3 ?_;exact twcK
  rw[hb]at hal hsn;rw[if_pos rfl]at hsn;refine zB<|zA rfl<|v0s<|veT<|zB<|vT ((i:Int)<(32:Int))<|zK<|zC<|zD<|zB<|zF<|zB<|zA rfl<|veT<|zB<|zA rfl<|vr 3 ((0:Int)<=(i:Int))<|vs 26 (Ao<|Aj Ak<|AG Ak ((1:Int)*(2:Int)^min (Av (i:Int)) 32)) (dig ((2:Nat)^i)) (hd:=by simp(disch:=omega) only[AD,v1])<|vrT 1<|vs 27 (Ao<|Aj Ak<|AG Ak (↑(AN (Ax 32 (part:Int)&&&Ax 32 (↑((2:Nat)^i):Int))):Int)) (dig (part&&&(2:Nat)^i)) (hd:=by simp(disch:=omega) only[v4,v2])<|vrT 2<|vs 29 (Ao<|Aj Ak<|AG Ak (↑(AN (Ax 32 (↑(part&&&(2:Nat)^i):Int)&&&~~~Ax 32 (w:Int))):Int)) (dig d) (hd:=by simp(disch:=omega) only[v5,v7])<|veT<|zB<|zA rfl<|vrT 2<|vs 31 (bD ((d:Int)!=(0:Int))) (bD Ac) (hd:=by simp(disch:=omega) only[v8])<|vrT 5<|vs 36 (Ao<|Aj Ak<|AG Ak (↑(AN (Ax 32 (w:Int)|||Ax 32 (d:Int))):Int)) (dig (w|||d)) (hd:=by simp(disch:=omega) only[u1,u3])<|vnt [aaK A,knM (alB A) kk,knB]<|zAx [] [] [dig (w|||d),Ah 2 0,Ah 0 0] [dig (w|||d),Ah 2 0,Ah 0 0] (AF _) (by exact hal) ?_;refine v0s<|veT<|vt<|zA rfl<|vrT 3<|vs 41 (Ao<|Aj Ak<|AG Ak (↑(AN (Ax 32 (w:Int)|||Ax 32 (d:Int))):Int)) (dig (w|||d)) (hd:=by simp(disch:=omega) only[u1,u3])<|vrT 1<|vnil<|zE<|zC<|zD<|zA rfl<|vr 2 (i6 ((i:Int)+(1:Int)))<|vnil<|zC<|⟨i+1,w|||d,kput kk (w|||d),⟨by omega,hsn⟩,by omega,?_⟩;refine vk 3 ?_;exact twcK
 obtain rfl:i=32:=by omega
 rw[i2,<-hw1]at hJ;rw[<-hw1]at hcs;simp only at hJ;have v5:=an_eq (a:=part) (b:=w) (d:=dif part w) (by omega) (by omega) λj=>zBo _ _ j;have v6:=dif_le part w;have v7:=zAs (n:=dif part w) (by omega);have hmt:=meeting_c sets (dif part w) (by omega) hlt (by omega);have hnd2:=meet_nd (dif part w) hnd;generalize zDq sets (dif part w)=sets2 at*;refine zB<|zA rfl<|v0s<|veT<|zB<|vf<|zV<|zM<|zM<|zQ rfl<|zC<|zD<|zA rfl<|vrT 4<|vs 46 (Ao<|Aj Ak<|AG Ak (↑(AN (Ax 32 (part:Int)&&&~~~Ax 32 (w:Int))):Int)) (dig<|dif part w) (hd:=by simp(disch:=omega) only[v5,v7])<|vc (hmt)<|vrT 1<|vnil<|zE<|zC<|⟨k,sets2,kk,⟨hJ,_,hcs,hnd2⟩,by omega,?_⟩;refine vk 3 ?_;exact twcK
end
def bestD:Option (List Int)->D
 |none=>nl0
 |some l=> .row (itsD l) l.length
abbrev resD(o:Option (List Int)):D:= .row (itsD (o.getD [])) (o.getD []).length
set_option maxHeartbeats 8000000 in
theorem firstC_c{A:List (List Nat×List Rw)}(h:AtW A):Pure Al 35 [.row (A.flatMap atN) A.length] [] (resD (zP0 A)):=by
 have hl5:=h.l;obtain⟨hp1,hp2,hp3⟩:=zQ2 A;have hp32:∀P∈zDn A,P<32:=λP hP=>by
  have h3:=sub_le (hp1 P hP).2;have h4:2^A.length<=2^5:=Nat.pow_le_pow_right (by omega) hl5
  have:=Nat.two_pow_pos A.length
  omega
 have hco:=comps_c A h;obtain⟨o,ho⟩:∃o,o=zP0 A:=⟨_,rfl⟩;have hob:(((zDn A).flatMap (cflA A)).map memL).foldl bstS As=o:=ho.symm;rw[<-ho];clear ho hp1 hp2;generalize zDn A=ps at*;refine zG (zEh 0 λf=>f==55||f==57) mixed Tryz.func35 rfl<|zB<|zA rfl<|v0s<|veT<|zB<|zA rfl<|ve (True/\Ab=Ab/\Ac=Ac/\1=1/\1<=1)<|zB<|zA rfl<|veT<|zB<|zA rfl<|veT<|zB<|zB<|zA rfl<|vr 1 (0<1)<|vc (hco)<|veT<|zF<|zBh (λ(i:Nat)(o:Option (List Int))(ks:List Nat)=>fr 45 [(2,nl),(4,D.clo (Fn.func 55) [] [Ah 2 0,Ah 0 0]),(5,bestD o),(14,Ad (Ae u32D ps)<|Aa ps),(15,iD (Aa ps:Int)),(16,iD (i:Int))]) (λ(i:Nat)(o:Option (List Int))(ks:List Nat)=>kS A (alB A) ks) (λi o ks=>ps.length-i) (λ(i:Nat)(o:Option (List Int))(ks:List Nat)=>i<=ps.length/\o=(((ps.take i).flatMap (cflA A)).map memL).foldl bstS As) 0 As [] ?_ ?_ ?_
 ·exact⟨by omega,rfl⟩
 ·refine vk 3
 rintro i u ks ⟨i1,i2⟩;rcases AL i ps.length with i3|i3;case inr=>
  rw[AS i3,hob]at i2;subst i2;rcases u with _|l0
  ·refine zB<|zA rfl<|v0s<|veT<|zB<|vF ((i:Int)<(Aa ps:Int))<|zV<|zM<|zM<|zQ rfl<|zC<|zD<|zB<|zA rfl<|veT<|zJ<|vret (True)<|.inr rfl
  refine zB<|zA rfl<|v0s<|veT<|zB<|vF ((i:Int)<(Aa ps:Int))<|zV<|zM<|zM<|zQ rfl<|zC<|zD<|zB<|zA rfl<|veT<|zJ<|vret (True)<|.inr rfl
 have hx:=zCb ps i i3;have hne:ps.map u32D≠[]:=zAb;have hP:=zE3 hp32 i3;have hsu:(((ps.take (i+1)).flatMap (cflA A)).map memL).foldl bstS As=((cflA A (ps.getD i 0)).map memL).foldl bstS u:=by
  rw[zDb ps i i3,List.flatMap_append,List.map_append,List.foldl_append,<-i2,List.flatMap_singleton]
 have hune:∀b,u=Ai b->0<b.length/\b.length<=32:=λb hb=>by
  rw[i2]at hb;have hall:∀x∈((ps.take i).flatMap (cflA A)).map memL,0<x.length:=λx hx=>by
   obtain⟨s,hs,rfl⟩:=AP.1 hx;obtain⟨P,hP,hs⟩:=List.mem_flatMap.1 hs;have hP:=hp32 P (List.mem_of_mem_take hP)
   have:=cfl_ok A (P:=P) (by omega) hs
   exact memL_ne this.1 this.2
  exact⟨bst_ne _ As hall (λb hb=>by cases hb) b hb,zT3 _ As (λx hx=>by
   obtain⟨s,hs,rfl⟩:=AP.1 hx;exact zPc s) (λb hb=>by cases hb) b hb⟩
 have hcf:=λs=>cfl_ok A (P:=ps.getD i 0) (by omega) (s:=s);have hcd:alB A (ps.getD i 0)=Ac->cflA A (ps.getD i 0)=[]:=λhh=>by
  unfold cflA;rw[if_pos hh]
 have hcd2:alB A (ps.getD i 0)=Ab->cflA A (ps.getD i 0)=(zJ8 (alB A) (ps.getD i 0) (ps.getD i 0+2) [0]).getD []:=λhh=>by
  unfold cflA;rw[if_neg (by rw[hh];decide)]
 generalize ps.getD i 0=P at*;have hal:=zHz h ks P (by omega);cases hb:alB A P;case true=>
  rw[hb]at hal;rw[hcd hb]at hsu;refine zB<|zA rfl<|v0s<|veT<|zB<|vT ((i:Int)<(Aa ps:Int))<|zK<|zC<|zD<|zB<|zF<|zB<|zA rfl<|vr 1 (ix (i:Int) (Aa ps:Int) (Ae u32D ps≠[]))<|vp 18 (i) (Ae u32D ps)<|vr 1 (0<Aa (Ag i<|Ae u32D ps))<|vsh 19 hx<|veT<|zB<|zB<|zA rfl<|vrT 2<|vnt [aaK A,knM (alB A) ks,knB]<|zAx [] [] [dig P,Ah 2 0,Ah 0 0] [dig P,Ah 2 0,Ah 0 0] (AF _) (by exact hal) ?_;refine v0s<|veT<|vt<|zV<|zM<|zQ rfl<|zC<|zD<|zA rfl<|vr 2 (i6 ((i:Int)+(1:Int)))<|vnil<|zC<|⟨i+1,u,kput ks P,⟨by omega,hsu.symm⟩,by omega,?_⟩;rcases u with _|b0
  ·refine vk 3
  refine vk 3
 rw[hb]at hal;obtain⟨r,hr,hcn⟩:=zTp h P (by omega);obtain⟨ks2,hcn⟩:=hcn (kput ks P);rw[hcd2 hb,hr]at hsu hcf;have hsu:(((ps.take (i+1)).flatMap (cflA A)).map memL).foldl bstS As=(r.map memL).foldl bstS u:=hsu;have hcf:∀s,s∈r->s<2^32/\s≠0:=hcf;have hrl:=zXg (P+2) [] [0] r (zEe (alB A) P) (by simp) hr;clear hcd hcd2 hr;refine zB<|zA rfl<|v0s<|veT<|zB<|vT ((i:Int)<(Aa ps:Int))<|zK<|zC<|zD<|zB<|zF<|zB<|zA rfl<|vr 1 (ix (i:Int) (Aa ps:Int) (Ae u32D ps≠[]))<|vp 18 (i) (Ae u32D ps)<|vr 1 (0<Aa (Ag i<|Ae u32D ps))<|vsh 19 hx<|veT<|zB<|zB<|zA rfl<|vrT 2<|vnt [aaK A,knM (alB A) ks,knB]<|zAx [] [] [dig P,Ah 2 0,Ah 0 0] [dig P,Ah 2 0,Ah 0 0] (AF _) (by exact hal) ?_;refine v0s<|veT<|vf<|zK<|zC<|zD<|zB<|zA rfl<|vrT 2<|vnt [Aw [Ad (Af atN A)<|Aa A] 30 0 Ab Ab AH,Aw (Ae (λ(s:Nat)=>bD (alB A s))<|kput ks P) 110 0 Ac Ab<|Kd.map<|Ae u32V<|kput ks P,Aw [D.mref 1] 110 0 Ab Ab AH]<|zAx [] [] [dig P,D.clo (Fn.func 55) [] [Ah 2 0,Ah 0 0]] [dig P,D.clo (Fn.func 55) [] [Ah 2 0,Ah 0 0]] (AF _) (by exact hcn) ?_;refine v0s<|veT<|zF<|zAw (λ(j:Nat)(v:Option (List Int))=>fr 45 [(2,nl),(4,D.clo (Fn.func 55) [] [Ah 2 0,Ah 0 0]),(5,bestD v),(14,Ad (Ae u32D ps)<|Aa ps),(15,iD (Aa ps:Int)),(16,iD (i:Int)),(25,Ad (Ae u32D r)<|Aa r),(26,iD (Aa r:Int)),(27,iD (j:Int))]) (λ(j:Nat)(v:Option (List Int))=>kS A (alB A) ks2) (λj v=>r.length-j) (λ(j:Nat)(v:Option (List Int))=>j<=r.length/\v=((r.take j).map memL).foldl bstS u) 0 u ?_ ?_ ?_
 ·exact⟨by omega,rfl⟩
 ·rcases u with _|b0
  ·refine vk 3
  refine vk 3
 rintro j v ⟨j1,j2⟩;rcases AL j r.length with j3|j3
 ·have hx:=zCb r j j3;have hne:r.map u32D≠[]:=zAb;have hst:((r.take (j+1)).map memL).foldl bstS u=bstS v (memL (r.getD j 0)):=by
   rw[zDb r j j3,List.map_append,List.foldl_append,<-j2];rfl
  have hvne:∀b,v=Ai b->0<b.length/\b.length<=32:=λb hb=>by
   rw[j2]at hb;exact⟨bst_ne _ u (λx hx=>by
    obtain⟨s,hs,rfl⟩:=AP.1 hx
    have:=hcf s (List.mem_of_mem_take hs)
    exact memL_ne this.1 this.2) (λb hb=>(hune b hb).1) b hb,zT3 _ u (λx hx=>by
    obtain⟨s,hs,rfl⟩:=AP.1 hx;exact zPc s) (λb hb=>(hune b hb).2) b hb⟩
  have hs:=hcf (r.getD j 0) (zAf r 0 j j3);have hme:=wmem_c (r.getD j 0) (by omega);have hml:=zPc (r.getD j 0);generalize memL (r.getD j 0)=l at*;generalize r.getD j 0=s at*;cases v with
  |none=>
   refine zB<|zA rfl<|v0s<|veT<|zB<|vT ((j:Int)<(Aa r:Int))<|zK<|zC<|zD<|zB<|zF<|zB<|zA rfl<|vr 1 (ix (j:Int) (Aa r:Int) (Ae u32D r≠[]))<|vp 29 (j) (Ae u32D r)<|vr 1 (0<Aa (Ag j<|Ae u32D r))<|vsh 30 hx<|veT<|zB<|zA rfl<|vrT 1<|vc (hme)<|veT<|zB<|zA rfl<|veT<|vt<|zA rfl<|vrT 2<|vnil<|zE<|zC<|zD<|zA rfl<|vr 2 (i6 ((j:Int)+(1:Int)))<|vnil<|zC<|⟨j+1,Ai l,⟨by omega,hst.symm⟩,by omega,?_⟩;refine vk 3
  | some b=>
   obtain⟨b1,b2⟩:=hvne b rfl;have hcm:=scmp_cY l b l.length b.length rfl rfl (by omega) (by omega);have hst:((r.take (j+1)).map memL).foldl bstS u=if lcmp l b<0 then Ai l else Ai b:=hst
   generalize lcmp l b=z at*;by_cases hz:z<0
   ·rw[if_pos hz]at hst;refine zB<|zA rfl<|v0s<|veT<|zB<|vT ((j:Int)<(Aa r:Int))<|zK<|zC<|zD<|zB<|zF<|zB<|zA rfl<|vr 1 (ix (j:Int) (Aa r:Int) (Ae u32D r≠[]))<|vp 29 (j) (Ae u32D r)<|vr 1 (0<Aa (Ag j<|Ae u32D r))<|vsh 30 hx<|veT<|zB<|zA rfl<|vrT 1<|vc (hme)<|veT<|zB<|zA rfl<|vr 5 (0<Aa b)<|vc (hcm)<|veT<|vT (z<0)<|zA rfl<|vrT 2<|vnil<|zE<|zC<|zD<|zA rfl<|vr 2 (i6 ((j:Int)+(1:Int)))<|vnil<|zC<|⟨j+1,Ai l,⟨by omega,hst.symm⟩,by omega,?_⟩;refine vk 3
   rw[if_neg hz]at hst;refine zB<|zA rfl<|v0s<|veT<|zB<|vT ((j:Int)<(Aa r:Int))<|zK<|zC<|zD<|zB<|zF<|zB<|zA rfl<|vr 1 (ix (j:Int) (Aa r:Int) (Ae u32D r≠[]))<|vp 29 (j) (Ae u32D r)<|vr 1 (0<Aa (Ag j<|Ae u32D r))<|vsh 30 hx<|veT<|zB<|zA rfl<|vrT 1<|vc (hme)<|veT<|zB<|zA rfl<|vr 5 (0<Aa b)<|vc (hcm)<|veT<|vF (z<0)<|zK<|zE<|zC<|zD<|zA rfl<|vr 2 (i6 ((j:Int)+(1:Int)))<|vnil<|zC<|⟨j+1,Ai b,⟨by omega,hst.symm⟩,by omega,?_⟩;refine vk 3
 obtain rfl:j=r.length:=by omega
 rw[Ba]at j2;refine zB<|zA rfl<|v0s<|veT<|zB<|vF ((Aa r:Int)<(Aa r:Int))<|zV<|zM<|zM<|zQ rfl<|zE<|zC<|zD<|zA rfl<|vr 2 (i6 ((i:Int)+(1:Int)))<|vnil<|zC<|⟨i+1,v,ks2,⟨by omega,by rw[j2,hsu]⟩,by omega,?_⟩;rcases v with _|b0
 ·refine vk 3
 refine vk 3
section
variable (n : Nat) (z1 : Int) (cs2 cs3 : List D) (m2 m3 : Nat) (A : List (List Nat × List Rw)) (r : Rw)
set_option maxHeartbeats 4000000 in
theorem wn_c(h:AtOk n A)(hr:r.length<=n)(k:Nat)(hk:k<=r.length)(hz:(k:Int)-1≠z1)(hck:Pure Al 33 [.agg (inpA (iD (n:Nat)) (iD z1) (.row cs2 m2) (.row cs3 m3) A),rowV r] [] (iD 0))(hlv:Pure Al 34 [.agg (inpA (iD (n:Nat)) (iD z1) (.row cs2 m2) (.row cs3 m3) A),rowV r] [] (iD ((k:Int)-1))):Pure Al 10 [.agg (inpA (iD (n:Nat)) (iD z1) (.row cs2 m2) (.row cs3 m3) A),rowV r] [] (.tup [.agg [iD ((k:Int)-1),resD (zP0 (A.map (zBb (r.take k))))],iD 0]):=by
 have hl5:=h.l;have hn8:=h.n8;have hpl:(r.take k).length=k:=by rw[AV];omega
 have hre:=zD3 A h.r (r.take k) (by omega);rw[show rowV (r.take k)= .row (zL (r.take k)) k by show Ad _ (r.take k).length=_;rw[hpl]]at hre;have hct:=zMb r k;have hcl:=zAp r;have hB:=(h.rest (p:=r.take k) (by omega)).w;have hBl:(A.map (zBb (r.take k))).length=A.length:=AI ..
 have hfc:=firstC_c hB;rw[hBl]at hfc;generalize A.map (zBb (r.take k))=B at*;have hk1:(k:Int)-1+1=(k:Nat):=by omega
 generalize zP0 B=o at*;refine zG zAm mixed Tryz.func10 rfl<|zB<|zA rfl<|v0s<|veT<|zB<|zB<|zA rfl<|vr 2 (5<=5)<|vc (hck)<|veT<|zB<|zA rfl<|veT<|vf<|zK<|zC<|zD<|zB<|zA rfl<|vr 2 (5<=5)<|vc (hlv)<|veT<|zB<|zB<|zA rfl<|ve (True/\0<4/\True)<|vEf ((k:Int)-(1:Int)) (z1)<|zK<|zC<|zD<|zB<|vd [0,1,3,4,5,6,2,7,8,9,10,11]<|vr 5 (True/\i6 ((k:Int)-(1:Int)+(1:Int)))<|vs 28 (iD ((k:Int)-(1:Int)+(1:Int))) (iD (k:Int)) (hd:=by simp(disch:=omega) only[hk1])<|vr 1 (True/\(0:Int)<=(k:Int)/\True/\0<3/\0<=Av (k:Int)/\Av (k:Int)<=Aa r/\Av (k:Int)=Av (k:Int))<|vs 29 (Ad (Au ((Av (k:Int)-0)*3)<|Ag 0<|zL r) (Av (k:Int)-0)) (Ad (zL<|Au k r) k) (hd:=by simp(disch:=omega) only[AD,Nat.sub_zero,AJ,hct])<|vr 1 (0<1)<|vc (hre)<|vc (hfc)<|ve (((1=1/\1<=2/\1=1/\2<=2/\True)/\Ac=Ac)/\Ab=Ab/\Ac=Ac/\2=2/\2<=2)<|zJ<|vret (2<=2)<|.inr rfl
end
theorem zGr(z:Int):Pure Al 27 [iD z] [] (vaD (nuV z)):=by
 refine zG zAm mixed Tryz.func27 rfl<|vAu<|vA<|ve (((1=1/\1<=3/\1=1/\2<=3/\True)/\Ac=Ac)/\Ab=Ab/\Ac=Ac/\3=3/\3<=3)<|zJ<|vret (3<=3)<|.inr rfl
abbrev whD:D:= .agg (inpA (iD ((3:Nat):Int)) (iD 2) (.row ([Ab,Ab].map bD) 2) (.row ([(2:Int)].map λz=>iD z) 1) whA)
theorem ex_valid:Pure Al 32 [.agg (csC whC)] [] (.tup [whD,bD Ac]):=by
 obtain⟨m,ok,h1,h2,h3,h4⟩:=valid_c whC whC_s;have hok:=h2.2 ⟨rfl,whC_e,whC_g.ck⟩;have hm:=h3 hok;rw[hok,hm,whC_g.inD,whC_A]at h4;exact h4
theorem ex_chk(r:Rw)(hr:r.length=2):Pure Al 33 [whD,rowV r] [] (iD 0):=by
 have h:=wchk_c whC whC_s (A4 _) r (by omega);rw[whC_g.inD,whC_A]at h;have e:wckE whC whC.V.length r=0:=by
  unfold wckE;rw[whC_g.ck,if_neg (by omega),hr];rfl
 rw[e]at h;exact h
theorem ex_why:Pure Al 12 [whD,rowV [nuV 1,nuV 7]] [] (.tup [.row [iD 0,rowV [nuV 1,nuV 5],iD 1,rowV [nuV 7,nuV 5]] 2,iD 0]):=by
 obtain⟨y,h1,h2,h3⟩:=why_c 3 2 _ _ 2 1 whA [nuV 1,nuV 7] zFf (by decide) (zSe.1 ex_ans) (ex_chk _ rfl);obtain rfl:=ex_fir h1 h2;exact h3
theorem ex_not1:Pure Al 10 [whD,rowV [nuV 2,nuV 7]] [] (.tup [.agg [iD 0, .row (itsD [0,1]) 2],iD 0]):=by
 have hl:=level_c 3 whA zFf 3 2 ([Ab,Ab].map bD) ([(2:Int)].map λz=>iD z) 2 1 [nuV 2,nuV 7] (by decide);rw[show[nuV 2,nuV 7].length=2 from rfl,ex_lvl1]at hl;have h:=wn_c 3 2 ([Ab,Ab].map bD) ([(2:Int)].map λz=>iD z) 2 1 whA [nuV 2,nuV 7] zFf (by decide) 1 (by decide) (by decide) (ex_chk _ rfl) hl;rw[ex_best1]at h;exact h
theorem ex_not2:Pure Al 10 [whD,rowV [nuV 1,nuV 8]] [] (.tup [.agg [iD 1, .row (itsD [1]) 1],iD 0]):=by
 have hl:=level_c 3 whA zFf 3 2 ([Ab,Ab].map bD) ([(2:Int)].map λz=>iD z) 2 1 [nuV 1,nuV 8] (by decide);rw[show[nuV 1,nuV 8].length=2 from rfl,ex_lvl2]at hl;have h:=wn_c 3 2 ([Ab,Ab].map bD) ([(2:Int)].map λz=>iD z) 2 1 whA [nuV 1,nuV 8] zFf (by decide) 2 (by decide) (by decide) (ex_chk _ rfl) hl;rw[ex_best2]at h;exact h
theorem ex_eq1:Pure Al 17 [.row [iD 0,iD 1] 2, .row [iD 0,iD 1] 2] [] (bD Ac):=zQm [0,1] [0,1] 2 2 rfl rfl (by decide) (by decide)
theorem ex_eq2:Pure Al 17 [.row [iD 1] 1, .row [iD 1] 1] [] (bD Ac):=zQm [1] [1] 1 1 rfl rfl (by decide) (by decide)
set_option maxHeartbeats 4000000 in
theorem awake50_c:Pure Al 9 [] [] (bD Ac):=by
 have h1:=ex_valid;have h2:=ex_why;have h3:=ex_not1;have h4:=ex_not2;have h5:=ex_eq1;have h6:=ex_eq2;obtain⟨X,hX⟩:∃X,X=Ad (whA.flatMap atN) 2:=⟨_,rfl⟩;refine zG zAm mixed Tryz.func9 rfl<|vAu<|vA<|vr 5 (((1=1/\1<=2/\1=1/\2<=2/\True)/\0<1/\1=1/\2<=16777216/\2<=9223372036854775807)/\((1=1/\1<=1/\True)/\0<1/\1=1/\1<=16777216/\1<=9223372036854775807)/\((1=1/\1<=2/\1=1/\2<=2/\True)/\0<1/\1=1/\2<=16777216/\2<=9223372036854775807)/\((1=1/\1<=2/\1=1/\2<=2/\True)/\0<1/\1=1/\2<=16777216/\2<=9223372036854775807)/\(1=1/\1<=2/\1=1/\2<=2/\True)/\0<1/\1=1/\2<=16777216/\2<=9223372036854775807)<|vca [iD 1] (by exact zGr _)<|vca [iD 5] (by exact zGr _)<|vr 1 ((3=3/\3<=6/\3=3/\6<=6/\True)/\0<3/\3=3/\6<=16777216/\2<=9223372036854775807)<|vca [iD 2] (by exact zGr _)<|vca [iD 6] (by exact zGr _)<|vr 2 (((3=3/\3<=6/\3=3/\6<=6/\True)/\0<3/\3=3/\6<=16777216/\2<=9223372036854775807)/\(1=1/\1<=2/\1=1/\2<=2/\True)/\0<1/\1=1/\2<=16777216/\2<=9223372036854775807)<|vca [iD 7] (by exact zGr _) ?_;refine vca [iD 5] (by exact zGr _)<|vr 4 (((3=3/\3<=6/\3=3/\6<=6/\True)/\0<3/\3=3/\6<=16777216/\2<=9223372036854775807)/\((1=1/\1<=1/\True)/\0<1/\1=1/\1<=16777216/\1<=9223372036854775807)/\((1=1/\1<=2/\1=1/\2<=2/\True)/\0<1/\1=1/\2<=16777216/\2<=9223372036854775807)/\(1=1/\1<=6/\1=1/\2<=6/\1=1/\3<=6/\1=1/\4<=6/\1=1/\5<=6/\1=1/\6<=6/\True)/\Ac=Ac)<|vc h1<|ve (0<2/\1<2/\Ab=Ab/\Ac=Ac/\5=5/\5<=5)<|zB<|vd [0,1,2,3,4,5,6,7,8,9]<|vr 1 (5<=5)<|vca [iD 1] (by exact zGr _)<|vca [iD 7] (by exact zGr _)<|vr 1 ((3=3/\3<=6/\3=3/\6<=6/\True)/\0<3/\3=3/\6<=16777216/\2<=9223372036854775807)<|vc h2<|ve (0<2/\1<2)<|zB<|vd [0,1,2,3,4,5,6,7,8,9,10]<|vr 1 (5<=5)<|vca [iD 2] (by exact zGr _)<|vca [iD 7] (by exact zGr _)<|vr 1 ((3=3/\3<=6/\3=3/\6<=6/\True)/\0<3/\3=3/\6<=16777216/\2<=9223372036854775807)<|vc h3<|ve (0<2/\1<2/\Ab=Ab/\Ac=Ac/\2=2/\2<=2)<|zB<|vd [0,1,2,3,4,5,6,7,8,9,10]<|vr 1 (5<=5)<|vca [iD 1] (by exact zGr _)<|vca [iD 8] (by exact zGr _)<|vr 1 ((3=3/\3<=6/\3=3/\6<=6/\True)/\0<3/\3=3/\6<=16777216/\2<=9223372036854775807)<|vc h4<|ve (0<2/\1<2/\Ab=Ab/\Ac=Ac/\2=2/\2<=2)<|zB<|vd [0,1,2,3,4,5,6,7,8,9,10,11,12,13,14,15,16,17,18,19,20,21,22,23,24,25,26,27,28,29,30,31,32,33,34,35,36,37,38,39,40,41,42,43,44,45,46,47,48,49,50,51,52,53,54,55,56,57,58,59,60,61,62,63,64,65]<|vr 40 (True/\True/\True/\True/\ix (1:Int) (↑(2:Nat):Int) ([iD 0,Ad [iD 1,iD 1,Ao<|Ay<|bs [],iD 1,iD 5,Ao<|Ay<|bs []] 2,iD 1,Ad [iD 1,iD 7,Ao<|Ay<|bs [],iD 1,iD 5,Ao<|Ay<|bs []] 2]≠[])/\True/\0<2/\True/\ix (1:Int) (↑(2:Nat):Int) ([iD 0,Ad [iD 1,iD 1,Ao<|Ay<|bs [],iD 1,iD 5,Ao<|Ay<|bs []] 2,iD 1,Ad [iD 1,iD 7,Ao<|Ay<|bs [],iD 1,iD 5,Ao<|Ay<|bs []] 2]≠[])/\True/\0<1/\True/\ix (1:Int) (↑(2:Nat):Int) ([iD 0,Ad [iD 1,iD 1,Ao<|Ay<|bs [],iD 1,iD 5,Ao<|Ay<|bs []] 2,iD 1,Ad [iD 1,iD 7,Ao<|Ay<|bs [],iD 1,iD 5,Ao<|Ay<|bs []] 2]≠[])/\True/\0<1/\ix (1:Int) (↑(2:Nat):Int) ([iD 1,iD 7,Ao<|Ay<|bs [],iD 1,iD 5,Ao<|Ay<|bs []]≠[])/\3<=3)<|vca [iD 5] (by exact zGr _)<|vr 11 (True/\True/\0<2/\True/\True/\0<1/\(1=1/\1<=2/\1=1/\2<=2/\True)/\0<1/\1=1/\2<=16777216/\2<=9223372036854775807)<|vc h5<|vr 10 (True/\0<2/\True/\True/\0<1/\(1=1/\1<=1/\True)/\0<1/\1=1/\1<=16777216/\1<=9223372036854775807)<|vc h6<|veT<|zJ<|vret (True)<|.inr rfl
theorem grt_sho{r:Rw}(h:grtR r=Ab):r.length<=8/\Sho r:=by
 unfold grtR at h;rw[Bool.or_eq_false_iff,decide_eq_false_iff_not,List.any_eq_false]at h;refine⟨by omega,by omega,λv hv=>?_⟩
 have:=h.2 v hv
 simp only[decide_eq_true_eq]at this;omega
abbrev inqC(n f:Nat)(desc:List Bool)(P:List Int)(x:D):List D:=[iD (n:Nat),iD (f:Nat), .row (desc.map bD) desc.length, .row (P.map λz=>iD z) P.length,x]
abbrev atsR(B:List (List Nat×List Rw)):D:= .row (B.flatMap atN) B.length
theorem icB_c(n f:Nat)(desc:List Bool)(P:List Int)(B:List (List Nat×List Rw))(hd:desc.length<=2000000)(hP:P.length<=2000000)(hB:B.length<=2000000)(hv:∀b∈B,b.1.length<=2000000):Pure Al 11 [.agg (inqC n f desc P (atsR B))] [] (iD (icE n f desc.length P (B.map toAt))):=by
 have hl:∀a∈B.map toAt,a.V.length<=2000000:=λa ha=>by
  obtain⟨b,hb,rfl⟩:=AP.1 ha;show(b.1.map _).length<=_;rw[AI];exact hv b hb
 have h:=zW2 (n:Nat) (f:Nat) desc P (B.map toAt) hd hP (by rw[AI];exact hB) hl λh0 h1=>lfAll_c _ _ h0 h1 hl;have e:inpD (n:Nat) (f:Nat) desc P (B.map toAt)= .agg (inqC n f desc P (atsR B)):=by
  show Ar [_,_,_,_, .row ((B.map toAt).flatMap atC) (B.map toAt).length]=_;rw[toAt_fl,AI]
 rw[e]at h;exact h
theorem wckB_c(n f:Nat)(desc:List Bool)(P:List Int)(X:List D)(l:Nat)(r:Rw)(hr:r.length=f)(hck:Pure Al 11 [.agg (inqC n f desc P (.row X l))] [] (iD 0)):Pure Al 33 [.agg (inqC n f desc P (.row X l)),rowV r] [] (iD 0):=by
 have h2:(((r.length:Nat):Int)!=(f:Nat))=false:=by rw[hr];exact bne_self_eq_false _
 refine zG zBs mixed Tryz.func33 rfl<|vAu<|zB<|vA<|vr 1 (5<=5)<|vc (hck)<|veT<|vAe<|vf<|vK<|zB<|vA<|vr 5 (True/\0<4/\True)<|vs 15 (bD ((Aa r:Int)!=(f:Int))) (bD Ab) (hd:=by simp(disch:=omega) only[h2])<|veT<|vf<|vK<|vAe<|zJ<|vret (True)<|.inr rfl
abbrev mvB(y:Rw)(K:List Nat):Bk:=⟨K.map λv=>vaD (y.getD v Ap),102,0,Ac,Ab, .map (K.map λv:Nat=>ivV (v:Int))⟩
theorem zWk(U:List Nat)(z:Nat):zDj (U.map λv:Nat=>ivV (v:Int)) (ivV (z:Int))=if z∈U then Ai (U.idxOf z)else none:=by
 unfold zDj;rw[List.findIdx?_map];have e:(vEq (ivV (z:Int))∘λv:Nat=>ivV (v:Int))=λx:Nat=>decide (z=x):=by
  funext x;show(((z:Nat):Int)==((x:Nat):Int))=decide (z=x);rw[Bool.eq_iff_iff,beq_iff_eq,decide_eq_true_eq];omega
 rw[e];induction U with
 |nil=>rfl
 | cons s U ih=>
  rw[List.findIdx?_cons,ih];by_cases e:z=s
  ·subst e;simp
  have e2:(s==z)=false:=by simpa using λh:s=z=>e h.symm
  simp only[e,decide_false,Bool.false_eq_true,if_false,A8,false_or,List.idxOf_cons,e2,cond_false];split<;>simp
theorem look_nv(z0:D)(y:Rw)(U:List Nat)(z:Nat):zEz Ac z0 (U.map λv:Nat=>ivV (v:Int)) (U.map λv=>vaD (y.getD v Ap)) (ivV (z:Int))= .tup [if z∈U then vaD (y.getD z Ap)else z0,bD (decide (z∈U))]:=by
 unfold zEz;rw[zWk];by_cases h:z∈U
 ·rw[if_pos h,if_pos h]
  have:=A9.2 h
  simp[ctD,AK,this,h,A_ this]
 rw[if_neg h,if_neg h];simp[ctD,h]
theorem mput_nv(y:Rw)(U:List Nat)(z:Nat):mput (mvB y U) (U.map λv:Nat=>ivV (v:Int)) (ivV (z:Int)) (vaD (y.getD z Ap))=mvB y (kput U z):=by
 unfold mput kput;rw[zWk];by_cases h:z∈U
 ·rw[if_pos h,if_pos h];have hi:=A9.2 h;show Aw ((U.map λv=>vaD (y.getD v Ap)).set (U.idxOf z) (vaD (y.getD z Ap))) _ _ _ _ _=_;have e:(U.map λv=>vaD (y.getD v Ap)).set (U.idxOf z) (vaD (y.getD z Ap))=U.map λv=>vaD (y.getD v Ap):=by
   apply List.ext_getElem?;intro i;rw[List.getElem?_set,AI];by_cases e:U.idxOf z=i
   ·subst e;rw[if_pos rfl,if_pos hi,Bb,A5 hi,Option.map_some,A_ hi]
   rw[if_neg e]
  rw[e]
 rw[if_neg h,if_neg h];simp
theorem zLx(U:List Nat):(U.map λv:Nat=>ivV (v:Int)).all (zT (.int .i64))=true:=by simp[zT]
abbrev inqB(n f:Nat)(desc:List Bool)(P:List Int)(x:D):Bk:=⟨inqC n f desc P x,32,0,Ab,Ab, .plain⟩
section
variable (n f : Nat) (desc : List Bool) (P : List Int) (B : List (List Nat × List Rw)) (y : Rw)
set_option maxHeartbeats 4000000 in
theorem agrees_a(V:List Nat)(R:List Rw)(K:List Nat)(hV:V.length<=1000)(hVy:∀v∈V,v<y.length)(hs:Rsc R)(hb:R.length<=1000000)(hL:∀x∈R,x.length<=1000000)(hm:zR y V∈R):Acts Al 50 [.agg (atN (V,R)),rowV (zR y V), .mref 1] [inqB n f desc P (atsR B),mvB y K,at1 (.row (nsD V) V.length) (.row (R.map rowV) R.length) (V.length:Nat)] [] (bD Ac) [inqB n f desc P (atsR B),mvB y (zC7 K V),at1 (.row (nsD V) V.length) (.row (R.map rowV) R.length) (V.length:Nat)]:=by
 have hpl:(zR y V).length=V.length:=AI _;have hse:=zK6 R (zR y V) (V.length:Nat) hs hb hL (by omega);rw[decide_eq_true hm]at hse;have hpr:rowV (zR y V)= .row (zL (zR y V)) V.length:=by show Ad _ (zR y V).length=_;rw[hpl]
 rw[hpr]at hse⊢;have hpg:=zMv y V;have htv:=zCh (zR y V);have hva:=zEk (zR y V);have hv3:=zDv (zR y V);rw[hpl]at htv hva hv3;generalize zR y V=x at*;generalize cntR R x=q at*;suffices key:Acts Al 50 [.agg (atN (V,R)), .row (zL x) V.length, .mref 1] [inqB n f desc P (atsR B),mvB y K,at1 (.row (nsD V) V.length) (.row (R.map rowV) R.length) (V.length:Nat)] [] (bD Ac) [inqB n f desc P (atsR B),mvB y (zC7 K V),at1 (.row (nsD V) V.length) (.row (R.map rowV) R.length) (V.length:Nat),at1 (.row (nsD V) V.length) (.row (R.map rowV) R.length) (V.length:Nat)]from Acts.cut 3 key (A4 _) rfl
 refine zAk (zEh 3 λ_=>Ab) mixed Tryz.func50 rfl (λk hk=>decide_eq_true hk)<|vAu<|zB<|vA<|ve (True/\0<3/\True)<|zFb (t:=(Aa V:Int)!=(Aa V:Int)) (by kernel_rfl) (by simp)<|vK<|zB<|vA<|vr 3 (True/\2<=2)<|vc (hse)<|ve (0<2/\1<2)<|vAe<|vf<|vK<|zB<|vA<|ve (True/\0<3)<|zF<|zS (λ(k:Nat)=>fr 59 [(1,Ad (zL x)<|Aa V),(2,D.mref 1),(29,Ad (Ae (λ(v:Nat)=>iD (v:Int)) V)<|Aa V),(30,iD (Aa V:Int)),(31,iD (k:Int))]) (λ(k:Nat)=>[inqB n f desc P<|atsR B,mvB y<|zC7 K<|V.take k,at1 (.row (nsD V) V.length) (.row (R.map rowV) R.length) (V.length:Nat),at1 (.row (nsD V) V.length) (.row (R.map rowV) R.length) (V.length:Nat)]) (λk=>V.length-k) (λ(k:Nat)=>k<=V.length) 0 ?_ ?_ ?_
 ·omega
 ·refine vk 4 ?_;exact λk hk=>twcK k (Nat.le_trans (by decide) hk)
 rintro k k1;rcases AL k V.length with k2|k2
 ·have hx:=zAv V k k2;have hn1:nsD V≠[]:=zAb;have hxk:=htv k k2;have hx3:=hv3 k k2;have hxn:=hva (by omega);rw[hpg k k2]at hxk;have hkp:zC7 K (V.take (k+1))=kput (zC7 K (V.take k)) (V.getD k 0):=by rw[zDb V k k2,zF6]
  generalize zC7 K (V.take k)=U at*;generalize V.getD k 0=v at*;have hlk:=look_nv (.agg [.val (.int .i64 0), .val (.int .i64 0), .val (.string ⟨#[]⟩)]) y U v;have hmp:=mput_nv y U v;have hvc:=zH4 (y.getD v Ap) (y.getD v Ap);rw[(zBv _ _).2.1.2 rfl]at hvc;generalize y.getD v Ap=w at*;obtain⟨ka,ia,sa⟩:=w;by_cases hu:v∈U
  ·rw[if_pos hu,decide_eq_true hu]at hlk;focus
    refine vAu (zB (vT ((k:Int)<↑(Aa V)) (vKB (vA (vr 2 (ix ↑k ↑(Aa V) (Ae (λ(v:Nat)=>iD v) V≠[])) (vp 34 k (Ae (λ(v:Nat)=>iD v) V) (vr 1 (0<Aa (Ag k (Ae (λ(v:Nat)=>iD v) V))) (vsh 35 hx (veT (vA (vwh 3 [] [] (zT (Az (AA (AB Aq) "int" 1 8 Ab 8 8 (Ai (Aj Aq 0)) Ac #[])) (Aj Aq (v:Int))=Ac/\AR (Ae (λ(v:Nat)=>ivV (v:Int)) U) (zT (Az (AA (AB Aq) "int" 1 8 Ab 8 8 (Ai (Aj Aq 0)) Ac #[])))=Ac) ?_ ?_)))))))))));rotate_left;refine vsh 39 hlk (ve (0<2/\1<2/\Ab=Ab/\Ac=Ac/\3=3/\3<=3) (zB (zB (vd [0,1,3,4,5,2,6,7,8,9] (vr 7 (ix ↑k ↑(Aa V) (zL x≠[])/\3<=3/\3<=Aa (Ag (k*3) (zL x))) (vs 48 (Ar (Au 3 (Ag (k*3) (zL x)))) (Ar (vaC (AO ka ia sa))) (hd:=by simp(disch:=omega) only[hxk]) (vc hvc (veT (vf (vK (zA rfl (vr 6 (ix ↑k ↑(Aa V) (zL x≠[])/\3<=Aa (Ag (k*3) (zL x))) (vs 57 (Ar (Au 3 (Ag (k*3) (zL x)))) (Ar (vaC (AO ka ia sa))) (hd:=by simp(disch:=omega) only[hxk]) (vwh 1 [] [] (Bk.fz (mvB y U)=Ab/\zT (Az (AA (AB Aq) "int" 1 8 Ab 8 8 (Ai (Aj Aq 0)) Ac #[])) (Aj Aq (v:Int))=Ac/\AR (Ae (λ(v:Nat)=>ivV (v:Int)) U) (zT (Az (AA (AB Aq) "int" 1 8 Ab 8 8 (Ai (Aj Aq 0)) Ac #[])))=Ac/\¬1∈[]) ?_ ?_))))))))))))));rotate_left;refine vb 1 (mput (mvB y U) (Ae (λ(v:Nat)=>ivV (v:Int)) U) (Aj Aq (v:Int)) (Ar (Prod.fst ([iD (Va.kind (AO ka ia sa)),iD (Va.int (AO ka ia sa)),Ao (Ay (bs (Va.str (AO ka ia sa))))],([]:List Nat))))) (mvB y (kput U v)) (hd:=by simp(disch:=omega) only[hmp]) (vnil (zE (vN (zA rfl (vr 2 (i6 (↑k+1)) (vnil (zC ?_)))))));rotate_left
   ·exact⟨rfl,zLx _⟩
   ·exact⟨rfl,rfl,zLx _,by decide⟩
   refine⟨k+1,by omega,by omega,?_⟩;rw[hkp];refine vk 4 ?_;exact λk hk=>twcK k (Nat.le_trans (by decide) hk)
  rw[if_neg hu,decide_eq_false hu]at hlk;focus
   refine vAu (zB (vT ((k:Int)<↑(Aa V)) (vKB (vA (vr 2 (ix ↑k ↑(Aa V) (Ae (λ(v:Nat)=>iD v) V≠[])) (vp 34 k (Ae (λ(v:Nat)=>iD v) V) (vr 1 (0<Aa (Ag k (Ae (λ(v:Nat)=>iD v) V))) (vsh 35 hx (veT (vA (vwh 3 [] [] (zT (Az (AA (AB Aq) "int" 1 8 Ab 8 8 (Ai (Aj Aq 0)) Ac #[])) (Aj Aq (v:Int))=Ac/\AR (Ae (λ(v:Nat)=>ivV (v:Int)) U) (zT (Az (AA (AB Aq) "int" 1 8 Ab 8 8 (Ai (Aj Aq 0)) Ac #[])))=Ac) ?_ ?_)))))))))));rotate_left;refine vsh 39 hlk (ve (0<2/\1<2/\Ab=Ab/\Ac=Ac/\3=3/\3<=3) (zB (zB (vd [0,1,3,4,5,2,6,7,8,9] (veT (vf (vK (zA rfl (vr 6 (ix ↑k ↑(Aa V) (zL x≠[])/\3<=Aa (Ag (k*3) (zL x))) (vs 57 (Ar (Au 3 (Ag (k*3) (zL x)))) (Ar (vaC (AO ka ia sa))) (hd:=by simp(disch:=omega) only[hxk]) (vwh 1 [] [] (Bk.fz (mvB y U)=Ab/\zT (Az (AA (AB Aq) "int" 1 8 Ab 8 8 (Ai (Aj Aq 0)) Ac #[])) (Aj Aq (v:Int))=Ac/\AR (Ae (λ(v:Nat)=>ivV (v:Int)) U) (zT (Az (AA (AB Aq) "int" 1 8 Ab 8 8 (Ai (Aj Aq 0)) Ac #[])))=Ac/\¬1∈[]) ?_ ?_)))))))))));rotate_left;refine vb 1 (mput (mvB y U) (Ae (λ(v:Nat)=>ivV (v:Int)) U) (Aj Aq (v:Int)) (Ar (Prod.fst ([iD (Va.kind (AO ka ia sa)),iD (Va.int (AO ka ia sa)),Ao (Ay (bs (Va.str (AO ka ia sa))))],([]:List Nat))))) (mvB y (kput U v)) (hd:=by simp(disch:=omega) only[hmp]) (vnil (zE (vN (zA rfl (vr 2 (i6 (↑k+1)) (vnil (zC ?_)))))));rotate_left
  ·exact⟨rfl,zLx _⟩
  ·exact⟨rfl,rfl,zLx _,by decide⟩
  refine⟨k+1,by omega,by omega,?_⟩;rw[hkp];refine vk 4 ?_;exact λk hk=>twcK k (Nat.le_trans (by decide) hk)
 obtain rfl:k=V.length:=by omega
 rw[Ba];refine vAu<|zB<|vF ((Aa V:Int)<↑(Aa V))<|vZ2<|vAe<|zJ<|zAj (True) [Ao<|Value.bool Ac] (.inr rfl) ?_;exact⟨by kernel_rfl,by kernel_rfl⟩
end
theorem witL_get(A:List (List Nat×List Rw))(y:Rw){i:Nat}(h:i<A.length):(witL A y).getD i Ap=(i,zR y (A.getD i Ap).1):=by
 unfold witL;rw[AK,Bb,List.getElem?_range h];rfl
section
variable (n f : Nat) (desc : List Bool) (P : List Int) (B : List (List Nat × List Rw)) (y r : Rw)
set_option maxHeartbeats 4000000 in
theorem chk_yes(hB:B.length<=1000)(hv:∀b∈B,b.1.length<=1000/\(∀v∈b.1,v<y.length)/\Rsc b.2/\b.2.length<=1000000/\(∀x∈b.2,x.length<=1000000)/\zR y b.1∈b.2)(hr:y.take r.length=r)(hrl:r.length<=1000)(hck:Pure Al 33 [.agg (inqC n f desc P (atsR B)),rowV r] [] (iD 0)):Pure Al 23 [.agg (inqC n f desc P (atsR B)),rowV r, .row ((witL B y).flatMap witC) B.length] [] (bD Ac):=by
 refine zG (zEh 0 λg=>g==50) mixed Tryz.func23 rfl<|vAu<|zB<|vA<|vr 2 (5<=5)<|vc (hck)<|ve (True/\True/\0<1/\True)<|zFb (t:=(Aa B:Int)!=(Aa B:Int)) (by kernel_rfl) (by simp)<|vK<|vAe<|zB<|vAe<|zF<|zS (λ(i:Nat)=>fr 63 [(2,Ad (Af witC<|witL B y)<|Aa B),(3,Ah 0 0),(6,bD Ab),(7,D.mref 1),(25,Ad (zL r)<|Aa r),(26,iD (Aa r:Int)),(27,iD (i:Int))]) (λ(i:Nat)=>[inqB n f desc P<|atsR B,mvB y<|zC7 []<|AM i]) (λi=>r.length-i) (λ(i:Nat)=>i<=r.length) 0 ?_ ?_ ?_
 ·omega
 ·refine vk 2
 rintro i i1;rcases AL i r.length with i2|i2
 ·have htv:=zCh r i i2;have hva:=zEk r (by omega);have hv3:=zDv r i i2;have hry:r.getD i Ap=y.getD i default:=by
   conv=>lhs;rw[<-hr]
   rw[AK,AK,List.getElem?_take,if_pos i2]
  rw[hry]at htv;have hkp:zC7 [] (AM (i+1))=kput (zC7 [] (AM i)) i:=by rw[List.range_succ,zF6]
  generalize zC7 [] (AM i)=U at*;have hmp:=mput_nv y U i;generalize y.getD i Ap=w at*;obtain⟨ka,ia,sa⟩:=w;focus
   refine vAu (zB (vT ((i:Int)<↑(Aa r)) (vKB (vA (vr 3 (ix ↑i ↑(Aa r) (zL r≠[])/\3<=Aa (Ag (i*3) (zL r))) (vs 31 (Ar (Au 3 (Ag (i*3) (zL r)))) (Ar (vaC (AO ka ia sa))) (hd:=by simp(disch:=omega) only[htv]) (ve (Ab=Ab/\Ac=Ac/\3=3/\3<=3) (zA rfl (vwh 4 [] [] (3<=3/\Bk.fz (mvB y U)=Ab/\zT (Az (AA (AB Aq) "int" 1 8 Ab 8 8 (Ai (Aj Aq 0)) Ac #[])) (Aj Aq (i:Int))=Ac/\AR (Ae (λ(v:Nat)=>ivV (v:Int)) U) (zT (Az (AA (AB Aq) "int" 1 8 Ab 8 8 (Ai (Aj Aq 0)) Ac #[])))=Ac/\¬1∈[]) ⟨(by omega),?_⟩ ?_)))))))));rotate_left;refine vb 1 (mput (mvB y U) (Ae (λ(v:Nat)=>ivV (v:Int)) U) (Aj Aq (i:Int)) (Ar (Prod.fst ([iD ka,iD ia,Ao (Ay (bs sa))],([]:List Nat))))) (mvB y (kput U i)) (hd:=by simp(disch:=omega) only[hmp]) (vnil (zE (vN (zA rfl (vr 2 (i6 (↑i+1)) (vnil (zC ?_)))))));rotate_left
  ·exact⟨rfl,rfl,zLx _,by decide⟩
  refine⟨i+1,by omega,by omega,?_⟩;rw[hkp];refine vk 2
 obtain⟨K,hK⟩:∃K,K=zC7 [] (AM i):=⟨_,rfl⟩;rw[<-hK];clear hK;refine vAu<|zB<|vF ((i:Int)<↑(Aa r))<|vZ2<|zB<|vA<|ve (True/\0<1)<|zF<|zAw (λ(j:Nat)(U:List Nat)=>fr 63 [(2,Ad (Af witC<|witL B y)<|Aa B),(7,D.mref 1),(37,Ad (Af atN B)<|Aa B),(38,iD<|Aa B),(39,iD j)]) (λ(j:Nat)(U:List Nat)=>[inqB n f desc P<|atsR B,mvB y U]) (λj U=>B.length-j) (λ(j:Nat)(U:List Nat)=>j<=B.length) 0 K ?_ ?_ ?_
 ·omega
 ·refine vk 2
 rintro j U j1;rcases AL j B.length with j2|j2
 ·have hg:=zHt zAd B j j2;have hle:=zFe zAd B j j2;have hne:=zFd zAd (by decide) B;have hwl:=zFw B y;have hg2:=zHt zEj (witL B y) j (by omega);rw[witL_get B y j2]at hg2;have hle2:=zFe zEj (witL B y) j (by omega);have hne2:=zFd zEj (by decide) (witL B y);obtain⟨p1,p2,p3,p4,p5,p6⟩:=hv _ (zAf B Ap j j2);generalize (witL B y).drop (j+1)=T at*;generalize (witL B y).flatMap witC=W at*;generalize B.getD j Ap=b at*;obtain⟨V,R⟩:=b;have hag:=agrees_a n f desc P B y V R U p1 p2 p3 p4 p5 p6;have e1:(((j:Nat):Int)!=(j:Nat))=false:=bne_self_eq_false _;refine vAu<|zB<|vT ((j:Int)<↑(Aa B))<|vKB<|vA<|vr 2 (ix ↑j ↑(Aa B) (Af atN B≠[]))<|vs 42 (AE<|Ag (Av (j:Int)*3)<|Af atN B) (AE (Ad (Ae (λ(v:Nat)=>iD v) V) (Aa V)::iD (Aa V)::Ad (Ae rowV R) (Aa R)::Af atN (Ag (j+1) B))) (hd:=by simp(disch:=omega) only[AD,AW,AX,hg])<|ve (3<=Aa (Ad (Ae (λ(v:Nat)=>iD v) V) (Aa V)::iD (Aa V)::Ad (Ae rowV R) (Aa R)::Af atN (Ag (j+1) B))/\Ab=Ab/\Ac=Ac/\3=3/\3<=3)<|zB<|vd [0,1,2,3,5,4,6,7,9,10,11,12,14,8,13,15,16,17]<|vr 3 (ix ↑j ↑(Aa B) (W≠[]))<|vs 46 (AE<|Ag (Av (j:Int)*2) W) (AE (iD ↑j::rowV (zR y V)::Af witC T)) (hd:=by simp(disch:=omega) only[AD,AW,AX,hg2])<|vr 4 (True/\0<Aa (iD ↑j::rowV (zR y V)::Af witC T)/\True)<|vs 50 (bD ((j:Int)!=↑j)) (bD Ab) (hd:=by simp(disch:=omega) only[e1])<|vr 4 (ix ↑j ↑(Aa B) (W≠[]))<|vs 55 (AE<|Ag (Av (j:Int)*2) W) (AE (iD ↑j::rowV (zR y V)::Af witC T)) (hd:=by simp(disch:=omega) only[AD,AW,AX,hg2])<|vr 4 (True/\3<=3/\0<Aa (rowV (zR y V)::Af witC T))<|vnt [inqB n f desc P<|atsR B,mvB y U,Aw [Ad (Ae (λ(v:Nat)=>iD v) V)<|Aa V,iD<|Aa V,Ad (Ae rowV R)<|Aa R] 45 0 Ab Ab AH]<|zAx [] [] [Ar [Ad (Ae (λ(v:Nat)=>iD v) V)<|Aa V,iD<|Aa V,Ad (Ae rowV R)<|Aa R],Ad (zL<|zR y V)<|Aa<|zR y V,D.mref 1] [Ar [Ad (Ae (λ(v:Nat)=>iD v) V)<|Aa V,iD<|Aa V,Ad (Ae rowV R)<|Aa R],Ad (zL<|zR y V)<|Aa<|zR y V,D.mref 1] (AF _) (by exact hag) ?_;refine v0s<|veT<|vf<|zK<|zE<|vN<|zA rfl<|vr 2 (i6 (↑j+1))<|vnil<|zC<|⟨j+1,zC7 U V,by omega,by omega,?_⟩;refine vk 2
 obtain rfl:j=B.length:=by omega
 refine vAu<|zB<|vF ((Aa B:Int)<↑(Aa B))<|vZ2<|vAe<|zJ<|vret (True)<|.inr rfl
end
theorem good_of{c:Cs}(h:c.Small)(ht:c.Typ){r:Rw}(q2:c.V.length=c.R.length)(q3:∀i,i<c.V.length->c.err i=0)(q4:c.Few)(q6:0=wckE c c.V.length r):c.Good/\(r.length:Int)=c.f:=by
 have q6:=q6.symm;unfold wckE at q6;have h1:icE c.n c.f c.desc.length c.P (c.ats c.V.length)=0:=by
  apply Bg;intro hh;rw[if_pos hh]at q6;exact hh q6
 refine⟨⟨h,q2,q3,h1,q4,ht⟩,?_⟩;rw[h1,if_neg (by omega)]at q6;apply Bg;intro hh;rw[if_pos hh]at q6;cases q6
end
section
open Go.RowKit Go.Lib
set_option maxRecDepth 4096
theorem info_atm:(Al.info? 45).map (λi=>(i.zero,i.size,i.bytes))=Ai (Ai (.agg #[.slice As 0 0, .int .i64 0, .slice As 0 0]),3,56):=by kernel_rfl
abbrev zAtm:List Value:=[.slice As 0 0, .int .i64 0, .slice As 0 0]
def zrA(m:Nat):List Value:=(Builtin.zeroCells zAtm.toArray m).toList
theorem zYz(m:Nat):(zrA m).length=m*3:=by simp[zrA,Builtin.zeroCells]
theorem zrA_one{m:Nat}:∀u∈zrA m,u.oneCell'=true:=λu hu=>by
 unfold zrA at hu;rw[Builtin.zeroCells,Array.toList_map]at hu;obtain⟨i,_,rfl⟩:=AP.1 hu;have:i%3<3:=Nat.mod_lt _ (by omega);show(zAtm.toArray[i%3]!).oneCell'=Ac;match i%3,this with
 |0,_=>rfl
 |1,_=>rfl
 |2,_=>rfl
set_option maxHeartbeats 4000000 in
set_option maxRecDepth 1000000 in
theorem dlAtm_w(b n i j c:Nat)(us:List Value)(w:World)(hij:i<j)(hj:j<=n)(hc:n<=c)(hm:c<=9223372036854775807)(hl:us.length=n*3)(h1:∀u∈us,u.oneCell'=Ac)(ht:w.there b 0 (n*3))(hcell:∀t,t<n*3->w.cell? ⟨b,t,As⟩=Ai (us.getD t undef)):
  Calls Al 25 #[.slice (Ai ⟨b,0,As⟩) n c, .int .i64 i, .int .i64 j] w λe w'=>e= .returned (.slice (Ai ⟨b,0,As⟩) (n-(j-i)) c)/\w'=(w.drew.setCells b (i*3) (us.drop (j*3))).setCells b ((i+(n-j))*3) (zrA (n-(i+(n-j)))):=by
 obtain⟨i0,hi0,hz0,hz1,hz2⟩:=info_parts info_atm;obtain⟨news,hnews⟩:∃news,news=us.drop (j*3):=⟨_,rfl⟩;have hlen:news.length=(n-j)*3:=by rw[hnews,A0];omega
 have hget:∀t,t<(n-j)*3->news[t]?=Ai (us.getD (j*3+t) undef):=by
  intro t ht;rw[hnews,List.getElem?_drop,AK,A5 (by omega)];rfl
 obtain⟨A,hA,hsrc⟩:∃A:Addr,(if c=j then Ai (⟨b,0,As⟩:Addr)else Ai ⟨b,j*3,As⟩)=Ai A/\Hid (∀t u,news[t]?=Ai u->w.drew.cell? (A.add t)=Ai u):=by
  by_cases h:c=j
  ·refine⟨⟨b,0,As⟩,by simp[h],λt u hu=>?_⟩;have h0:news.length=0:=by rw[hlen];omega
   rw[List.length_eq_zero_iff.1 h0]at hu;simp at hu
  refine⟨⟨b,j*3,As⟩,by simp[h],λt u hu=>?_⟩;have ht:t<(n-j)*3:=by
   have:=(Bc.1 hu).1
   rwa[hlen]at this
  rw[hget t ht]at hu;rw[Addr.add_lit];exact(hcell (j*3+t) (by omega)).trans hu
 have s1:Hid (news.length=(n-j)*3):=hlen;have s2:Hid (∀u∈news,u.oneCell'=Ac):=by
  intro u hu;rw[hnews]at hu;exact h1 u (List.mem_of_mem_drop hu)
 have s3:Hid (∀t,t<news.length->(w.drew.cell? ⟨b,0+i*3+t,As⟩).isSome=Ac/\w.drew.frozen? ⟨b,0+i*3+t,As⟩=Ab):=by
  intro t h;rw[hlen]at h
  have:=ht (i*3+t) (by omega)
  rw[AT]at this;rw[AT];exact this
 obtain⟨W1,hW1⟩:∃W1,W1=w.drew.setCells b (0+i*3) news:=⟨_,rfl⟩;have ht1:W1.there b 0 (n*3):=by
  rw[hW1];refine World.there_setCells ?_ _ _ _;exact ht
 have hcl:∀ty,(Builtin.clear_ #[30] ty #[.slice (Ai ⟨b,(i+(n-j))*3,As⟩) (n-(i+(n-j))) (c-(i+(n-j)))]).run Al W1= .ok (.tuple #[]) (W1.setCells b ((i+(n-j))*3) (zrA (n-(i+(n-j))))):=λty=>by
  have hst:=run_storeCells_cells (P:=Al) b ((i+(n-j))*3) (zrA (n-(i+(n-j)))) 0 W1 (λt h=>by
   rw[zYz]at h
   have:=(ht1 ((i+(n-j))*3+t) (by omega)).1
   rwa[AT]at this) (λt h=>by
   rw[zYz]at h
   have:=(ht1 ((i+(n-j))*3+t) (by omega)).2
   rwa[AT]at this) zrA_one
  simp only[Nat.add_zero]at hst;obtain⟨q,hq⟩:∃q,n-(i+(n-j))=q+1:=⟨n-(i+(n-j))-1,by omega⟩;rw[hq]at hst⊢;simp[Builtin.clear_,run_underlying Tryz.underlying30,Sem.run_bind];have e:zrA (q+1)=(Builtin.zeroCells (Value.agg #[Value.slice As 0 0,Aj Aq 0,Value.slice As 0 0]).cells (q+1)).toList:=rfl;rw[<-e,hst];rfl
 have hW:Hid (W1=w.drew.setCells b (0+i*3) news):=hW1;have hW2:W1=w.drew.setCells b (i*3) (us.drop (j*3)):=by rw[hW1,AT,hnews]
 have X:Aside (W1=w.drew.setCells b (i*3) (us.drop (j*3))):=hW2;have hic:i<=c:=by omega
 have hjc:j<=c:=by omega
 have mixed:=mixed;clear hW1 hW2 ht1 hget hnews hlen hcell ht h1;go_enter Tryz.func25,Tryz.ntmps25;go_wp2_with fail;go_region_law_o (refine step_append_room rfl (.tmp 22) (.tmp 25) 30 rfl 45 i0 3 Tryz.underlying30 hi0 hz1 b 0 i c (by simp[Act.eval,Act.put]) A (n-j) (c-j) news (by simp[Act.eval,Act.put]) s1.out hsrc.out s2.out (by omega) s3.out ?_;rw[<-hW.out]);go_wp2;go_ret;refine⟨by rw[show n-(j-i)=i+(n-j) by omega];rfl,?_⟩;rw[<-X.out]
theorem RelL.dropN{I:Im}{w:World}{β:Be}:∀(k:Nat)(ds:List D)(vs:List Value),RelL I w β ds vs->RelL I w β (ds.drop k) (vs.drop k)
 |0,_,_,h=>h
 |k+1,[],vs,h=>by simp only[RelL]at h;subst h;simp[RelL]
 |k+1,d::ds,vs,h=>by
  simp only[RelL]at h;obtain⟨v,us,rfl,_,_,h⟩:=h;exact RelL.dropN k ds us h
abbrev zGl:List D:=[.val (.slice As 0 0), .val (.int .i64 0), .val (.slice As 0 0)]
theorem dlAtm_c{st:List Bk}{k n i:Nat}{e:Bk}{wh:Bool}(he:st[k]?=Ai e)(ha:e.arr=Ac)(hkd:e.kd= .plain)(hf:e.fz=Ab)(hc:e.cells.length=n*3)(hi:i<n)(hn:n<=1000000):
  Acts Al 25 [.osl k 0 n (n*3) wh,iD (i:Nat),iD ((i:Nat)+1)] st [] (.osl k 0 (n-1) ((n-1)*3) Ab) (st.set k {e with cells:=setAt (setAt e.cells (i*3) (e.cells.drop ((i+1)*3))) ((n-1)*3) zGl}):=by
 intro β I w xs hr hsr hinj hfz hdom him hg;simp only[RelT]at hr;obtain⟨v,ys,rfl,hr,x1,ys1,rfl,hr1,x2,ys2,rfl,hr2,rfl⟩:=hr;simp only[Rel]at hr hr1 hr2;obtain rfl:=hr1;obtain rfl:=hr2;rcases hr with⟨e0,_,rfl⟩|⟨e0,_,_,a,c,rfl,_⟩|⟨b,c,cap,hb,rfl,k1,k2,k3⟩
 ·omega
 ·omega
 have hs0:Sim β I w ([]:List D) st ({tmps:=#[],defers:=[]}:Act).tmps.toList:=⟨by simp only[RelT],hsr,hinj,hfz,hdom,him,hg⟩;have hni:e.kd.isMap=false:=by rw[hkd];rfl
 have hnob:e.nob=true:=by unfold Bk.nob;rw[hkd,ha];rfl
 obtain⟨e',he',ho⟩:=hs0.sr k b c hb;rw[he]at he';cases he';obtain⟨cur,c1,c2,c3,c4⟩:=ho.c hni;rw[hnob]at c3;simp only[if_true]at c3;have hlc:(cur.take e.cells.length).length=n*3:=by rw[<-c3.length];exact hc
 have hcell:∀j,j<n*3->w.cell? ⟨b,j,As⟩=Ai ((cur.take e.cells.length).getD j undef)/\w.frozen? ⟨b,j,As⟩=false:=λj hj=>by
  have hlt:j<cur.length:=by rw[AV]at hlc;omega
  refine⟨?_,frozen_of_row w b j cur.toArray e.ty c1⟩;rw[AK,List.getElem?_take,if_pos (by omega),A5 hlt];simp[World.cell?,c1,hlt]
 generalize cur.take e.cells.length=us at*;have hw:=dlAtm_w b n i (i+1) cap us w (by omega) (by omega) k1 (by have:=k2;unfold maxLen at this;omega) hlc c3.ones (λj hj=>by
  rw[AT];exact⟨by rw[(hcell j hj).1];rfl,(hcell j hj).2⟩) (λt ht=>(hcell t ht).1)
 rw[show n-(i+1-i)=n-1 by omega,show i+(n-(i+1))=n-1 by omega,show n-(n-1)=1 by omega]at hw;refine hw.mono ?_;rintro x w' ⟨rfl,rfl⟩;have hd1:=(RelL.dropN ((i+1)*3) _ _ c3);have hvs':RelL (fixI I β st []) (w.drewN 1) (if e.nob then noB else β) (e.cells.drop ((i+1)*3)) (us.drop ((i+1)*3)):=by
  rw[hnob];simp only[if_true];exact RelL.mono ((Fix.drew I w 1).trans (zAg [])) _ _ (BeLe.refl _) _ _ hd1
 obtain⟨s1,s2,s3⟩:=(hs0.drew 1).put (off:=i*3) (cs:=e.cells.drop ((i+1)*3)) (vs:=us.drop ((i+1)*3)) (ks:=[]) hb he hf hni (by simp) hvs' (by rw[A0];omega) As undef;have hkl:k<st.length:=(Bc.1 he).1;have hb2:((zAo st []).set k {e with cells:=setAt e.cells (i*3) (e.cells.drop ((i+1)*3))})[k]?=Ai {e with cells:=setAt e.cells (i*3) (e.cells.drop ((i+1)*3))}:=by
  show(st.set k _)[k]?=_;rw[List.getElem?_set_self hkl]
 have hvs2:RelL (fixI (fixI I β st []) β ((zAo st []).set k {e with cells:=setAt e.cells (i*3) (e.cells.drop ((i+1)*3))}) []) ((w.drewN 1).setCells b (i*3) (us.drop ((i+1)*3))) (if({e with cells:=setAt e.cells (i*3) (e.cells.drop ((i+1)*3))}:Bk).nob then noB else β) zGl (zrA 1):=by
  have e:zrA 1=zAtm:=by kernel_rfl
  rw[e];exact zB4 (us:=zAtm) λv hv=>by
   simp only[A8,List.not_mem_nil,or_false]at hv;rcases hv with rfl|rfl|rfl<;>rfl
 have hlen2:(setAt e.cells (i*3) (e.cells.drop ((i+1)*3))).length=n*3:=by rw[zCw];exact hc
 obtain⟨t1,t2,t3⟩:=s1.put (off:=(n-1)*3) (cs:=zGl) (vs:=zrA 1) (ks:=[]) hb hb2 hf hni (by simp) hvs2 (by
  show(n-1)*3+3<=(setAt e.cells (i*3) (e.cells.drop ((i+1)*3))).length;omega) As undef
 have e2:(zAo ((zAo st []).set k {e with cells:=setAt e.cells (i*3) (e.cells.drop ((i+1)*3))}) []).set k {({e with cells:=setAt e.cells (i*3) (e.cells.drop ((i+1)*3))}:Bk)with cells:=setAt (setAt e.cells (i*3) (e.cells.drop ((i+1)*3))) ((n-1)*3) zGl}=st.set k {e with cells:=setAt (setAt e.cells (i*3) (e.cells.drop ((i+1)*3))) ((n-1)*3) zGl}:=by
  show(st.set k _).set k _=_;rw[List.set_set]
 rw[e2]at t1;exact⟨_,β,_,rfl,t1.imb,(Stp.drew β _ w 1).trans (s2.trans t2),λ_ _ _ h=>h,t1.sr,t1.inj,t1.fz,t1.dom,by
  simp only[Rel];exact .inr (.inr ⟨b,c,cap,hb,rfl,by omega,k2,λh=>by cases h⟩)⟩
theorem erAtm(B:List (List Nat×List Rw))(i:Nat)(hi:i<B.length):setAt (setAt (B.flatMap atN) (i*3) ((B.flatMap atN).drop ((i+1)*3))) ((B.length-1)*3) zGl=(B.eraseIdx i).flatMap atN++zGl:=by
 obtain⟨pre,hpre⟩:∃pre,pre=(B.take i).flatMap atN:=⟨_,rfl⟩;obtain⟨post,hpost⟩:∃post,post=(B.drop (i+1)).flatMap atN:=⟨_,rfl⟩;have h1:pre.length=i*3:=by rw[hpre,zB5 zAd,AV];omega
 have h2:post.length=(B.length-(i+1))*3:=by rw[hpost,zB5 zAd,A0]
 obtain⟨mid,hmid,e1⟩:∃mid,mid.length=3/\B.flatMap atN=pre++(mid++post):=by
  refine⟨atN (B.getD i Ap),rfl,?_⟩;conv=>lhs;rw[<-List.take_append_drop (i*3) (B.flatMap atN)]
  rw[fl_take zAd,zHt zAd B i hi,hpre,hpost]
 have e2:(B.flatMap atN).drop ((i+1)*3)=post:=by rw[zPp zAd,hpost]
 have e3:mid++post=(mid++post).take post.length++(mid++post).drop post.length:=(List.take_append_drop _ _).symm;have h3:((mid++post).drop post.length).length=3:=by rw[A0,Bd];omega
 have h4:((mid++post).take post.length).length=post.length:=by rw[AV,Bd];omega
 rw[e2,e1,e3,<-List.append_assoc,<-h1,zCi post _ pre _ h4];have e4:(B.length-1)*3=(pre++post).length:=by rw[Bd];omega
 have:=zCi zGl ((mid++post).drop post.length) (pre++post) [] h3
 rw[List.append_nil,List.append_nil]at this;rw[e4,this,List.eraseIdx_eq_take_drop_succ,List.flatMap_append,hpre,hpost]
abbrev atmK(cs:List D):Bk:=⟨cs,45,3,Ac,Ab, .plain⟩
theorem delA_c(B:List (List Nat×List Rw))(k n i:Nat)(wh:Bool)(st:List Bk)(hs:st[k]?=Ai (atmK (B.flatMap atN)))(hn:B.length=n)(hi:i<n)(hb:n<=1000000):
  Acts Al 25 [.osl k 0 n (n*3) wh,iD (i:Nat),iD ((i:Nat)+1)] st [] (.osl k 0 (n-1) ((n-1)*3) Ab) (st.set k (atmK ((B.eraseIdx i).flatMap atN++zGl))):=by
 subst hn;have h:=dlAtm_c (wh:=wh) hs rfl rfl rfl (zB5 zAd B) hi hb;rw[erAtm B i hi]at h;exact h
theorem cloneA_c(cs:List D)(n:Nat)(hl:cs.length=n*3)(h0:0<n)(hn:n<=1000000):Pure Al 26 [.row cs n] [atmK cs] (.osl 0 0 n (n*3) Ac):=by
 refine zBp zAm mixed Tryz.func26 rfl rfl<|vAu<|zB<|vA<|ve (0<n)<|vf<|vK<|vA<|vr 4 ((True/\0<3/\3=3/\0<=16777216/\0<=9223372036854775807)/\Ac=Ac/\0=0/\0=0/\45=45/\3=3/\Aa cs=n*3/\0<3/\0<56/\45=45/\(0+n)*56<=140737488355328/\3=3/\Ab=Ab/\(Ab=Ab\/Ab=Ac))<|vs 2 (AC 0 0 (0+n) ((0+n)*3) Ac) (AC 0 0 n (n*3) Ac) (hd:=by simp(disch:=omega) only[AT])<|veT<|zJ<|zAj (True) [AC 0 0 n (n*3) Ac] (.inr rfl) ?_;exact⟨0,by simp[oneD],by kernel_rfl⟩
end
section
open Go.RowKit
attribute [local irreducible] seqW awp zW zX zP Weak updS zZ retL Pure Acts rP setP setQ cP nP fr
set_option maxRecDepth 4096
theorem accOk_c(ar:Int)(L:List D)(n:Nat)(x:Rw)(hx:x.length<=2000000)(hv:x.all vok=Ac)(ha:(x.length:Int)=ar):Pure Al 52 [.agg [iD ar, .row L n],rowV x] [] (iD 0):=by
 have h:=zNs x _ rfl (by omega);subst ha;rw[hv]at h;refine zG zAm mixed Tryz.func52 rfl<|vAu<|zB<|vA<|ve (True/\0<2/\True)<|zFb (t:=(Aa x:Int)!=(Aa x:Int)) (by kernel_rfl) (by simp)<|vK<|zB<|vA<|vrT 1<|vc (h)<|veT<|vf<|vK<|vAe<|zJ<|vret (True)<|.inr rfl
set_option maxHeartbeats 4000000 in
theorem insert_c(L:List Rw)(x:Rw)(ar:Int)(hs:Rsc L)(hb:L.length<=1000)(hL:∀y∈L,y.length<=1000000)(hx:x.length<=1000000)(hv:x.all vok=Ac)(ha:(x.length:Int)=ar):∃b:Bool,Pure Al 28 [relD ar L,rowV x] [] (.tup [relD ar (insR L x),bD b,iD 0]):=by
 have h1:=accOk_c ar (L.map rowV) L.length x (by omega) hv ha;have h2:=zK6 L x ar hs (by omega) hL hx;have hm:=zPk L x;by_cases hxL:x∈L
 ·rw[decide_eq_true hxL]at h2;unfold insR;rw[if_pos hxL];generalize cntR L x=m at*;refine⟨Ab,?_⟩;refine zG zAm mixed Tryz.func28 rfl<|vAu<|zB<|vA<|vr 2 (2<=2)<|vc (h1)<|veT<|vAe<|vf<|vK<|vA<|vr 2 (2<=2)<|vc (h2)<|ve (0<2/\1<2)<|zB<|vAe<|vt<|vA<|ve (2<=2/\Ab=Ab/\Ac=Ac/\2=2/\2<=2)<|zJ<|zH<|vret (2<=2)<|.inr rfl
 rw[decide_eq_false hxL]at h2;unfold insR;rw[if_neg hxL];generalize cntR L x=c at*;have e1:(L.map rowV).take c=(L.take c).map rowV:=by rw[List.map_take]
 have e2:(L.map rowV).drop c=(L.drop c).map rowV:=by rw[List.map_drop]
 have e3:((L.drop c).map rowV).take (L.length-c)=(L.drop c).map rowV:=AS (by rw[AI,A0];exact A4 _);have l1:((L.take c).map rowV).length=c:=by rw[AI,AV];omega
 have l2:((L.drop c).map rowV).length=L.length-c:=by rw[AI,A0]
 have l3:(L.take c++x::L.drop c).length=c+1+(L.length-c):=by simp;omega
 have e4:((L.take c).map rowV++[Ad (zL x) x.length]++(L.drop c).map rowV).take (c+1+(L.length-c))=(L.take c++x::L.drop c).map rowV:=by
  rw[AS (by simp;omega)];simp[rowV]
 have hcl2:=zHw (zL x) x.length (zAp _) (by omega);refine⟨Ac,?_⟩;unfold relD;rw[<-e4,l3];refine zG zAm mixed Tryz.func28 rfl<|vAu<|zB<|vA<|vr 2 (2<=2)<|vc (h1)<|veT<|vAe<|vf<|vK<|vA<|vr 2 (2<=2)<|vc (h2)<|ve (0<2/\1<2)<|zB<|vAe<|vf<|vK<|zB<|vA<|ve (True/\0<1)<|vF ((Aa L:Int)>=(65536:Int))<|vK<|vA<|ve (True/\0<1/\i6 ((Aa L:Int)+(1:Int))/\(0:Int)<=(0:Int)/\(0:Int)<=(↑(Aa L+1):Int)/\(↑(24:Nat):Int)*(↑(Aa L+1):Int)<=(281474976710656:Int)/\(↑(Aa L+1):Int)<=(281474976710656:Int)/\0<1/\1=1)<|vA<|vr 5 (True/\0<1/\True/\(0:Int)<=(c:Int)/\True/\0<1/\0<=Av (c:Int)/\Av (c:Int)<=Aa L/\Av (c:Int)=Av (c:Int))<|vs 40 (Ad (Au ((Av (c:Int)-0)*1)<|Ag 0<|Ae rowV L) (Av (c:Int)-0)) (Ad (Ae rowV<|Au c L) c) (hd:=by simp(disch:=omega) only[AD,Nat.sub_zero,A3,AJ,e1])<|vr 2 (Ac=Ac/\0=0/\0=0/\29=29/\1=1/\Aa (Ae rowV<|Au c L)=c*1/\0<1/\0<24/\29=29/\(0+c)*24<=140737488355328/\1=1/\Ab=Ab/\(Ab=Ab\/Ab=Ac))<|vs 10 (AC 2 0 (0+c) ((0+c)*1) Ac) (AC 2 0 c c Ac) (hd:=by simp(disch:=omega) only[AT,A3])<|veT<|vA<|vrT 2<|vc (hcl2)<|vr 3 (((1=1/\1<=1/\True)/\0<1/\1=1/\1<=16777216/\1<=9223372036854775807)/\Bk.arr (Aw (Ae rowV<|Au c L) 29 1 Ac Ab<|kdOf Ab)=Ac/\Aa (Ae rowV<|Au c L)=c*1/\c=c*1/\Bk.ty (Aw (Ae rowV<|Au c L) 29 1 Ac Ab<|kdOf Ab)=29/\Bk.sz (Aw (Ae rowV<|Au c L) 29 1 Ac Ab<|kdOf Ab)=1/\1=1/\0<1/\0<24/\29=29/\(c+1)*24<=140737488355328/\1=1/\Kd.isMap (Bk.kd<|Aw (Ae rowV<|Au c L) 29 1 Ac Ab<|kdOf Ab)=Ab/\(Ab=Ab\/Kd.isSh (Bk.kd<|Aw (Ae rowV<|Au c L) 29 1 Ac Ab<|kdOf Ab)=Ac))<|vs 10 (AC 2 0 (c+1) ((c+1)*1) Ac) (AC 2 0 (c+1) (c+1) Ac) (hd:=by simp(disch:=omega) only[A3])<|veT<|zB ?_;refine zA rfl<|vr 5 (True/\0<1/\(0:Int)<=(c:Int)/\True/\True/\0<1/\Av (c:Int)<=Aa L/\Aa L<=Aa L/\Aa L=Aa L)<|vs 51 (Ad (Au ((Aa L-Av (c:Int))*1)<|Ag (Av (c:Int)*1)<|Ae rowV L) (Aa L-Av (c:Int))) (Ad (Ae rowV<|Ag c L) (Aa L-c)) (hd:=by simp(disch:=omega) only[AD,A3,e3,e2])<|vr 2 (Ac=Ac/\Aa (Ae rowV (Au c L)++[Ad (zL x)<|Aa x])=(c+1)*1/\c+1=(c+1)*1/\29=29/\1=1/\Aa (Ae rowV<|Ag c L)=(Aa L-c)*1/\0<1/\0<24/\29=29/\(c+1+(Aa L-c))*24<=140737488355328/\1=1/\Kd.isMap (kdOf Ab)=Ab/\(Ab=Ab\/Kd.isSh (kdOf Ab)=Ac))<|vs 10 (AC 2 0 (c+1+(Aa L-c)) ((c+1+(Aa L-c))*1) Ac) (AC 2 0 (c+1+(Aa L-c)) (c+1+(Aa L-c)) Ac) (hd:=by simp(disch:=omega) only[A3])<|veT<|vA<|ve (True/\0<2/\((1=1/\1<=2/\1=1/\2<=2/\True)/\Ac=Ac)/\Ab=Ab/\Ac=Ac/\2=2/\2<=2)<|zJ<|vret (2<=2)<|.inr rfl
end
section
open Go.RowKit
theorem Cs.Good.toAt{c:Cs}(h:c.Good):c.A.map toAt=c.ats c.V.length:=by
 unfold Cs.A Cs.ats;rw[A6];refine A7 λi hi=>?_;have hi:=List.mem_range.1 hi;show(⟨((c.V.getD i []).map Av).map λv:Nat=>(v:Int),(((c.V.getD i []).map Av).length:Nat),_⟩:At)=⟨c.V.getD i [],((c.V.getD i []).length:Nat),_⟩;rw[A6,AI];congr 1;conv=>rhs;rw[<-List.map_id (c.V.getD i [])]
 exact A7 λz hz=>by have:=(Cs.vars h.ck hi).2 z hz;show((z.toNat:Nat):Int)=z;omega
def bare(a:At):At:=⟨a.V,a.ar,[]⟩
theorem zW3(n f:Int)(dn:Nat)(P:List Int)(l:List At):icE n f dn P (l.map bare)=icE n f dn P l:=by
 have h1:∀l:List At,atL n (l.map bare)=atL n l:=λl=>by
  induction l with
  |nil=>rfl
  |cons a l ih=>
   rw[List.map_cons];unfold atL;rw[ih];rfl
 have h2:useP n.toNat (l.map bare) []=useP n.toNat l []:=by
  unfold useP;refine A7 λv _=>?_;rw[List.any_map];rfl
 unfold icE lfE;rw[h1,h2,AI]
def morA(A:List (List Nat×List Rw))(k:Nat)(x:Rw):List (List Nat×List Rw):=A.set k ((A.getD k Ap).1,insR (A.getD k Ap).2 x)
section
variable {A : List (List Nat × List Rw)} {k : Nat} {x : Rw}
theorem zPb:(morA A k x).length=A.length:=by unfold morA;rw[List.length_set]
theorem zLh:(morA A k x).map (·.1)=A.map (·.1):=by
 unfold morA;rw[List.map_set];apply List.ext_getElem (by simp);intro i h1 h2;rw[List.getElem_set];split
 ·rename_i h;subst h;have:k<A.length:=by simpa using h2
  simp[AK,A5 this]
 rfl
theorem morA_ic(n f:Int)(dn:Nat)(P:List Int):icE n f dn P ((morA A k x).map toAt)=icE n f dn P (A.map toAt):=by
 rw[<-zW3,<-zW3 n f dn P (A.map toAt)];have:∀B:List (List Nat×List Rw),(B.map toAt).map bare=(B.map (·.1)).map λV=>(⟨V.map λv:Nat=>(v:Int),(V.length:Nat),[]⟩:At):=λB=>by
  rw[A6,A6];rfl
 rw[this,this,zLh]
theorem morA_wit(y:Rw):witL (morA A k x) y=witL A y:=by
 unfold witL;rw[zPb];refine A7 λi _=>?_;have h:∀B:List (List Nat×List Rw),(B.getD i Ap).1=(B.map (·.1)).getD i []:=λB=>by
  rw[AK,AK,Bb];cases B[i]?<;>rfl
 rw[h,h,zLh]
theorem zWg{b:List Nat×List Rw}(hk:k<A.length)(h:b∈morA A k x):b∈A\/∃a∈A,b=(a.1,insR a.2 x)/\a=A.getD k default:=by
 unfold morA at h;rcases List.mem_or_eq_of_mem_set h with h|h
 ·exact .inl h
 exact .inr ⟨_,zAf A Ap k hk,h,rfl⟩
theorem zWf(hk:k<A.length){τ:Nat->Va}(h:SatA A τ):SatA (morA A k x) τ:=λb hb=>by
 rcases zWg hk hb with hb|⟨a,ha,rfl,_⟩
 ·exact h b hb
 exact(zHo _ _ _).2 (.inr (h a ha))
theorem morA_ans(hk:k<A.length){n:Nat}{p:Rw}(h:Ans n A p):Ans n (morA A k x) p:=by
 obtain⟨y,h1,h2,h3⟩:=h;exact⟨y,h1,h2,zWf hk h3⟩
theorem morA_ok{n:Nat}(h:AtOk n A)(h10:∀a∈A,a.2.length<=10)(hk:k<A.length)(hx:x.length=(A.getD k Ap).1.length)(hv:∀v∈x,vok v=Ac/\Vs v):AtOk n (morA A k x):=by
 have key:∀{Q:List Nat×List Rw->Prop},(∀a∈A,Q a)->(∀a∈A,a=A.getD k Ap->Q (a.1,insR a.2 x))->∀b∈morA A k x,Q b:=λq1 q2 b hb=>by
  rcases zWg hk hb with hb|⟨a,ha,rfl,e⟩
  ·exact q1 b hb
  exact q2 a ha e
 refine⟨h.n8,by rw[zPb];exact h.l,key h.asc λa ha _=>h.asc a ha,key h.lt λa ha _=>h.lt a ha,λv hv=>?_,key h.srt λa ha _=>zWy x (h.srt a ha),key h.len λa ha e r hr=>?_,key h.few λa ha _=>?_,key h.val λa ha e r hr=>?_⟩
 ·obtain⟨a,ha,hva⟩:=h.cov v hv;have:a.1∈(morA A k x).map (·.1):=by rw[zLh];exact AP.2 ⟨a,ha,rfl⟩
  obtain⟨b,hb,e⟩:=AP.1 this;exact⟨b,hb,by rw[e];exact hva⟩
 ·rcases(zHo _ _ _).1 hr with rfl|hr
  ·rw[hx,<-e]
  exact h.len a ha r hr
 ·have:=zWz a.2 x
  have:=h10 a ha
  show(insR a.2 x).length<=11;omega
 rcases(zHo _ _ _).1 hr with rfl|hr
 ·exact hv
 exact h.val a ha r hr
end
def numR(t m:Nat):Rw:=(AM m).map λi=>nuV ((t+i:Nat):Int)
theorem zN8(t m:Nat):(numR t m).length=m:=by simp[numR]
theorem zWa{t m:Nat}(ht:t<=1000)(hm:m<=1000):∀v∈numR t m,vok v=Ac/\Vs v:=λv hv=>by
 obtain⟨i,hi,rfl⟩:=AP.1 hv
 have:=List.mem_range.1 hi
 refine⟨rfl,⟨by show-9223372036854775808<=1;omega,by show(1:Int)<=9223372036854775807;omega⟩,⟨?_,?_⟩,Nat.zero_le _⟩
 ·show(-9223372036854775808:Int)<=((t+i:Nat):Int);omega
 show((t+i:Nat):Int)<=9223372036854775807;omega
theorem erA_sat{A:List (List Nat×List Rw)}{k:Nat}{τ:Nat->Va}(h:SatA A τ):SatA (A.eraseIdx k) τ:=λa ha=>h a (Bf ha)
theorem erA_ans{A:List (List Nat×List Rw)}{k n:Nat}{p:Rw}(h:Ans n A p):Ans n (A.eraseIdx k) p:=by
 obtain⟨y,h1,h2,h3⟩:=h;exact⟨y,h1,h2,erA_sat h3⟩
end
section
open Go.RowKit
attribute [local irreducible] seqW awp zW zX zP Weak updS zZ retL Pure Acts rP setP setQ cP nP fr
set_option maxRecDepth 4096
theorem tdvN(a b:Nat):A1 (a:Int) (b:Int)=((a/b:Nat):Int):=(Int.ofNat_tdiv a b).symm
theorem tmdN(a b:Nat):AY (a:Int) (b:Int)=((a%b:Nat):Int):=(Int.ofNat_tmod a b).symm
abbrev zVa:List D:=[iD 0,iD 0, .val (.string ByteArray.empty)]
abbrev u8I(t:Nat):D:= .val (.int .u8 (t:Nat))
theorem set_skip(cs:List D)(o:Nat)(w:D)(ys:List D)(h:cs[o]?=Ai w):setAt cs (o+1) ys=setAt cs o (w::ys):=by
 have e:cs.set o w=cs:=by
  apply List.ext_getElem?;intro j;rw[List.getElem?_set];split
  ·rename_i e;subst e;rw[h,if_pos (Bc.1 h).1]
  rfl
 show _=setAt (cs.set o w) (o+1) ys;rw[e]
theorem morA_set(A:List (List Nat×List Rw))(k:Nat)(x:Rw)(hk:k<A.length):setAt (A.flatMap atN) (k*3+1) [iD ((A.getD k Ap).1.length:Nat), .row ((insR (A.getD k Ap).2 x).map rowV) (insR (A.getD k Ap).2 x).length]=(morA A k x).flatMap atN:=by
 have h1:=zHt zAd A k hk;have h2:(A.flatMap atN)[k*3]?=Ai (.row ((A.getD k Ap).1.map λv=>iD (v:Nat)) (A.getD k Ap).1.length):=by
  have:((A.flatMap atN).drop (k*3))[0]?=(A.flatMap atN)[k*3]?:=by rw[List.getElem?_drop,Nat.add_zero]
  rw[<-this,h1];rfl
 rw[set_skip _ _ _ _ h2];exact fl_set zAd A k ((A.getD k Ap).1,insR (A.getD k Ap).2 x) hk
set_option maxHeartbeats 16000000 in
theorem keeps_all(c:Cs)(h:c.Small)(ht:c.Typ)(r:Rw)(hr:r.length<=2000000)(hs:∀v∈r,v.str.length<=2000000)(t:Nat)(ht8:t<=255):Pure Al 7 [.agg (csC c),rowV r,u8I t] [] (bD Ac):=by
 obtain⟨m,ok,e,hm,hok,hw⟩:=wrong_c c h r hr hs;have haw:=awake50_c;cases ok;case false=>
  generalize c.ats m=ats at*;refine zG zAm mixed AZ rfl<|vAu<|vA<|vr 2 (6<=6)<|vc (hw)<|ve (0<3/\1<3/\2<3/\Ab=Ab/\Ac=Ac/\5=5/\5<=5)<|zB<|vAe<|vt<|vA<|vc (haw)<|veT<|zJ<|zH<|vret (True)<|.inr rfl
 obtain⟨rfl,q2,q3,q4,q5,q6⟩:=hok rfl;obtain⟨hr8,hsh⟩:=grt_sho q5;have hml:c.V.length<=5:=q4.V;have hck:=wchk_c c h (A4 _) r hr;rw[<-q6]at hck;by_cases he:e=0;case neg=>
  generalize c.ats c.V.length=ats at*;have e1:(e !=0)=true:=bne_iff_ne.2 he;refine zG zAm mixed AZ rfl<|vAu<|vA<|vr 2 (6<=6)<|vc (hw)<|ve (0<3/\1<3/\2<3/\Ab=Ab/\Ac=Ac/\5=5/\5<=5)<|zB<|vA<|vrT 5<|vs 35 (bD (e !=(0:Int))) (bD Ac) (hd:=by simp(disch:=omega) only[e1])<|veT<|vt<|vA<|vc (haw)<|veT<|zJ<|zH<|vret (True)<|.inr rfl
 subst he;obtain⟨hg,hf⟩:=good_of h ht q2 q3 q4 q6;have hA:=hg.ok;have hten:=hg.ten;obtain⟨g1,g2,g3,g4,_⟩:=Cs.ic hg.ck;have hicA:=hg.ck;rw[<-hg.toAt]at hicA;have hrn:r.length<=c.n.toNat:=by omega
 have hrf:r.length=c.f.toNat:=by omega
 rw[hg.inD]at hw hck;have hn8:=hA.n8;have hAl5:=hA.l;have hv32:=hA.v32;have hdl:=h.d;have hPl:=h.P;clear hg q6;rw[show c.n=(c.n.toNat:Nat) by omega,show c.f=(c.f.toNat:Nat) by omega]at hicA;generalize c.A=A at*;generalize hnn:c.n.toNat=n at*;generalize c.f.toNat=f at*;have hck:Pure Al 33 [.agg (inqC n f c.desc c.P (atsR A)),rowV r] [] (iD 0):=hck;have hw:Pure Al 8 [.agg (csC c),rowV r] [] (.tup [.agg (inqC n f c.desc c.P (atsR A)),iD 0,bD Ac]):=hw;by_cases ha:Ans n A r;case neg=>
  have hwy:Pure Al 12 [.agg (inqC n f c.desc c.P (atsR A)),rowV r] [] (.tup [.row [] 0,iD 9]):=whyNo_c n (f:Nat) (c.desc.map bD) (c.P.map λz=>iD z) c.desc.length c.P.length A r hA hrn ha hck;cases hz:((A.length:Int)==0)
  ·refine zG zAm mixed AZ rfl<|vAu<|vA<|vr 2 (6<=6)<|vc (hw)<|ve (0<3/\1<3/\2<3/\Ab=Ab/\Ac=Ac/\5=5/\5<=5)<|zB<|vA<|vr 11 (True/\True/\0<1/\True)<|vs 41 (bD ((Aa A:Int)==(0:Int))) (bD Ab) (hd:=by simp(disch:=omega) only[hz])<|veT<|vf<|vK<|vA<|vr 2 (5<=5)<|vc (hwy)<|ve (0<2/\1<2)<|zB<|vAe<|vt<|vA<|vc (haw)<|veT<|zJ<|zH<|vret (True)<|.inr rfl
  refine zG zAm mixed AZ rfl<|vAu<|vA<|vr 2 (6<=6)<|vc (hw)<|ve (0<3/\1<3/\2<3/\Ab=Ab/\Ac=Ac/\5=5/\5<=5)<|zB<|vA<|vr 11 (True/\True/\0<1/\True)<|vs 41 (bD ((Aa A:Int)==(0:Int))) (bD Ac) (hd:=by simp(disch:=omega) only[hz])<|veT<|vt<|vA<|vc (haw)<|veT<|zJ<|zH<|vret (True)<|.inr rfl
 rcases Nat.eq_zero_or_pos A.length with hz0|hpos
 ·have hz:((A.length:Int)==0)=true:=beq_iff_eq.2 (by omega);refine zG zAm mixed AZ rfl<|vAu<|vA<|vr 2 (6<=6)<|vc (hw)<|ve (0<3/\1<3/\2<3/\Ab=Ab/\Ac=Ac/\5=5/\5<=5)<|zB<|vA<|vr 11 (True/\True/\0<1/\True)<|vs 41 (bD ((Aa A:Int)==(0:Int))) (bD Ac) (hd:=by simp(disch:=omega) only[hz])<|veT<|vt<|vA<|vc (haw)<|veT<|zJ<|zH<|vret (True)<|.inr rfl
 have hz:((A.length:Int)==0)=false:=beq_eq_false_iff_ne.2 (by omega);obtain⟨y,y1,y2,hwy⟩:=why_c n (f:Nat) (c.desc.map bD) (c.P.map λz=>iD z) c.desc.length c.P.length A r hA hrn ha hck;have hwy:Pure Al 12 [.agg (inqC n f c.desc c.P (atsR A)),rowV r] [] (.tup [.row ((witL A y).flatMap witC) A.length,iD 0]):=hwy;obtain⟨z,z1,z2,z3⟩:=y1.a;have e:z=y:=by rw[<-z2,AS (by omega)]
 subst e;obtain⟨k,hk⟩:∃k,k=t%A.length:=⟨_,rfl⟩;have hkA:k<A.length:=by rw[hk];exact Nat.mod_lt _ hpos
 have hkt:AY (t:Int) (A.length:Int)=(k:Int):=by rw[tmdN,hk]
 obtain⟨u,hu⟩:∃u,u=t/8%4:=⟨_,rfl⟩;have hut:AY (A1 (t:Int) 8) 4=(u:Int):=by
  rw[show(8:Int)=((8:Nat):Int)from rfl,tdvN,show(4:Int)=((4:Nat):Int)from rfl,tmdN,hu]
 have hq8:(8:Int)≠0/\inK .i64 ((t:Int).tdiv 8):=by
  refine⟨by decide,?_⟩;rw[show(8:Int)=((8:Nat):Int)from rfl,tdvN];exact⟨by omega,by omega⟩
 have hu4:u<=4:=by rw[hu];omega
 have hcla:=cloneA_c (A.flatMap atN) A.length (zB5 zAd A) hpos (by omega);have hic:=icB_c n f c.desc c.P (A.eraseIdx k) hdl hPl (by rw[Bh hkA];omega) λb hb=>by have:=hv32 b (Bf hb);omega
 have hel:(A.eraseIdx k).length=A.length-1:=Bh hkA;have hqt:((A.eraseIdx k).flatMap atN++zGl).take ((A.length-1)*3)=(A.eraseIdx k).flatMap atN:=by
  rw[List.take_left' (by rw[zB5 zAd,hel])]
 have hic:Pure Al 11 [.agg (inqC n f c.desc c.P (.row ((A.eraseIdx k).flatMap atN) (A.length-1)))] [] (iD (icE n f c.desc.length c.P ((A.eraseIdx k).map toAt))):=by
  rw[<-hel];exact hic
 obtain⟨V,R,hVR⟩:∃V R,A.getD k Ap=(V,R):=⟨_,_,rfl⟩;have hin:=zAf A Ap k hkA;have hgk:=zHt zAd A k hkA;have hlek:=zFe zAd A k hkA;have hnek:=zFd zAd (by decide) A (h:=hpos);rw[hVR]at hin hgk;have hV32:V.length<=32:=hv32 _ hin;have hR10:R.length<=10:=hten _ hin;have hRl:∀x∈R,x.length=V.length:=hA.len _ hin;obtain⟨b,hins⟩:=insert_c R (numR u V.length) (V.length:Nat) (hA.srt _ hin) (by omega) (λx hx=>by have:=hRl x hx;omega) (by rw[zN8];omega) (List.all_eq_true.2 λv hv=>(zWa (by omega) (by omega) v hv).1) (by rw[zN8]);have hxl:=zN8 u V.length;have hBset:=morA_set A k (numR u V.length) hkA;have hBok:=morA_ok (k:=k) (x:=numR u V.length) hA hten hkA (by rw[hxl,hVR]) (zWa (by omega) (by omega));have hBans:=morA_ans (x:=numR u V.length) hkA ha;have hBic:=(morA_ic (A:=A) (k:=k) (x:=numR u V.length) (n:Nat) (f:Nat) c.desc.length c.P).trans hicA;have hBw:=morA_wit (A:=A) (k:=k) (x:=numR u V.length) z;have hBl:=zPb (A:=A) (k:=k) (x:=numR u V.length);have hBs:=zWf (x:=numR u V.length) hkA z3;rw[hVR]at hBset;have hA3:k*3+1+2<=(A.flatMap atN).length:=by rw[zB5 zAd];omega
 generalize morA A k (numR u V.length)=B at*;have hBset:((A.flatMap atN).set (k*3+1) (iD (V.length:Nat))).set (k*3+1+1) (.row ((insR R (numR u V.length)).map rowV) (insR R (numR u V.length)).length)=B.flatMap atN:=hBset;have hBtk:(B.flatMap atN).take (A.length*3)=B.flatMap atN:=AS (by rw[zB5 zAd,hBl];omega);have hBv32:=hBok.v32;have hicB:=icB_c n f c.desc c.P B hdl hPl (by omega) λb hb=>by have:=hBv32 b hb;omega
 rw[hBic]at hicB;have hckB:=wckB_c n f c.desc c.P (B.flatMap atN) B.length r hrf hicB;obtain⟨yB,_,_,hwyB⟩:=why_c n (f:Nat) (c.desc.map bD) (c.P.map λz=>iD z) c.desc.length c.P.length B r hBok hrn hBans hckB;have hchB:=chk_yes n f c.desc c.P B z r (by omega) (λa ha=>⟨by have:=hBv32 a ha;omega,λv hv=>by have:=hBok.lt a ha v hv;omega,hBok.srt a ha,by have:=hBok.few a ha;omega,λx hx=>by have:=hBok.len a ha x hx;have:=hBv32 a ha;omega,hBs a ha⟩) y1.t (by omega) hckB;have hwyB:Pure Al 12 [.agg (inqC n f c.desc c.P (.row (B.flatMap atN) B.length)),rowV r] [] (.tup [.row ((witL B yB).flatMap witC) B.length,iD 0]):=hwyB;have hchB:Pure Al 23 [.agg (inqC n f c.desc c.P (.row (B.flatMap atN) B.length)),rowV r, .row ((witL B z).flatMap witC) B.length] [] (bD Ac):=hchB;rw[hBw]at hchB;rw[hBl]at hchB hwyB;have hxt:∀i,i<V.length->(numR u V.length).take (i+1)=(numR u V.length).take i++[nuV ((u:Int)+(i:Int))]:=λi hi=>by
  rw[List.take_succ_eq_append_getElem (by omega)];unfold numR;rw[List.getElem_map,List.getElem_range];rfl
 generalize numR u V.length=x at*;have hins:∀m,m=x.length->Pure Al 28 [.agg [iD (V.length:Nat), .row (R.map rowV) R.length], .row (zL x) m] [] (.tup [.agg [iD (V.length:Nat), .row ((insR R x).map rowV) (insR R x).length],bD b,iD 0]):=λm hm=>by subst hm;exact hins
 have hins:=hins _ hxl.symm;have hxtk:(zL x).take (V.length*3)=zL x:=AS (by rw[zAp];omega);have r0:repL V.length zVa=filG vaC zVa [] V.length:=zRq V.length;by_cases hzl:icE (n:Nat) (f:Nat) c.desc.length c.P ((A.eraseIdx k).map toAt)=0
 ·have hcv:=ic_cov hzl;rw[AD]at hcv;have hlo:=hA.sub (B:=A.eraseIdx k) (by omega) (λb hb=>Bf hb) hcv;rw[hzl]at hic;have hckl:=wckB_c n f c.desc c.P ((A.eraseIdx k).flatMap atN) (A.length-1) r hrf hic;rw[<-hel]at hckl;obtain⟨yl,_,_,hwyl⟩:=why_c n (f:Nat) (c.desc.map bD) (c.P.map λz=>iD z) c.desc.length c.P.length (A.eraseIdx k) r hlo hrn (erA_ans ha) hckl;have hwyl:Pure Al 12 [.agg (inqC n f c.desc c.P (.row ((A.eraseIdx k).flatMap atN) (A.eraseIdx k).length)),rowV r] [] (.tup [.row ((witL (A.eraseIdx k) yl).flatMap witC) (A.eraseIdx k).length,iD 0]):=hwyl;rw[hel]at hwyl;refine zG (zEh 0 λg=>g==25) mixed AZ rfl<|vAu<|vA<|vr 2 (6<=6)<|vc (hw)<|ve (0<3/\1<3/\2<3/\Ab=Ab/\Ac=Ac/\5=5/\5<=5)<|zB<|vA<|vr 11 (True/\True/\0<1/\True)<|vs 41 (bD ((Aa A:Int)==(0:Int))) (bD Ab) (hd:=by simp(disch:=omega) only[hz])<|veT<|vf<|vK<|vA<|vr 2 (5<=5)<|vc (hwy)<|ve (0<2/\1<2)<|zB<|vAe<|vf<|vK<|vA<|vr 6 (i6 (t:Int)/\True/\0<1/\(Aa A:Int)≠(0:Int))<|vs 58 (iD<|AY (t:Int) (Aa A:Int)) (iD (k:Int)) (hd:=by simp(disch:=omega) only[hkt])<|veT<|vA<|ve (5<=5/\Ab=Ab/\Ac=Ac/\5=5/\5<=5)<|vA<|vr 2 (True/\0<1)<|vn (hcla)<|vr 3 (i6 ((k:Int)+(1:Int)))<|vnt [Aw [iD<|Cs.n c,iD<|Cs.f c,Ad (Ae bD<|Am c)<|Aa<|Am c,Ad (Ae (λ(z:Int)=>iD z)<|An c)<|Aa<|An c,Ad (Ae zBe<|Cs.V c)<|Aa<|Cs.V c,Ad (Ae zBx<|Cs.R c)<|Aa<|Cs.R c] 27 0 Ab Ab AH,Aw [iD (n:Int),iD (f:Int),Ad (Ae bD<|Am c)<|Aa<|Am c,Ad (Ae (λ(z:Int)=>iD z)<|An c)<|Aa<|An c,Ad (Af atN A)<|Aa A] 32 0 Ab Ab AH,Aw [iD (n:Int),iD (f:Int),Ad (Ae bD<|Am c)<|Aa<|Am c,Ad (Ae (λ(z:Int)=>iD z)<|An c)<|Aa<|An c,Ad (Af atN A)<|Aa A] 32 0 Ab Ab AH,atmK<|Af atN A]<|zAx [] [] [AC 3 0 (Aa A) (Aa A*3) Ac,iD (k:Int),iD ((k:Int)+(1:Int))] [AC 3 0 (Aa A) (Aa A*3) Ac,iD (k:Int),iD ((k:Int)+(1:Int))] (AF _) (by exact delA_c A _ _ k _ _ rfl rfl hkA (by omega)) ?_;refine v0s<|ve (True/\Ab=Ab/\Ac=Ac/\1=1/\5<=5)<|zB<|vA<|vr 1 (5<=5)<|vcl [Ar [iD n,iD f,Ad (Ae bD<|Am c)<|Aa<|Am c,Ad (Ae (λ(z:Int)=>iD z)<|An c)<|Aa<|An c,Ad (Au ((Aa A-1)*3)<|Ag 0 (Af atN (A2 A k)++zGl)) (Aa A-1)]] [Ar [iD n,iD f,Ad (Ae bD<|Am c)<|Aa<|Am c,Ad (Ae (λ(z:Int)=>iD z)<|An c)<|Aa<|An c,Ad (Af atN<|A2 A k) (Aa A-1)]] (AQ (by simp(disch:=omega) only[AJ,hqt])) (by exact hic)<|veT<|vt<|vA<|vr 2 (5<=5)<|vcl [Ar [iD n,iD f,Ad (Ae bD<|Am c)<|Aa<|Am c,Ad (Ae (λ(z:Int)=>iD z)<|An c)<|Aa<|An c,Ad (Au ((Aa A-1)*3)<|Ag 0 (Af atN (A2 A k)++zGl)) (Aa A-1)],Ad (zL r)<|Aa r] [Ar [iD n,iD f,Ad (Ae bD<|Am c)<|Aa<|Am c,Ad (Ae (λ(z:Int)=>iD z)<|An c)<|Aa<|An c,Ad (Af atN<|A2 A k) (Aa A-1)],Ad (zL r)<|Aa r] (AQ (by simp(disch:=omega) only[AJ,hqt])) (by exact hwyl)<|ve (0<2/\1<2)<|vAe<|vf<|vK<|vA<|ve (5<=5/\Ab=Ab/\Ac=Ac/\5=5/\5<=5)<|vA<|vr 2 (True/\0<1)<|vn hcla ?_;refine ve (True/\Ab=Ab/\Ac=Ac/\1=1/\5<=5)<|vA<|vr 4 (True/\0<1/\ix ↑k ↑(Aa A) (Af atN A≠[]))<|vs 87 (AE<|Ag (Av (k:Int)*3)<|Af atN A) (AE (Ad (Ae (λ(v:Nat)=>iD v) V) (Aa V)::iD (Aa V)::Ad (Ae rowV R) (Aa R)::Af atN (Ag (k+1) A))) (hd:=by simp(disch:=omega) only[AD,AW,AX,hgk])<|ve (True/\0<Aa (Ad (Ae (λ(v:Nat)=>iD v) V) (Aa V)::iD (Aa V)::Ad (Ae rowV R) (Aa R)::Af atN (Ag (k+1) A))/\(0:Int)<=(Aa V:Int)/\(Aa V:Int)<=(Aa V:Int)/\(↑(32:Nat):Int)*(Aa V:Int)<=(281474976710656:Int)/\(Aa V:Int)<=(281474976710656:Int)/\0<3/\3=3)<|zB<|vAe<|zF<|zS (λ(i:Nat)=>fr 147 [(1,rowV r),(2,u8I t),(6,bD Ab),(7,Ah 1 0),(10,Ad (Af witC<|witL A z)<|Aa A),(12,iD k),(16,Ah 4 0),(17,AC 6 0 (Aa V) (Aa V*3) Ac),(93,iD<|Aa V),(94,iD i)]) (λ(i:Nat)=>[csB c,inqB n f c.desc c.P<|atsR A,inqB n f c.desc c.P<|.osl 3 0 (A.length-1) ((A.length-1)*3) Ab,⟨(A.eraseIdx k).flatMap atN++zGl,45,3,Ac,Ac,.plain⟩,inqB n f c.desc c.P<|.osl 5 0 A.length (A.length*3) Ac,atmK<|A.flatMap atN,vaK (filG vaC zVa (x.take i) V.length) Ab]) (λi=>V.length-i) (λ(i:Nat)=>i<=V.length) 0 ?_ ?_ ?_
  ·omega
  ·refine vk 7
  rintro i i1;have hxi:(x.take i).length=i:=by rw[AV];omega
  rcases AL i V.length with i2|i2
  ·have hset:=zGb (g:=vaC) (c:=3) (z:=zVa) (λ_=>rfl) rfl (x.take i) V.length (nuV ((u:Int)+(i:Int))) (by omega);rw[hxi,<-hxt i i2]at hset;have hfl:=zGc (g:=vaC) (c:=3) (L:=x.take i) (z:=zVa) (n:=V.length) (λ_=>rfl) rfl (by omega);generalize filG vaC zVa (x.take i) V.length=C at*;have hC3:i*3+3<=C.length:=by omega
   have hset2:((C.set (i*3) (iD 1)).set (i*3+1) (iD ((u:Int)+(i:Int)))).set (i*3+1+1) (.val (.string (bs [])))=filG vaC zVa (x.take (i+1)) V.length:=hset;have hnu:=zGr ((u:Int)+(i:Int));refine vAu<|zB<|vT ((i:Int)<↑(Aa V))<|vKB<|vAe<|zA rfl<|vr 6 (i6 (t:Int)/\((8:Int)≠(0:Int)/\inK Aq (A1 (t:Int) (8:Int)))/\(4:Int)≠(0:Int))<|vs 102 (iD<|AY (A1 (t:Int) (8:Int)) (4:Int)) (iD u) (hd:=by simp(disch:=omega) only[hut])<|vr 2 (i6 ((u:Int)+(i:Int)))<|vc hnu<|vr 1 ((0:Int)<=(i:Int)/\(i:Int)<↑(Aa V))<|vo0 106 6 (i*3)<|vr 1 (Bk.fz (vaK C Ab)=Ab/\Ac=Ac/\3=3/\i*3+3<=Aa (AU<|vaK C Ab)/\¬6∈[])<|vnil<|zE<|vN<|zA rfl<|vr 2 (i6 (↑i+1))<|vnil<|zC<|⟨i+1,by omega,by omega,?_⟩;rw[<-hset2];refine vk 7
  obtain rfl:i=V.length:=by omega
  have hxf:filG vaC zVa (x.take V.length) V.length=zL x:=by
   rw[AS (by omega)]
   have:=zGd (g:=vaC) (z:=zVa) x
   rw[hxl]at this;exact this
  rw[hxf];refine vAu<|zB<|vF ((Aa V:Int)<↑(Aa V))<|vZ2<|vA<|vr 4 (True/\0<1/\ix ↑k ↑(Aa A) (Af atN A≠[]))<|vs 112 (AE<|Ag (Av (k:Int)*3)<|Af atN A) (AE (Ad (Ae (λ(v:Nat)=>iD v) V) (Aa V)::iD (Aa V)::Ad (Ae rowV R) (Aa R)::Af atN (Ag (k+1) A))) (hd:=by simp(disch:=omega) only[AD,AW,AX,hgk])<|vr 3 (True/\2<=Aa (iD (Aa V)::Ad (Ae rowV R) (Aa R)::Af atN (Ag (k+1) A)))<|vcl [Ar [iD<|Aa V,Ad (Ae rowV R)<|Aa R],Ad (Au (Aa V*3)<|Ag 0<|AU<|vaK (zL x) Ab)<|Aa V] [Ar [iD<|Aa V,Ad (Ae rowV R)<|Aa R],Ad (zL x)<|Aa V] (AQ (by simp(disch:=omega) only[AJ,hxtk])) (by exact hins)<|ve (0<3/\1<3/\2<3/\Ab=Ab/\Ac=Ac/\2=2/\2<=2)<|vA<|vr 5 (True/\0<1/\2<=2/\(0:Int)<=(k:Int)/\(k:Int)<↑(Aa A))<|vo0 124 5 (k*3)<|vr 2 (True/\Bk.fz (atmK<|Af atN A)=Ab/\Ac=Ac/\2=2/\k*3+1+2<=Aa (AU<|atmK<|Af atN A)/\¬5∈[])<|vb 5 (Aw (setAt (AU<|atmK<|Af atN A) (k*3+1) [iD<|Aa V,Ad (Ae rowV<|insR R x)<|Aa<|insR R x]) (Bk.ty<|atmK<|Af atN A) (Bk.sz<|atmK<|Af atN A) Ac Ab<|Bk.kd<|atmK<|Af atN A) (Aw (Af atN B) (45:TypeId) 3 Ac Ab AH) (hd:=by simp(disch:=omega) only[setAt,hBset])<|veT<|vA<|vr 2 (5<=5)<|vcl [Ar [iD n,iD f,Ad (Ae bD<|Am c)<|Aa<|Am c,Ad (Ae (λ(z:Int)=>iD z)<|An c)<|Aa<|An c,Ad (Au (Aa A*3)<|Ag 0<|Af atN B)<|Aa A],Ad (zL r)<|Aa r] [Ar [iD n,iD f,Ad (Ae bD<|Am c)<|Aa<|Am c,Ad (Ae (λ(z:Int)=>iD z)<|An c)<|Aa<|An c,Ad (Af atN B)<|Aa A],Ad (zL r)<|Aa r] (AQ (by simp(disch:=omega) only[AJ,hBtk])) (by exact hwyB)<|ve (0<2/\1<2)<|vA<|vr 10 (True/\True/\5<=5)<|vcl [Ar [iD n,iD f,Ad (Ae bD<|Am c)<|Aa<|Am c,Ad (Ae (λ(z:Int)=>iD z)<|An c)<|Aa<|An c,Ad (Au (Aa A*3)<|Ag 0<|Af atN B)<|Aa A],Ad (zL r)<|Aa r,Ad (Af witC<|witL A z)<|Aa A] [Ar [iD n,iD f,Ad (Ae bD<|Am c)<|Aa<|Am c,Ad (Ae (λ(z:Int)=>iD z)<|An c)<|Aa<|An c,Ad (Af atN B)<|Aa A],Ad (zL r)<|Aa r,Ad (Af witC<|witL A z)<|Aa A] (AQ (by simp(disch:=omega) only[AJ,hBtk])) (by exact hchB)<|vrT 2<|vc haw<|veT<|zJ<|vret (True)<|.inr rfl
 generalize icE (n:Nat) (f:Nat) c.desc.length c.P ((A.eraseIdx k).map toAt)=q at*;have e1:(q==0)=false:=beq_eq_false_iff_ne.2 hzl;have e2:(q !=0)=true:=bne_iff_ne.2 hzl;refine zG (zEh 0 λg=>g==25) mixed AZ rfl<|vAu<|vA<|vr 2 (6<=6)<|vc (hw)<|ve (0<3/\1<3/\2<3/\Ab=Ab/\Ac=Ac/\5=5/\5<=5)<|zB<|vA<|vr 11 (True/\True/\0<1/\True)<|vs 41 (bD ((Aa A:Int)==(0:Int))) (bD Ab) (hd:=by simp(disch:=omega) only[hz])<|veT<|vf<|vK<|vA<|vr 2 (5<=5)<|vc (hwy)<|ve (0<2/\1<2)<|zB<|vAe<|vf<|vK<|vA<|vr 6 (i6 (t:Int)/\True/\0<1/\(Aa A:Int)≠(0:Int))<|vs 58 (iD<|AY (t:Int) (Aa A:Int)) (iD (k:Int)) (hd:=by simp(disch:=omega) only[hkt])<|veT<|vA<|ve (5<=5/\Ab=Ab/\Ac=Ac/\5=5/\5<=5)<|vA<|vr 2 (True/\0<1)<|vn (hcla)<|vr 3 (i6 ((k:Int)+(1:Int)))<|vnt [Aw [iD<|Cs.n c,iD<|Cs.f c,Ad (Ae bD<|Am c)<|Aa<|Am c,Ad (Ae (λ(z:Int)=>iD z)<|An c)<|Aa<|An c,Ad (Ae zBe<|Cs.V c)<|Aa<|Cs.V c,Ad (Ae zBx<|Cs.R c)<|Aa<|Cs.R c] 27 0 Ab Ab AH,Aw [iD (n:Int),iD (f:Int),Ad (Ae bD<|Am c)<|Aa<|Am c,Ad (Ae (λ(z:Int)=>iD z)<|An c)<|Aa<|An c,Ad (Af atN A)<|Aa A] 32 0 Ab Ab AH,Aw [iD (n:Int),iD (f:Int),Ad (Ae bD<|Am c)<|Aa<|Am c,Ad (Ae (λ(z:Int)=>iD z)<|An c)<|Aa<|An c,Ad (Af atN A)<|Aa A] 32 0 Ab Ab AH,atmK<|Af atN A]<|zAx [] [] [AC 3 0 (Aa A) (Aa A*3) Ac,iD (k:Int),iD ((k:Int)+(1:Int))] [AC 3 0 (Aa A) (Aa A*3) Ac,iD (k:Int),iD ((k:Int)+(1:Int))] (AF _) (by exact delA_c A _ _ k _ _ rfl rfl hkA (by omega)) ?_;refine v0s<|ve (True/\Ab=Ab/\Ac=Ac/\1=1/\5<=5)<|zB<|vA<|vr 1 (5<=5)<|vcl [Ar [iD n,iD f,Ad (Ae bD<|Am c)<|Aa<|Am c,Ad (Ae (λ(z:Int)=>iD z)<|An c)<|Aa<|An c,Ad (Au ((Aa A-1)*3)<|Ag 0 (Af atN (A2 A k)++zGl)) (Aa A-1)]] [Ar [iD n,iD f,Ad (Ae bD<|Am c)<|Aa<|Am c,Ad (Ae (λ(z:Int)=>iD z)<|An c)<|Aa<|An c,Ad (Af atN<|A2 A k) (Aa A-1)]] (AQ (by simp(disch:=omega) only[AJ,hqt])) (by exact hic)<|vrT 1<|vs 70 (bD (q==(0:Int))) (bD Ab) (hd:=by simp(disch:=omega) only[e1])<|veT<|vf<|vK<|vA<|ve (5<=5/\Ab=Ab/\Ac=Ac/\5=5/\5<=5)<|vA<|vr 2 (True/\0<1)<|vn hcla<|ve (True/\Ab=Ab/\Ac=Ac/\1=1/\5<=5)<|vA<|vr 4 (True/\0<1/\ix ↑k ↑(Aa A) (Af atN A≠[]))<|vs 87 (AE<|Ag (Av (k:Int)*3)<|Af atN A) (AE (Ad (Ae (λ(v:Nat)=>iD v) V) (Aa V)::iD (Aa V)::Ad (Ae rowV R) (Aa R)::Af atN (Ag (k+1) A))) (hd:=by simp(disch:=omega) only[AD,AW,AX,hgk])<|ve (True/\0<Aa (Ad (Ae (λ(v:Nat)=>iD v) V) (Aa V)::iD (Aa V)::Ad (Ae rowV R) (Aa R)::Af atN (Ag (k+1) A))/\(0:Int)<=(Aa V:Int)/\(Aa V:Int)<=(Aa V:Int)/\(↑(32:Nat):Int)*(Aa V:Int)<=(281474976710656:Int)/\(Aa V:Int)<=(281474976710656:Int)/\0<3/\3=3)<|zB<|vAe<|zF<|zS (λ(i:Nat)=>fr 147 [(1,rowV r),(2,u8I t),(6,bD Ab),(7,Ah 1 0),(10,Ad (Af witC<|witL A z)<|Aa A),(12,iD k),(16,Ah 4 0),(17,AC 6 0 (Aa V) (Aa V*3) Ac),(93,iD<|Aa V),(94,iD i)]) (λ(i:Nat)=>[csB c,inqB n f c.desc c.P<|atsR A,inqB n f c.desc c.P<|.osl 3 0 (A.length-1) ((A.length-1)*3) Ab,⟨(A.eraseIdx k).flatMap atN++zGl,45,3,Ac,Ac,.plain⟩,inqB n f c.desc c.P<|.osl 5 0 A.length (A.length*3) Ac,atmK<|A.flatMap atN,vaK (filG vaC zVa (x.take i) V.length) Ab]) (λi=>V.length-i) (λ(i:Nat)=>i<=V.length) 0 ?_ ?_ ?_
 ·omega
 ·refine vk 7
 rintro i i1;have hxi:(x.take i).length=i:=by rw[AV];omega
 rcases AL i V.length with i2|i2
 ·have hset:=zGb (g:=vaC) (c:=3) (z:=zVa) (λ_=>rfl) rfl (x.take i) V.length (nuV ((u:Int)+(i:Int))) (by omega);rw[hxi,<-hxt i i2]at hset;have hfl:=zGc (g:=vaC) (c:=3) (L:=x.take i) (z:=zVa) (n:=V.length) (λ_=>rfl) rfl (by omega);generalize filG vaC zVa (x.take i) V.length=C at*;have hC3:i*3+3<=C.length:=by omega
  have hset2:((C.set (i*3) (iD 1)).set (i*3+1) (iD ((u:Int)+(i:Int)))).set (i*3+1+1) (.val (.string (bs [])))=filG vaC zVa (x.take (i+1)) V.length:=hset;have hnu:=zGr ((u:Int)+(i:Int));refine vAu<|zB<|vT ((i:Int)<↑(Aa V))<|vKB<|vAe<|zA rfl<|vr 6 (i6 (t:Int)/\((8:Int)≠(0:Int)/\inK Aq (A1 (t:Int) (8:Int)))/\(4:Int)≠(0:Int))<|vs 102 (iD<|AY (A1 (t:Int) (8:Int)) (4:Int)) (iD u) (hd:=by simp(disch:=omega) only[hut])<|vr 2 (i6 ((u:Int)+(i:Int)))<|vc hnu<|vr 1 ((0:Int)<=(i:Int)/\(i:Int)<↑(Aa V))<|vo0 106 6 (i*3)<|vr 1 (Bk.fz (vaK C Ab)=Ab/\Ac=Ac/\3=3/\i*3+3<=Aa (AU<|vaK C Ab)/\¬6∈[])<|vnil<|zE<|vN<|zA rfl<|vr 2 (i6 (↑i+1))<|vnil<|zC<|⟨i+1,by omega,by omega,?_⟩;rw[<-hset2];refine vk 7
 obtain rfl:i=V.length:=by omega
 have hxf:filG vaC zVa (x.take V.length) V.length=zL x:=by
  rw[AS (by omega)]
  have:=zGd (g:=vaC) (z:=zVa) x
  rw[hxl]at this;exact this
 rw[hxf];refine vAu<|zB<|vF ((Aa V:Int)<↑(Aa V))<|vZ2<|vA<|vr 4 (True/\0<1/\ix ↑k ↑(Aa A) (Af atN A≠[]))<|vs 112 (AE<|Ag (Av (k:Int)*3)<|Af atN A) (AE (Ad (Ae (λ(v:Nat)=>iD v) V) (Aa V)::iD (Aa V)::Ad (Ae rowV R) (Aa R)::Af atN (Ag (k+1) A))) (hd:=by simp(disch:=omega) only[AD,AW,AX,hgk])<|vr 3 (True/\2<=Aa (iD (Aa V)::Ad (Ae rowV R) (Aa R)::Af atN (Ag (k+1) A)))<|vcl [Ar [iD<|Aa V,Ad (Ae rowV R)<|Aa R],Ad (Au (Aa V*3)<|Ag 0<|AU<|vaK (zL x) Ab)<|Aa V] [Ar [iD<|Aa V,Ad (Ae rowV R)<|Aa R],Ad (zL x)<|Aa V] (AQ (by simp(disch:=omega) only[AJ,hxtk])) (by exact hins)<|ve (0<3/\1<3/\2<3/\Ab=Ab/\Ac=Ac/\2=2/\2<=2)<|vA<|vr 5 (True/\0<1/\2<=2/\(0:Int)<=(k:Int)/\(k:Int)<↑(Aa A))<|vo0 124 5 (k*3)<|vr 2 (True/\Bk.fz (atmK<|Af atN A)=Ab/\Ac=Ac/\2=2/\k*3+1+2<=Aa (AU<|atmK<|Af atN A)/\¬5∈[])<|vb 5 (Aw (setAt (AU<|atmK<|Af atN A) (k*3+1) [iD<|Aa V,Ad (Ae rowV<|insR R x)<|Aa<|insR R x]) (Bk.ty<|atmK<|Af atN A) (Bk.sz<|atmK<|Af atN A) Ac Ab<|Bk.kd<|atmK<|Af atN A) (Aw (Af atN B) (45:TypeId) 3 Ac Ab AH) (hd:=by simp(disch:=omega) only[setAt,hBset])<|veT<|vA<|vr 2 (5<=5)<|vcl [Ar [iD n,iD f,Ad (Ae bD<|Am c)<|Aa<|Am c,Ad (Ae (λ(z:Int)=>iD z)<|An c)<|Aa<|An c,Ad (Au (Aa A*3)<|Ag 0<|Af atN B)<|Aa A],Ad (zL r)<|Aa r] [Ar [iD n,iD f,Ad (Ae bD<|Am c)<|Aa<|Am c,Ad (Ae (λ(z:Int)=>iD z)<|An c)<|Aa<|An c,Ad (Af atN B)<|Aa A],Ad (zL r)<|Aa r] (AQ (by simp(disch:=omega) only[AJ,hBtk])) (by exact hwyB)<|ve (0<2/\1<2)<|vA<|vr 10 (True/\True/\5<=5)<|vcl [Ar [iD n,iD f,Ad (Ae bD<|Am c)<|Aa<|Am c,Ad (Ae (λ(z:Int)=>iD z)<|An c)<|Aa<|An c,Ad (Au (Aa A*3)<|Ag 0<|Af atN B)<|Aa A],Ad (zL r)<|Aa r,Ad (Af witC<|witL A z)<|Aa A] [Ar [iD n,iD f,Ad (Ae bD<|Am c)<|Aa<|Am c,Ad (Ae (λ(z:Int)=>iD z)<|An c)<|Aa<|An c,Ad (Af atN B)<|Aa A],Ad (zL r)<|Aa r,Ad (Af witC<|witL A z)<|Aa A] (AQ (by simp(disch:=omega) only[AJ,hBtk])) (by exact hchB)<|vrT 2<|vc haw<|veT<|zJ<|vret (True)<|.inr rfl
end
end Go.Proofs.YthmfohpkimflhaaGreatDoor
