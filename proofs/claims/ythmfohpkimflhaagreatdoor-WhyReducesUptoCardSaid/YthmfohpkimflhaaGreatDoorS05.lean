/- Texts of this claim, joined. -/
import Derived.Test.YthmfohpkimflhaaGreatDoorS04
set_option linter.unusedVariables false
set_option linter.unusedSimpArgs false
namespace Go.Proofs.YthmfohpkimflhaaGreatDoor
open _root_.List renaming length->Aa,map->Ad,drop->An,flatMap->Ar,take->Ay,length_map->AF,mem_map->AG,range->AH,drop_zero->AI,take_length->AK,map_append->AL,length_take->AM,getD_eq_getElem?_getD->AN
open _root_.Bool renaming false->Ab,true->Ac
open D renaming row->Ae,own->Af,val->Ah
open IntKind renaming u32->Ag,wrap->Aq
open _root_.Go.Proofs.Tryz renaming prog->Ai,func3->AJ
open Value renaming int->Aj,string->Ap
open _root_.BitVec renaming ofInt->Ak,toNat->Aw
open Cs renaming desc->Al,P->Am
open _root_.Option renaming some->Ao
open LeL renaming refl->As
open Kd renaming plain->Au
open _root_.Int renaming toNat->Av,toNat_natCast->Az
open Bk renaming mk->Ax
open _root_.Inhabited renaming default->AA
open TypeInfo renaming desc->AB,mk->AC
open TypeDesc renaming int->AD
open _root_.Nat renaming lt_or_ge->AE
open _root_.Classical renaming byContradiction->AO
open Go.RowKit
section
attribute [local irreducible] seqW awp zV zX zQ Weak updS zZ retL Pure Acts rP setP setQ cP nP fr
set_option maxRecDepth 4096
abbrev u32V(s:Nat):Value:= .int .u32 (s:Int)
abbrev aaK(A:List (List Nat×List Rw)):Bk:=⟨[.row (A.flatMap atN) A.length],30,0,Ab,Ab, .plain⟩
abbrev knB:Bk:=⟨[.mref 1],110,0,Ab,Ab, .plain⟩
abbrev knM(al:Nat->Bool)(ks:List Nat):Bk:=⟨ks.map λs=>bD (al s),110,0,Ac,Ab, .map (ks.map u32V)⟩
abbrev kS(A:List (List Nat×List Rw))(al:Nat->Bool)(ks:List Nat):List Bk:=[aaK A,knM al ks,knB]
abbrev alF:D:= .clo (.func 55) [] [.own 2 0, .own 0 0]
theorem mfind_u(U:List Nat)(z:Nat):zD3 (U.map u32V) (u32V z)=if z∈U then Ao (U.idxOf z)else none:=by
 unfold zD3;rw[List.findIdx?_map];have e:(vEq (u32V z)∘u32V)=λx=>decide (z=x):=by
  funext x;show(((z:Nat):Int)==((x:Nat):Int))=decide (z=x);rw[Bool.eq_iff_iff,beq_iff_eq,decide_eq_true_eq];omega
 rw[e];induction U with
 |nil=>rfl
 | cons s U ih=>
  rw[List.findIdx?_cons,ih];by_cases e:z=s
  ·subst e;simp
  have e2:(s==z)=false:=by simpa using λh:s=z=>e h.symm
  simp only[e,decide_false,Bool.false_eq_true,if_false,List.mem_cons,false_or,List.idxOf_cons,e2,cond_false];split<;>simp
theorem look_u(al:Nat->Bool)(U:List Nat)(z:Nat):zFg Ac (bD Ab) (U.map u32V) (U.map λs=>bD (al s)) (u32V z)= .tup [bD (decide (z∈U)&&al z),bD (decide (z∈U))]:=by
 unfold zFg;rw[mfind_u];by_cases h:z∈U
 ·rw[if_pos h]
  have:=List.idxOf_lt_length_iff.2 h
  simp[ctD,AN,this,h,List.getElem_idxOf this]
 rw[if_neg h];simp[ctD,h]
theorem mput_u(al:Nat->Bool)(U:List Nat)(z:Nat)(h:z∉U):mput (knM al U) (U.map u32V) (u32V z) (bD (al z))=knM al (U++[z]):=by
 unfold mput;rw[mfind_u,if_neg h];simp
theorem fits_u(U:List Nat):(U.map u32V).all (zY (.int .u32))=true:=by simp[zY]
theorem twcK{N:Nat}{i:FuncId->Bool}:∀k,N<=k->(Twc N i).keep k=false:=λk hk=>decide_eq_false (by omega)
section
variable {A : List (List Nat × List Rw)} (h : AtW A)
include h
set_option maxHeartbeats 2000000 in
theorem zHn(ks:List Nat)(s:Nat)(hs:s<4294967296):Acts Ai 55 [u32D s, .own 2 0, .own 0 0] (kS A (alB A) ks) [] (bD (alB A s)) (kS A (alB A) (kput ks s)):=by
 have hl5:=h.l;have hch:=chosen_c A (by omega) s hs;have hsa:=satC_c h s;have hlk:=look_u (alB A) ks s;unfold kput;by_cases hk:s∈ks
 ·rw[if_pos hk];rw[decide_eq_true hk,Bool.true_and]at hlk;generalize alB A s=b at*;refine zAk (zJu 3 λ_=>Ab) mixed Tryz.func55 rfl (λk hk=>decide_eq_true hk) ?_;focus
   refine zB (zA rfl (v0s (veT (zB (zB (zA rfl (vwh 3 [] [] (0<1/\zY (AB (AC (AD Ag) "uint32" 1 4 Ab 4 4 (Ao (Aj Ag (0:Int))) Ac #[])) (Aj Ag (s:Int))=Ac/\List.all (Ad u32V ks) (zY (AB (AC (AD Ag) "uint32" 1 4 Ab 4 4 (Ao (Aj Ag (0:Int))) Ac #[])))=Ac) ⟨(by omega),?_⟩ ?_)))))));rotate_left;refine vsh 11 hlk (ve (0<2/\1<2) (zB (zA rfl (veT (vt (zB (zA rfl (veT (zJ (zG (zAi (True) [Ah (Value.bool b)] (.inr rfl) ?_)))))))))));rotate_left
  ·exact⟨rfl,fits_u _⟩
  exact⟨by kernel_rfl,by kernel_rfl⟩
 rw[if_neg hk];rw[decide_eq_false hk,Bool.false_and]at hlk;have hmp:=mput_u (alB A) ks s hk;generalize alB A s=b at*;refine zAk (zJu 3 λ_=>Ab) mixed Tryz.func55 rfl (λk hk=>decide_eq_true hk) ?_;focus
  refine zB (zA rfl (v0s (veT (zB (zB (zA rfl (vwh 3 [] [] (0<1/\zY (AB (AC (AD Ag) "uint32" 1 4 Ab 4 4 (Ao (Aj Ag (0:Int))) Ac #[])) (Aj Ag (s:Int))=Ac/\List.all (Ad u32V ks) (zY (AB (AC (AD Ag) "uint32" 1 4 Ab 4 4 (Ao (Aj Ag (0:Int))) Ac #[])))=Ac) ⟨(by omega),?_⟩ ?_)))))));rotate_left;refine vsh 11 hlk (ve (0<2/\1<2) (zB (zA rfl (veT (vf (zK (zC (zD (zB (zA rfl (vr 2 (0<1) (vc (hch) (vc (hsa) (veT (zB (zA rfl (vwh 4 [] [] (0<1/\Bk.fz (knM (alB A) ks)=Ab/\zY (AB (AC (AD Ag) "uint32" 1 4 Ab 4 4 (Ao (Aj Ag (0:Int))) Ac #[])) (Aj Ag (s:Int))=Ac/\List.all (Ad u32V ks) (zY (AB (AC (AD Ag) "uint32" 1 4 Ab 4 4 (Ao (Aj Ag (0:Int))) Ac #[])))=Ac/\¬1∈[]) ⟨(by omega),?_⟩ ?_)))))))))))))))));rotate_left;refine vb 1 (mput (knM (alB A) ks) (Ad u32V ks) (Aj Ag (s:Int)) (bD b)) (knM (alB A) (ks++[s])) (hd:=by simp(disch:=omega) only[hmp]) (veT (zB (zA rfl (veT (zJ (zAi (True) [Ah (Value.bool b)] (.inr rfl) ?_))))));rotate_left
 ·exact⟨rfl,fits_u _⟩
 ·exact⟨rfl,rfl,fits_u _,by decide⟩
 exact⟨by kernel_rfl,by kernel_rfl⟩
set_option maxHeartbeats 2000000 in
theorem indexA_a(ks sets:List Nat)(hb:sets.length<=100000000)(hs:∀s∈sets,s<4294967296):∃z:Int,((z=-1/\sets.find? (alB A)=none)\/∃p:Nat,p<sets.length/\z=p/\sets.find? (alB A)=Ao (sets.getD p 0))/\Acts Ai 77 [.row (sets.map u32D) sets.length,alF] (kS A (alB A) ks) [] (iD z) (kS A (alB A) (idxK (alB A) sets ks)):=by
 rcases fst_or (alB A) sets with⟨p,p1,p2,p3⟩|hno
 ·obtain⟨f1,f2⟩:=find_aa p1 p2 p3;refine⟨p, .inr ⟨p,p1,rfl,f1⟩,?_⟩;unfold idxK;rw[f2];simp only;clear f1 f2;refine zAk (zJu 3 λf=>f==55) mixed Tryz.func77 rfl (λk hk=>decide_eq_true hk)<|zB<|zA rfl<|v0s<|veT<|zB<|zB<|zA rfl<|veT<|zF<|zR (λ(i:Nat)=>fr 19 [(0,Ae (Ad u32D sets)<|Aa sets),(1,alF),(7,iD (Aa sets:Int)),(8,iD (i:Int))]) (λ(i:Nat)=>kS A (alB A) (zJx ks<|sets.take i)) (λ(i:Nat)=>p-i) (λ(i:Nat)=>i<=p) 0 ?_ ?_ ?_
  ·omega
  ·refine vk 3 ?_;exact twcK
  rintro i h1;have hx:=zB8 sets i (by omega);have hne:sets.map u32D≠[]:=zAb;have hm:=zHn h (zJx ks (sets.take i)) (sets.getD i 0) (zEx hs (by omega));rw[<-zMy,<-zDs sets i (by omega)]at hm;rcases AE i p with h2|h2
  ·rw[p3 i h2]at hm;generalize sets.getD i 0=s at*;refine zB<|zA rfl<|v0s<|veT<|zB<|vT ((i:Int)<(Aa sets:Int))<|zK<|zC<|zD<|zB<|zF<|zB<|zA rfl<|veT<|zB<|zA rfl<|vr 4 (ix (i:Int) (Aa sets:Int) (Ad u32D sets≠[]))<|vp 14 (i) (Ad u32D sets)<|vr 1 (0<Aa (An i<|Ad u32D sets))<|vsh 15 hx<|vnt [aaK A,knM (alB A)<|zJx ks<|Ay i sets,knB]<|zA2 [] [] [dig s,Af 2 0,Af 0 0] [dig s,Af 2 0,Af 0 0] (As _) (by exact hm) ?_;refine v0s<|veT<|vf<|zK<|zE<|zC<|zD<|zA rfl<|vr 2 (i6 ((i:Int)+(1:Int)))<|vnil<|zC<|⟨i+1,by omega,by omega,?_⟩;refine vk 3 ?_;exact twcK
  obtain rfl:i=p:=by omega
  rw[p2]at hm;generalize sets.getD i 0=s at*;refine zB<|zA rfl<|v0s<|veT<|zB<|vT ((i:Int)<(Aa sets:Int))<|zK<|zC<|zD<|zB<|zF<|zB<|zA rfl<|veT<|zB<|zA rfl<|vr 4 (ix (i:Int) (Aa sets:Int) (Ad u32D sets≠[]))<|vp 14 (i) (Ad u32D sets)<|vr 1 (0<Aa (An i<|Ad u32D sets))<|vsh 15 hx<|vnt [aaK A,knM (alB A)<|zJx ks<|Ay i sets,knB]<|zA2 [] [] [dig s,Af 2 0,Af 0 0] [dig s,Af 2 0,Af 0 0] (As _) (by exact hm) ?_;refine v0s<|veT<|vt<|zB<|zA rfl<|veT<|zJ<|zN<|zG<|zG<|zN<|zG<|zAi (True) [Ah<|Aj IntKind.i64 (i:Int)] (.inr rfl) ?_;exact⟨by kernel_rfl,by kernel_rfl⟩
 obtain⟨f1,f2⟩:=find_nn hno;refine⟨-1, .inl ⟨rfl,f1⟩,?_⟩;unfold idxK;rw[f2];simp only;clear f1 f2;refine zAk (zJu 3 λf=>f==55) mixed Tryz.func77 rfl (λk hk=>decide_eq_true hk)<|zB<|zA rfl<|v0s<|veT<|zB<|zB<|zA rfl<|veT<|zF<|zR (λ(i:Nat)=>fr 19 [(0,Ae (Ad u32D sets)<|Aa sets),(1,alF),(7,iD (Aa sets:Int)),(8,iD (i:Int))]) (λ(i:Nat)=>kS A (alB A) (zJx ks<|sets.take i)) (λ(i:Nat)=>sets.length-i) (λ(i:Nat)=>i<=sets.length) 0 ?_ ?_ ?_
 ·omega
 ·refine vk 3 ?_;exact twcK
 rintro i h1;rcases AE i sets.length with h2|h2
 ·have hx:=zB8 sets i h2;have hne:sets.map u32D≠[]:=zAb;have hm:=zHn h (zJx ks (sets.take i)) (sets.getD i 0) (zEx hs h2);rw[<-zMy,<-zDs sets i h2]at hm;rw[hno i h2]at hm;generalize sets.getD i 0=s at*;refine zB<|zA rfl<|v0s<|veT<|zB<|vT ((i:Int)<(Aa sets:Int))<|zK<|zC<|zD<|zB<|zF<|zB<|zA rfl<|veT<|zB<|zA rfl<|vr 4 (ix (i:Int) (Aa sets:Int) (Ad u32D sets≠[]))<|vp 14 (i) (Ad u32D sets)<|vr 1 (0<Aa (An i<|Ad u32D sets))<|vsh 15 hx<|vnt [aaK A,knM (alB A)<|zJx ks<|Ay i sets,knB]<|zA2 [] [] [dig s,Af 2 0,Af 0 0] [dig s,Af 2 0,Af 0 0] (As _) (by exact hm) ?_;refine v0s<|veT<|vf<|zK<|zE<|zC<|zD<|zA rfl<|vr 2 (i6 ((i:Int)+(1:Int)))<|vnil<|zC<|⟨i+1,by omega,by omega,?_⟩;refine vk 3 ?_;exact twcK
 obtain rfl:i=sets.length:=by omega
 rw[AK];refine zB<|zA rfl<|v0s<|veT<|zB<|vF ((Aa sets:Int)<(Aa sets:Int))<|zT<|zL<|zL<|zP rfl<|zC<|zD<|zB<|zA rfl<|veT<|zJ<|zAi (True) [Ah<|Aj IntKind.i64 (-1:Int)] (.inr rfl) ?_;exact⟨by kernel_rfl,by kernel_rfl⟩
set_option maxHeartbeats 8000000 in
theorem zTl(part:Nat)(hp:part<1024):∃r,zJy (alB A) part (part+2) [0]=Ao r/\∀ks,∃ks',Acts Ai 57 [u32D part,alF] (kS A (alB A) ks) [] (.row (r.map u32D) r.length) (kS A (alB A) ks'):=by
 obtain⟨r,hr,_⟩:=zLu (part+2) [] [0] (zEb (alB A) part) (by show part+1-0<part+2;omega);refine⟨r,hr,λks0=>?_⟩;obtain⟨ks',hk⟩:=zW5 (part+2) [0] ks0 hr;refine⟨ks',?_⟩;refine zAk (zJu 3 λf=>f==55||f==77) mixed Tryz.func57 rfl (λk hk=>decide_eq_true hk)<|zB<|zA rfl<|v0s<|veT<|zB<|zA rfl<|ve ((1=1/\1<=1/\True)/\0<1/\1=1/\1<=16777216/\1<=9223372036854775807)<|zF<|zBh (λ(k:Nat)(sets:List Nat)(ks:List Nat)=>fr 48 [(0,u32D part),(1,alF),(5,Ae (Ad u32D sets)<|Aa sets)]) (λ(k:Nat)(sets:List Nat)(ks:List Nat)=>kS A (alB A) ks) (λk sets ks=>k) (λ(k:Nat)(sets:List Nat)(ks:List Nat)=>confK (alB A) part k sets ks=Ao (r,ks')/\∃Cs,Cnf (alB A) part Cs sets/\sets.Nodup) (part+2) [0] ks0 ?_ ?_ ?_
 ·exact⟨hk,[],zEb (alB A) part,by simp⟩
 ·refine wkn (fr 48 [(0,u32D part),(1,alF),(4,nl),(5,D.osl 3 0 1 1 Ac)]) [aaK A,knM (alB A) ks0,knB,Ax [Ah (Aj Ag (0:Int))] 97 1 Ac Ab Au] ?_;refine(Weak.frzSlot (s:=5) (d:= .osl 3 0 1 1 Ac) (x:= .row [u32D 0] 1) (ks:=[3]) (by kernel_rfl) rfl).trans ?_;refine vk 3 ?_;exact twcK
 rintro k sets ks ⟨hJ,Cs,hC,hnd⟩;obtain⟨k,rfl⟩:∃k',k=k'+1:=by
  cases k with
  |zero=>cases hJ
  |succ k=>exact⟨k,rfl⟩
 unfold confK at hJ;have hlen:=cnf_few hC hnd;have hlt:∀s∈sets,s<4294967296:=λs hs=>by have:=sub_le (hC.sub s hs);omega
 obtain⟨z,hz,hix⟩:=indexA_a h ks sets (by omega) hlt;generalize idxK (alB A) sets ks=ks1 at*;rcases hz with⟨rfl,hf⟩|⟨p,p1,rfl,hf⟩
 ·rw[hf]at hJ;injection hJ with hJ;injection hJ with e1 e2;subst e1;subst e2;refine zF<|zB<|zA rfl<|v0s<|vrT 2<|vnt [aaK A,knM (alB A) ks,knB]<|zA2 [] [] [Ae (Ad u32D sets)<|Aa sets,D.clo (Fn.func 55) [] [Af 2 0,Af 0 0]] [Ae (Ad u32D sets)<|Aa sets,D.clo (Fn.func 55) [] [Af 2 0,Af 0 0]] (As _) (by exact hix) ?_;refine v0s<|veT<|zB<|zB<|zA rfl<|veT<|vt<|zB<|zA rfl<|veT<|zJ<|zG<|zN<|zG<|zN ?_;refine zAi (True) [Ae (Ad u32D sets)<|Aa sets] (.inr rfl) ?_;exact⟨by kernel_rfl,by kernel_rfl⟩
 rw[hf]at hJ;have hx:=zB8 sets p p1;have hne:sets.map u32D≠[]:=zAb;have hmem:sets.getD p 0∈sets:=List.mem_of_find?_eq_some hf;have hsub:=hC.sub _ hmem;have hcs:=zKf hC hmem;generalize sets.getD p 0=s at*;simp only at hJ;have hsp:=sub_le hsub;refine zF<|zB<|zA rfl<|v0s<|vrT 2<|vnt [aaK A,knM (alB A) ks,knB]<|zA2 [] [] [Ae (Ad u32D sets)<|Aa sets,D.clo (Fn.func 55) [] [Af 2 0,Af 0 0]] [Ae (Ad u32D sets)<|Aa sets,D.clo (Fn.func 55) [] [Af 2 0,Af 0 0]] (As _) (by exact hix) ?_;refine v0s<|veT<|zB<|zB<|zA rfl<|veT<|vF ((p:Int)<0)<|zK<|zC<|zD<|zB<|zA rfl<|vr 3 (ix (p:Int) (Aa sets:Int) (Ad u32D sets≠[]))<|vp 19 (p) (Ad u32D sets)<|vr 1 (0<Aa (An p<|Ad u32D sets))<|vsh 20 hx<|veT<|zB<|zB<|zA rfl<|veT<|zF<|zBh (λ(i:Nat)(w:Nat)(kk:List Nat)=>fr 48 [(0,u32D part),(1,alF),(5,Ae (Ad u32D sets)<|Aa sets),(7,u32D w),(21,iD (i:Int))]) (λ(i:Nat)(w:Nat)(kk:List Nat)=>kS A (alB A) kk) (λi w kk=>32-i) (λ(i:Nat)(w:Nat)(kk:List Nat)=>i<=32/\zLk (alB A) part (AH i) (s,ks1)=(w,kk)) 0 s ks1 ?_ ?_ ?_
 ·exact⟨by omega,rfl⟩
 ·refine vk 3 ?_;exact twcK
 rintro i w kk ⟨i1,i2⟩;have hw1:=zWu (al:=alB A) (part:=part) (AH i) (s,ks1);rw[i2]at hw1;have hw1:w=zD9 (alB A) part (AH i) s:=hw1;have hwp:w<=part:=by rw[hw1];exact sub_le (zHh _ _ hsub)
 rcases AE i 32 with i3|i3
 ·have hsn:=zS6 (alB A) part (AH i) (s,ks1) i;rw[<-List.range_succ,i2]at hsn;unfold gstep at hsn;simp only at hsn;have hpw:=zFw i3;have v1:=zEj i3;have v2:=zL6 (a:=part) (b:=2^i) (by omega) hpw;have v3:part&&&2^i<=part:=Nat.and_le_left;have v4:=zAr (n:=part&&&2^i) (by omega);have v5:=an_eq (a:=part&&&2^i) (b:=w) (d:=dif (part&&&2^i) w) (by omega) (by omega) λj=>zBo _ _ j;have v6:=dif_le (part&&&2^i) w;have v7:=zAr (n:=dif (part&&&2^i) w) (by omega);generalize dif (part&&&2^i) w=d at*;by_cases hd:d=0
  ·have v8:(((d:Nat):Int)!=0)=false:=by rw[hd];rfl
   rw[if_pos hd]at hsn;refine zB<|zA rfl<|v0s<|veT<|zB<|vT ((i:Int)<(32:Int))<|zK<|zC<|zD<|zB<|zF<|zB<|zA rfl<|veT<|zB<|zA rfl<|vr 3 ((0:Int)<=(i:Int))<|vs 26 (Ah<|Aj Ag<|Aq Ag ((1:Int)*(2:Int)^min (Av (i:Int)) 32)) (dig ((2:Nat)^i)) (hd:=by simp(disch:=omega) only[Az,v1])<|vrT 1<|vs 27 (Ah<|Aj Ag<|Aq Ag (↑(Aw (Ak 32 (part:Int)&&&Ak 32 (↑((2:Nat)^i):Int))):Int)) (dig (part&&&(2:Nat)^i)) (hd:=by simp(disch:=omega) only[v4,v2])<|vrT 2<|vs 29 (Ah<|Aj Ag<|Aq Ag (↑(Aw (Ak 32 (↑(part&&&(2:Nat)^i):Int)&&&~~~Ak 32 (w:Int))):Int)) (dig d) (hd:=by simp(disch:=omega) only[v5,v7])<|veT<|zB<|zA rfl<|vrT 2<|vs 31 (bD ((d:Int)!=(0:Int))) (bD Ab) (hd:=by simp(disch:=omega) only[v8])<|veT<|vf<|zK<|zE<|zC<|zD<|zA rfl<|vr 2 (i6 ((i:Int)+(1:Int)))<|vnil<|zC<|⟨i+1,w,kk,⟨by omega,hsn⟩,by omega,?_⟩;refine vk 3 ?_;exact twcK
  have v8:(((d:Nat):Int)!=0)=true:=by rw[bne_iff_ne];omega
  rw[if_neg hd]at hsn;have u1:=zMh (a:=w) (b:=d) (by omega) (by omega);have u2:=zK6 (a:=w) (b:=d) (by omega) (by omega);have u3:=zAr u2;have hal:=zHn h kk (w|||d) u2;cases hb:alB A (w|||d)
  ·rw[hb]at hal hsn;rw[if_neg (by decide)]at hsn;refine zB<|zA rfl<|v0s<|veT<|zB<|vT ((i:Int)<(32:Int))<|zK<|zC<|zD<|zB<|zF<|zB<|zA rfl<|veT<|zB<|zA rfl<|vr 3 ((0:Int)<=(i:Int))<|vs 26 (Ah<|Aj Ag<|Aq Ag ((1:Int)*(2:Int)^min (Av (i:Int)) 32)) (dig ((2:Nat)^i)) (hd:=by simp(disch:=omega) only[Az,v1])<|vrT 1<|vs 27 (Ah<|Aj Ag<|Aq Ag (↑(Aw (Ak 32 (part:Int)&&&Ak 32 (↑((2:Nat)^i):Int))):Int)) (dig (part&&&(2:Nat)^i)) (hd:=by simp(disch:=omega) only[v2,v4])<|vrT 2<|vs 29 (Ah<|Aj Ag<|Aq Ag (↑(Aw (Ak 32 (↑(part&&&(2:Nat)^i):Int)&&&~~~Ak 32 (w:Int))):Int)) (dig d) (hd:=by simp(disch:=omega) only[v7,v5])<|veT<|zB<|zA rfl<|vrT 2<|vs 31 (bD ((d:Int)!=(0:Int))) (bD Ac) (hd:=by simp(disch:=omega) only[v8])<|vrT 5<|vs 36 (Ah<|Aj Ag<|Aq Ag (↑(Aw (Ak 32 (w:Int)|||Ak 32 (d:Int))):Int)) (dig (w|||d)) (hd:=by simp(disch:=omega) only[u3,u1])<|vnt [aaK A,knM (alB A) kk,knB]<|zA2 [] [] [dig (w|||d),Af 2 0,Af 0 0] [dig (w|||d),Af 2 0,Af 0 0] (As _) (by exact hal) ?_;refine v0s<|veT<|vf<|zK<|zE<|zC<|zD<|zA rfl<|vr 2 (i6 ((i:Int)+(1:Int)))<|vnil<|zC<|⟨i+1,w,kput kk (w|||d),⟨by omega,hsn⟩,by omega,?_⟩;refine vk 3 ?_;exact twcK
  rw[hb]at hal hsn;rw[if_pos rfl]at hsn;refine zB<|zA rfl<|v0s<|veT<|zB<|vT ((i:Int)<(32:Int))<|zK<|zC<|zD<|zB<|zF<|zB<|zA rfl<|veT<|zB<|zA rfl<|vr 3 ((0:Int)<=(i:Int))<|vs 26 (Ah<|Aj Ag<|Aq Ag ((1:Int)*(2:Int)^min (Av (i:Int)) 32)) (dig ((2:Nat)^i)) (hd:=by simp(disch:=omega) only[Az,v1])<|vrT 1<|vs 27 (Ah<|Aj Ag<|Aq Ag (↑(Aw (Ak 32 (part:Int)&&&Ak 32 (↑((2:Nat)^i):Int))):Int)) (dig (part&&&(2:Nat)^i)) (hd:=by simp(disch:=omega) only[v4,v2])<|vrT 2<|vs 29 (Ah<|Aj Ag<|Aq Ag (↑(Aw (Ak 32 (↑(part&&&(2:Nat)^i):Int)&&&~~~Ak 32 (w:Int))):Int)) (dig d) (hd:=by simp(disch:=omega) only[v5,v7])<|veT<|zB<|zA rfl<|vrT 2<|vs 31 (bD ((d:Int)!=(0:Int))) (bD Ac) (hd:=by simp(disch:=omega) only[v8])<|vrT 5<|vs 36 (Ah<|Aj Ag<|Aq Ag (↑(Aw (Ak 32 (w:Int)|||Ak 32 (d:Int))):Int)) (dig (w|||d)) (hd:=by simp(disch:=omega) only[u1,u3])<|vnt [aaK A,knM (alB A) kk,knB]<|zA2 [] [] [dig (w|||d),Af 2 0,Af 0 0] [dig (w|||d),Af 2 0,Af 0 0] (As _) (by exact hal) ?_;refine v0s<|veT<|vt<|zA rfl<|vrT 3<|vs 41 (Ah<|Aj Ag<|Aq Ag (↑(Aw (Ak 32 (w:Int)|||Ak 32 (d:Int))):Int)) (dig (w|||d)) (hd:=by simp(disch:=omega) only[u1,u3])<|vrT 1<|vnil<|zE<|zC<|zD<|zA rfl<|vr 2 (i6 ((i:Int)+(1:Int)))<|vnil<|zC<|⟨i+1,w|||d,kput kk (w|||d),⟨by omega,hsn⟩,by omega,?_⟩;refine vk 3 ?_;exact twcK
 obtain rfl:i=32:=by omega
 rw[i2,<-hw1]at hJ;rw[<-hw1]at hcs;simp only at hJ;have v5:=an_eq (a:=part) (b:=w) (d:=dif part w) (by omega) (by omega) λj=>zBo _ _ j;have v6:=dif_le part w;have v7:=zAr (n:=dif part w) (by omega);have hmt:=meeting_c sets (dif part w) (by omega) hlt (by omega);have hnd2:=meet_nd (dif part w) hnd;generalize zDn sets (dif part w)=sets2 at*;refine zB<|zA rfl<|v0s<|veT<|zB<|vf<|zT<|zL<|zL<|zP rfl<|zC<|zD<|zA rfl<|vrT 4<|vs 46 (Ah<|Aj Ag<|Aq Ag (↑(Aw (Ak 32 (part:Int)&&&~~~Ak 32 (w:Int))):Int)) (dig<|dif part w) (hd:=by simp(disch:=omega) only[v5,v7])<|vc (hmt)<|vrT 1<|vnil<|zE<|zC<|⟨k,sets2,kk,⟨hJ,_,hcs,hnd2⟩,by omega,?_⟩;refine vk 3 ?_;exact twcK
end
def bestD:Option (List Int)->D
 |none=>nl0
 |some l=> .row (itsD l) l.length
abbrev resD(o:Option (List Int)):D:= .row (itsD (o.getD [])) (o.getD []).length
set_option maxHeartbeats 8000000 in
theorem firstC_c{A:List (List Nat×List Rw)}(h:AtW A):Pure Ai 35 [.row (A.flatMap atN) A.length] [] (resD (zJb A)):=by
 have hl5:=h.l;obtain⟨hp1,hp2,hp3⟩:=zQx A;have hp32:∀P∈zDi A,P<32:=λP hP=>by
  have h3:=sub_le (hp1 P hP).2;have h4:2^A.length<=2^5:=Nat.pow_le_pow_right (by omega) hl5
  have:=Nat.two_pow_pos A.length
  omega
 have hco:=comps_c A h;obtain⟨o,ho⟩:∃o,o=zJb A:=⟨_,rfl⟩;have hob:(((zDi A).flatMap (cflA A)).map memL).foldl bstS none=o:=ho.symm;rw[<-ho];clear ho hp1 hp2;generalize zDi A=ps at*;refine zH (zJu 0 λf=>f==55||f==57) mixed Tryz.func35 rfl<|zB<|zA rfl<|v0s<|veT<|zB<|zA rfl<|ve (True/\Ab=Ab/\Ac=Ac/\1=1/\1<=1)<|zB<|zA rfl<|veT<|zB<|zA rfl<|veT<|zB<|zB<|zA rfl<|vr 1 (0<1)<|vc (hco)<|veT<|zF<|zBh (λ(i:Nat)(o:Option (List Int))(ks:List Nat)=>fr 45 [(2,nl),(4,D.clo (Fn.func 55) [] [Af 2 0,Af 0 0]),(5,bestD o),(14,Ae (Ad u32D ps)<|Aa ps),(15,iD (Aa ps:Int)),(16,iD (i:Int))]) (λ(i:Nat)(o:Option (List Int))(ks:List Nat)=>kS A (alB A) ks) (λi o ks=>ps.length-i) (λ(i:Nat)(o:Option (List Int))(ks:List Nat)=>i<=ps.length/\o=(((ps.take i).flatMap (cflA A)).map memL).foldl bstS none) 0 none [] ?_ ?_ ?_
 ·exact⟨by omega,rfl⟩
 ·refine vk 3
 rintro i u ks ⟨i1,i2⟩;rcases AE i ps.length with i3|i3;case inr=>
  rw[List.take_of_length_le i3,hob]at i2;subst i2;rcases u with _|l0
  ·refine zB<|zA rfl<|v0s<|veT<|zB<|vF ((i:Int)<(Aa ps:Int))<|zT<|zL<|zL<|zP rfl<|zC<|zD<|zB<|zA rfl<|veT<|zJ<|vret (True)<|.inr rfl
  refine zB<|zA rfl<|v0s<|veT<|zB<|vF ((i:Int)<(Aa ps:Int))<|zT<|zL<|zL<|zP rfl<|zC<|zD<|zB<|zA rfl<|veT<|zJ<|vret (True)<|.inr rfl
 have hx:=zB8 ps i i3;have hne:ps.map u32D≠[]:=zAb;have hP:=zEx hp32 i3;have hsu:(((ps.take (i+1)).flatMap (cflA A)).map memL).foldl bstS none=((cflA A (ps.getD i 0)).map memL).foldl bstS u:=by
  rw[zDs ps i i3,List.flatMap_append,AL,List.foldl_append,<-i2,List.flatMap_singleton]
 have hune:∀b,u=Ao b->0<b.length/\b.length<=32:=λb hb=>by
  rw[i2]at hb;have hall:∀x∈((ps.take i).flatMap (cflA A)).map memL,0<x.length:=λx hx=>by
   obtain⟨s,hs,rfl⟩:=AG.1 hx;obtain⟨P,hP,hs⟩:=List.mem_flatMap.1 hs;have hP:=hp32 P (List.mem_of_mem_take hP)
   have:=cfl_ok A (P:=P) (by omega) hs
   exact memL_ne this.1 this.2
  exact⟨bst_ne _ none hall (λb hb=>by cases hb) b hb,zTy _ none (λx hx=>by
   obtain⟨s,hs,rfl⟩:=AG.1 hx;exact zJ7 s) (λb hb=>by cases hb) b hb⟩
 have hcf:=λs=>cfl_ok A (P:=ps.getD i 0) (by omega) (s:=s);have hcd:alB A (ps.getD i 0)=Ac->cflA A (ps.getD i 0)=[]:=λhh=>by
  unfold cflA;rw[if_pos hh]
 have hcd2:alB A (ps.getD i 0)=Ab->cflA A (ps.getD i 0)=(zJy (alB A) (ps.getD i 0) (ps.getD i 0+2) [0]).getD []:=λhh=>by
  unfold cflA;rw[if_neg (by rw[hh];decide)]
 generalize ps.getD i 0=P at*;have hal:=zHn h ks P (by omega);cases hb:alB A P;case true=>
  rw[hb]at hal;rw[hcd hb]at hsu;refine zB<|zA rfl<|v0s<|veT<|zB<|vT ((i:Int)<(Aa ps:Int))<|zK<|zC<|zD<|zB<|zF<|zB<|zA rfl<|vr 1 (ix (i:Int) (Aa ps:Int) (Ad u32D ps≠[]))<|vp 18 (i) (Ad u32D ps)<|vr 1 (0<Aa (An i<|Ad u32D ps))<|vsh 19 hx<|veT<|zB<|zB<|zA rfl<|vrT 2<|vnt [aaK A,knM (alB A) ks,knB]<|zA2 [] [] [dig P,Af 2 0,Af 0 0] [dig P,Af 2 0,Af 0 0] (As _) (by exact hal) ?_;refine v0s<|veT<|vt<|zT<|zL<|zP rfl<|zC<|zD<|zA rfl<|vr 2 (i6 ((i:Int)+(1:Int)))<|vnil<|zC<|⟨i+1,u,kput ks P,⟨by omega,hsu.symm⟩,by omega,?_⟩;rcases u with _|b0
  ·refine vk 3
  refine vk 3
 rw[hb]at hal;obtain⟨r,hr,hcn⟩:=zTl h P (by omega);obtain⟨ks2,hcn⟩:=hcn (kput ks P);rw[hcd2 hb,hr]at hsu hcf;have hsu:(((ps.take (i+1)).flatMap (cflA A)).map memL).foldl bstS none=(r.map memL).foldl bstS u:=hsu;have hcf:∀s,s∈r->s<2^32/\s≠0:=hcf;have hrl:=zW4 (P+2) [] [0] r (zEb (alB A) P) (by simp) hr;clear hcd hcd2 hr;refine zB<|zA rfl<|v0s<|veT<|zB<|vT ((i:Int)<(Aa ps:Int))<|zK<|zC<|zD<|zB<|zF<|zB<|zA rfl<|vr 1 (ix (i:Int) (Aa ps:Int) (Ad u32D ps≠[]))<|vp 18 (i) (Ad u32D ps)<|vr 1 (0<Aa (An i<|Ad u32D ps))<|vsh 19 hx<|veT<|zB<|zB<|zA rfl<|vrT 2<|vnt [aaK A,knM (alB A) ks,knB]<|zA2 [] [] [dig P,Af 2 0,Af 0 0] [dig P,Af 2 0,Af 0 0] (As _) (by exact hal) ?_;refine v0s<|veT<|vf<|zK<|zC<|zD<|zB<|zA rfl<|vrT 2<|vnt [Ax [Ae (Ar atN A)<|Aa A] 30 0 Ab Ab Au,Ax (Ad (λ(s:Nat)=>bD (alB A s))<|kput ks P) 110 0 Ac Ab<|Kd.map<|Ad u32V<|kput ks P,Ax [D.mref 1] 110 0 Ab Ab Au]<|zA2 [] [] [dig P,D.clo (Fn.func 55) [] [Af 2 0,Af 0 0]] [dig P,D.clo (Fn.func 55) [] [Af 2 0,Af 0 0]] (As _) (by exact hcn) ?_;refine v0s<|veT<|zF<|zAy (λ(j:Nat)(v:Option (List Int))=>fr 45 [(2,nl),(4,D.clo (Fn.func 55) [] [Af 2 0,Af 0 0]),(5,bestD v),(14,Ae (Ad u32D ps)<|Aa ps),(15,iD (Aa ps:Int)),(16,iD (i:Int)),(25,Ae (Ad u32D r)<|Aa r),(26,iD (Aa r:Int)),(27,iD (j:Int))]) (λ(j:Nat)(v:Option (List Int))=>kS A (alB A) ks2) (λj v=>r.length-j) (λ(j:Nat)(v:Option (List Int))=>j<=r.length/\v=((r.take j).map memL).foldl bstS u) 0 u ?_ ?_ ?_
 ·exact⟨by omega,rfl⟩
 ·rcases u with _|b0
  ·refine vk 3
  refine vk 3
 rintro j v ⟨j1,j2⟩;rcases AE j r.length with j3|j3
 ·have hx:=zB8 r j j3;have hne:r.map u32D≠[]:=zAb;have hst:((r.take (j+1)).map memL).foldl bstS u=bstS v (memL (r.getD j 0)):=by
   rw[zDs r j j3,AL,List.foldl_append,<-j2];rfl
  have hvne:∀b,v=Ao b->0<b.length/\b.length<=32:=λb hb=>by
   rw[j2]at hb;exact⟨bst_ne _ u (λx hx=>by
    obtain⟨s,hs,rfl⟩:=AG.1 hx
    have:=hcf s (List.mem_of_mem_take hs)
    exact memL_ne this.1 this.2) (λb hb=>(hune b hb).1) b hb,zTy _ u (λx hx=>by
    obtain⟨s,hs,rfl⟩:=AG.1 hx;exact zJ7 s) (λb hb=>(hune b hb).2) b hb⟩
  have hs:=hcf (r.getD j 0) (zAh r 0 j j3);have hme:=wmem_c (r.getD j 0) (by omega);have hml:=zJ7 (r.getD j 0);generalize memL (r.getD j 0)=l at*;generalize r.getD j 0=s at*;cases v with
  |none=>
   refine zB<|zA rfl<|v0s<|veT<|zB<|vT ((j:Int)<(Aa r:Int))<|zK<|zC<|zD<|zB<|zF<|zB<|zA rfl<|vr 1 (ix (j:Int) (Aa r:Int) (Ad u32D r≠[]))<|vp 29 (j) (Ad u32D r)<|vr 1 (0<Aa (An j<|Ad u32D r))<|vsh 30 hx<|veT<|zB<|zA rfl<|vrT 1<|vc (hme)<|veT<|zB<|zA rfl<|veT<|vt<|zA rfl<|vrT 2<|vnil<|zE<|zC<|zD<|zA rfl<|vr 2 (i6 ((j:Int)+(1:Int)))<|vnil<|zC<|⟨j+1,Ao l,⟨by omega,hst.symm⟩,by omega,?_⟩;refine vk 3
  | some b=>
   obtain⟨b1,b2⟩:=hvne b rfl;have hcm:=scmp_cY l b l.length b.length rfl rfl (by omega) (by omega);have hst:((r.take (j+1)).map memL).foldl bstS u=if lcmp l b<0 then Ao l else Ao b:=hst
   generalize lcmp l b=z at*;by_cases hz:z<0
   ·rw[if_pos hz]at hst;refine zB<|zA rfl<|v0s<|veT<|zB<|vT ((j:Int)<(Aa r:Int))<|zK<|zC<|zD<|zB<|zF<|zB<|zA rfl<|vr 1 (ix (j:Int) (Aa r:Int) (Ad u32D r≠[]))<|vp 29 (j) (Ad u32D r)<|vr 1 (0<Aa (An j<|Ad u32D r))<|vsh 30 hx<|veT<|zB<|zA rfl<|vrT 1<|vc (hme)<|veT<|zB<|zA rfl<|vr 5 (0<Aa b)<|vc (hcm)<|veT<|vT (z<0)<|zA rfl<|vrT 2<|vnil<|zE<|zC<|zD<|zA rfl<|vr 2 (i6 ((j:Int)+(1:Int)))<|vnil<|zC<|⟨j+1,Ao l,⟨by omega,hst.symm⟩,by omega,?_⟩;refine vk 3
   rw[if_neg hz]at hst;refine zB<|zA rfl<|v0s<|veT<|zB<|vT ((j:Int)<(Aa r:Int))<|zK<|zC<|zD<|zB<|zF<|zB<|zA rfl<|vr 1 (ix (j:Int) (Aa r:Int) (Ad u32D r≠[]))<|vp 29 (j) (Ad u32D r)<|vr 1 (0<Aa (An j<|Ad u32D r))<|vsh 30 hx<|veT<|zB<|zA rfl<|vrT 1<|vc (hme)<|veT<|zB<|zA rfl<|vr 5 (0<Aa b)<|vc (hcm)<|veT<|vF (z<0)<|zK<|zE<|zC<|zD<|zA rfl<|vr 2 (i6 ((j:Int)+(1:Int)))<|vnil<|zC<|⟨j+1,Ao b,⟨by omega,hst.symm⟩,by omega,?_⟩;refine vk 3
 obtain rfl:j=r.length:=by omega
 rw[AK]at j2;refine zB<|zA rfl<|v0s<|veT<|zB<|vF ((Aa r:Int)<(Aa r:Int))<|zT<|zL<|zL<|zP rfl<|zE<|zC<|zD<|zA rfl<|vr 2 (i6 ((i:Int)+(1:Int)))<|vnil<|zC<|⟨i+1,v,ks2,⟨by omega,by rw[j2,hsu]⟩,by omega,?_⟩;rcases v with _|b0
 ·refine vk 3
 refine vk 3
section
variable (n : Nat) (z1 : Int) (cs2 cs3 : List D) (m2 m3 : Nat) (A : List (List Nat × List Rw)) (r : Rw)
theorem wnYes_c(hck:Pure Ai 33 [.agg (inpA (iD (n:Nat)) (iD z1) (.row cs2 m2) (.row cs3 m3) A),rowV r] [] (iD 0))(hlv:Pure Ai 34 [.agg (inpA (iD (n:Nat)) (iD z1) (.row cs2 m2) (.row cs3 m3) A),rowV r] [] (iD z1)):Pure Ai 10 [.agg (inpA (iD (n:Nat)) (iD z1) (.row cs2 m2) (.row cs3 m3) A),rowV r] [] (.tup [.agg [iD 0, .row [] 0],iD 17]):=by
 refine zH zAq mixed Tryz.func10 rfl<|zB<|zA rfl<|v0s<|veT<|zB<|zB<|zA rfl<|vr 2 (5<=5)<|vc (hck)<|veT<|zB<|zA rfl<|veT<|vf<|zK<|zC<|zD<|zB<|zA rfl<|vr 2 (5<=5)<|vc (hlv)<|veT<|zB<|zB<|zA rfl<|ve (True/\0<4/\True)<|vEt (z1) (z1)<|zB<|zA rfl<|ve ((True/\Ac=Ac)/\Ab=Ab/\Ac=Ac/\2=2/\2<=2)<|zJ<|zG<|vret (2<=2)<|.inr rfl
set_option maxHeartbeats 4000000 in
theorem wn_c(h:AtOk n A)(hr:r.length<=n)(k:Nat)(hk:k<=r.length)(hz:(k:Int)-1≠z1)(hck:Pure Ai 33 [.agg (inpA (iD (n:Nat)) (iD z1) (.row cs2 m2) (.row cs3 m3) A),rowV r] [] (iD 0))(hlv:Pure Ai 34 [.agg (inpA (iD (n:Nat)) (iD z1) (.row cs2 m2) (.row cs3 m3) A),rowV r] [] (iD ((k:Int)-1))):Pure Ai 10 [.agg (inpA (iD (n:Nat)) (iD z1) (.row cs2 m2) (.row cs3 m3) A),rowV r] [] (.tup [.agg [iD ((k:Int)-1),resD (zJb (A.map (zAw (r.take k))))],iD 0]):=by
 have hl5:=h.l;have hn8:=h.n8;have hpl:(r.take k).length=k:=by rw[AM];omega
 have hre:=zDz A h.r (r.take k) (by omega);rw[show rowV (r.take k)= .row (zM (r.take k)) k by show Ae _ (r.take k).length=_;rw[hpl]]at hre;have hct:=zL2 r k;have hcl:=zAu r;have hB:=(h.rest (p:=r.take k) (by omega)).w;have hBl:(A.map (zAw (r.take k))).length=A.length:=AF ..
 have hfc:=firstC_c hB;rw[hBl]at hfc;generalize A.map (zAw (r.take k))=B at*;have hk1:(k:Int)-1+1=(k:Nat):=by omega
 generalize zJb B=o at*;refine zH zAq mixed Tryz.func10 rfl<|zB<|zA rfl<|v0s<|veT<|zB<|zB<|zA rfl<|vr 2 (5<=5)<|vc (hck)<|veT<|zB<|zA rfl<|veT<|vf<|zK<|zC<|zD<|zB<|zA rfl<|vr 2 (5<=5)<|vc (hlv)<|veT<|zB<|zB<|zA rfl<|ve (True/\0<4/\True)<|vEf ((k:Int)-(1:Int)) (z1)<|zK<|zC<|zD<|zB<|vd [0,1,3,4,5,6,2,7,8,9,10,11]<|vr 5 (True/\i6 ((k:Int)-(1:Int)+(1:Int)))<|vs 28 (iD ((k:Int)-(1:Int)+(1:Int))) (iD (k:Int)) (hd:=by simp(disch:=omega) only[hk1])<|vr 1 (True/\(0:Int)<=(k:Int)/\True/\0<3/\0<=Av (k:Int)/\Av (k:Int)<=Aa r/\Av (k:Int)=Av (k:Int))<|vs 29 (Ae (Ay ((Av (k:Int)-0)*3)<|An 0<|zM r) (Av (k:Int)-0)) (Ae (zM<|Ay k r) k) (hd:=by simp(disch:=omega) only[Az,Nat.sub_zero,AI,hct])<|vr 1 (0<1)<|vc (hre)<|vc (hfc)<|ve (((1=1/\1<=2/\1=1/\2<=2/\True)/\Ac=Ac)/\Ab=Ab/\Ac=Ac/\2=2/\2<=2)<|zJ<|vret (2<=2)<|.inr rfl
end
theorem zH1(z:Int):Pure Ai 27 [iD z] [] (vaD (nuV z)):=by
 refine zH zAq mixed Tryz.func27 rfl<|vAu<|vA<|ve (((1=1/\1<=3/\1=1/\2<=3/\True)/\Ac=Ac)/\Ab=Ab/\Ac=Ac/\3=3/\3<=3)<|zJ<|vret (3<=3)<|.inr rfl
abbrev whD:D:= .agg (inpA (iD ((3:Nat):Int)) (iD 2) (.row ([Ab,Ab].map bD) 2) (.row ([(2:Int)].map λz=>iD z) 1) whA)
theorem ex_valid:Pure Ai 32 [.agg (csC whC)] [] (.tup [whD,bD Ac]):=by
 obtain⟨m,ok,h1,h2,h3,h4⟩:=valid_c whC whC_s;have hok:=h2.2 ⟨rfl,whC_e,whC_g.ck⟩;have hm:=h3 hok;rw[hok,hm,whC_g.inD,whC_A]at h4;exact h4
theorem ex_chk(r:Rw)(hr:r.length=2):Pure Ai 33 [whD,rowV r] [] (iD 0):=by
 have h:=wchk_c whC whC_s (Nat.le_refl _) r (by omega);rw[whC_g.inD,whC_A]at h;have e:wckE whC whC.V.length r=0:=by
  unfold wckE;rw[whC_g.ck,if_neg (by omega),hr];rfl
 rw[e]at h;exact h
theorem ex_why:Pure Ai 12 [whD,rowV [nuV 1,nuV 7]] [] (.tup [.row [iD 0,rowV [nuV 1,nuV 5],iD 1,rowV [nuV 7,nuV 5]] 2,iD 0]):=by
 obtain⟨y,h1,h2,h3⟩:=why_c 3 2 _ _ 2 1 whA [nuV 1,nuV 7] zE6 (by decide) (zNe.1 ex_ans) (ex_chk _ rfl);obtain rfl:=ex_fir h1 h2;exact h3
theorem ex_not1:Pure Ai 10 [whD,rowV [nuV 2,nuV 7]] [] (.tup [.agg [iD 0, .row (itsD [0,1]) 2],iD 0]):=by
 have hl:=zS0 3 whA zE6 3 2 ([Ab,Ab].map bD) ([(2:Int)].map λz=>iD z) 2 1 [nuV 2,nuV 7] (by decide);rw[show[nuV 2,nuV 7].length=2 from rfl,ex_lvl1]at hl;have h:=wn_c 3 2 ([Ab,Ab].map bD) ([(2:Int)].map λz=>iD z) 2 1 whA [nuV 2,nuV 7] zE6 (by decide) 1 (by decide) (by decide) (ex_chk _ rfl) hl;rw[ex_best1]at h;exact h
theorem ex_not2:Pure Ai 10 [whD,rowV [nuV 1,nuV 8]] [] (.tup [.agg [iD 1, .row (itsD [1]) 1],iD 0]):=by
 have hl:=zS0 3 whA zE6 3 2 ([Ab,Ab].map bD) ([(2:Int)].map λz=>iD z) 2 1 [nuV 1,nuV 8] (by decide);rw[show[nuV 1,nuV 8].length=2 from rfl,ex_lvl2]at hl;have h:=wn_c 3 2 ([Ab,Ab].map bD) ([(2:Int)].map λz=>iD z) 2 1 whA [nuV 1,nuV 8] zE6 (by decide) 2 (by decide) (by decide) (ex_chk _ rfl) hl;rw[ex_best2]at h;exact h
theorem ex_eq1:Pure Ai 17 [.row [iD 0,iD 1] 2, .row [iD 0,iD 1] 2] [] (bD Ac):=zQd [0,1] [0,1] 2 2 rfl rfl (by decide) (by decide)
theorem ex_eq2:Pure Ai 17 [.row [iD 1] 1, .row [iD 1] 1] [] (bD Ac):=zQd [1] [1] 1 1 rfl rfl (by decide) (by decide)
set_option maxHeartbeats 4000000 in
theorem awake50_c:Pure Ai 9 [] [] (bD Ac):=by
 have h1:=ex_valid;have h2:=ex_why;have h3:=ex_not1;have h4:=ex_not2;have h5:=ex_eq1;have h6:=ex_eq2;obtain⟨X,hX⟩:∃X,X=Ae (whA.flatMap atN) 2:=⟨_,rfl⟩;refine zH zAq mixed Tryz.func9 rfl<|vAu<|vA<|vr 5 (((1=1/\1<=2/\1=1/\2<=2/\True)/\0<1/\1=1/\2<=16777216/\2<=9223372036854775807)/\((1=1/\1<=1/\True)/\0<1/\1=1/\1<=16777216/\1<=9223372036854775807)/\((1=1/\1<=2/\1=1/\2<=2/\True)/\0<1/\1=1/\2<=16777216/\2<=9223372036854775807)/\((1=1/\1<=2/\1=1/\2<=2/\True)/\0<1/\1=1/\2<=16777216/\2<=9223372036854775807)/\(1=1/\1<=2/\1=1/\2<=2/\True)/\0<1/\1=1/\2<=16777216/\2<=9223372036854775807)<|vca [iD 1] (by exact zH1 _)<|vca [iD 5] (by exact zH1 _)<|vr 1 ((3=3/\3<=6/\3=3/\6<=6/\True)/\0<3/\3=3/\6<=16777216/\2<=9223372036854775807)<|vca [iD 2] (by exact zH1 _)<|vca [iD 6] (by exact zH1 _)<|vr 2 (((3=3/\3<=6/\3=3/\6<=6/\True)/\0<3/\3=3/\6<=16777216/\2<=9223372036854775807)/\(1=1/\1<=2/\1=1/\2<=2/\True)/\0<1/\1=1/\2<=16777216/\2<=9223372036854775807)<|vca [iD 7] (by exact zH1 _) ?_;refine vca [iD 5] (by exact zH1 _)<|vr 4 (((3=3/\3<=6/\3=3/\6<=6/\True)/\0<3/\3=3/\6<=16777216/\2<=9223372036854775807)/\((1=1/\1<=1/\True)/\0<1/\1=1/\1<=16777216/\1<=9223372036854775807)/\((1=1/\1<=2/\1=1/\2<=2/\True)/\0<1/\1=1/\2<=16777216/\2<=9223372036854775807)/\(1=1/\1<=6/\1=1/\2<=6/\1=1/\3<=6/\1=1/\4<=6/\1=1/\5<=6/\1=1/\6<=6/\True)/\Ac=Ac)<|vc h1<|ve (0<2/\1<2/\Ab=Ab/\Ac=Ac/\5=5/\5<=5)<|zB<|vd [0,1,2,3,4,5,6,7,8,9]<|vr 1 (5<=5)<|vca [iD 1] (by exact zH1 _)<|vca [iD 7] (by exact zH1 _)<|vr 1 ((3=3/\3<=6/\3=3/\6<=6/\True)/\0<3/\3=3/\6<=16777216/\2<=9223372036854775807)<|vc h2<|ve (0<2/\1<2)<|zB<|vd [0,1,2,3,4,5,6,7,8,9,10]<|vr 1 (5<=5)<|vca [iD 2] (by exact zH1 _)<|vca [iD 7] (by exact zH1 _)<|vr 1 ((3=3/\3<=6/\3=3/\6<=6/\True)/\0<3/\3=3/\6<=16777216/\2<=9223372036854775807)<|vc h3<|ve (0<2/\1<2/\Ab=Ab/\Ac=Ac/\2=2/\2<=2)<|zB<|vd [0,1,2,3,4,5,6,7,8,9,10]<|vr 1 (5<=5)<|vca [iD 1] (by exact zH1 _)<|vca [iD 8] (by exact zH1 _)<|vr 1 ((3=3/\3<=6/\3=3/\6<=6/\True)/\0<3/\3=3/\6<=16777216/\2<=9223372036854775807)<|vc h4<|ve (0<2/\1<2/\Ab=Ab/\Ac=Ac/\2=2/\2<=2)<|zB<|vd [0,1,2,3,4,5,6,7,8,9,10,11,12,13,14,15,16,17,18,19,20,21,22,23,24,25,26,27,28,29,30,31,32,33,34,35,36,37,38,39,40,41,42,43,44,45,46,47,48,49,50,51,52,53,54,55,56,57,58,59,60,61,62,63,64,65]<|vr 40 (True/\True/\True/\True/\ix (1:Int) (↑(2:Nat):Int) ([iD 0,Ae [iD 1,iD 1,Ah<|Ap<|bs [],iD 1,iD 5,Ah<|Ap<|bs []] 2,iD 1,Ae [iD 1,iD 7,Ah<|Ap<|bs [],iD 1,iD 5,Ah<|Ap<|bs []] 2]≠[])/\True/\0<2/\True/\ix (1:Int) (↑(2:Nat):Int) ([iD 0,Ae [iD 1,iD 1,Ah<|Ap<|bs [],iD 1,iD 5,Ah<|Ap<|bs []] 2,iD 1,Ae [iD 1,iD 7,Ah<|Ap<|bs [],iD 1,iD 5,Ah<|Ap<|bs []] 2]≠[])/\True/\0<1/\True/\ix (1:Int) (↑(2:Nat):Int) ([iD 0,Ae [iD 1,iD 1,Ah<|Ap<|bs [],iD 1,iD 5,Ah<|Ap<|bs []] 2,iD 1,Ae [iD 1,iD 7,Ah<|Ap<|bs [],iD 1,iD 5,Ah<|Ap<|bs []] 2]≠[])/\True/\0<1/\ix (1:Int) (↑(2:Nat):Int) ([iD 1,iD 7,Ah<|Ap<|bs [],iD 1,iD 5,Ah<|Ap<|bs []]≠[])/\3<=3)<|vca [iD 5] (by exact zH1 _)<|vr 11 (True/\True/\0<2/\True/\True/\0<1/\(1=1/\1<=2/\1=1/\2<=2/\True)/\0<1/\1=1/\2<=16777216/\2<=9223372036854775807)<|vc h5<|vr 10 (True/\0<2/\True/\True/\0<1/\(1=1/\1<=1/\True)/\0<1/\1=1/\1<=16777216/\1<=9223372036854775807)<|vc h6<|veT<|zJ<|vret (True)<|.inr rfl
theorem grt_sho{r:Rw}(h:grtR r=Ab):r.length<=8/\Sho r:=by
 unfold grtR at h;rw[Bool.or_eq_false_iff,decide_eq_false_iff_not,List.any_eq_false]at h;refine⟨by omega,by omega,λv hv=>?_⟩
 have:=h.2 v hv
 simp only[decide_eq_true_eq]at this;omega
theorem wnot_c{c:Cs}(hg:c.Good)(r:Rw)(hr:(r.length:Int)=c.f):Pure Ai 10 [inpD c.n c.f c.desc c.P (c.ats c.V.length),rowV r] [] (if lvlZ (λi=>ansB c.n.toNat c.A (r.take i)) r.length=c.f then .tup [.agg [iD 0, .row [] 0],iD 17]else .tup [.agg [iD (lvlZ (λi=>ansB c.n.toNat c.A (r.take i)) r.length),resD (zJb (c.A.map (zAw (r.take (lvlZ (λi=>ansB c.n.toNat c.A (r.take i)) r.length+1).toNat))))],iD 0]):=by
 obtain⟨i1,i2,i3,i4,_⟩:=Cs.ic hg.ck;have hA:=hg.ok;have hrn:r.length<=c.n.toNat:=by omega
 have hck:=wchk_c c hg.s (Nat.le_refl _) r (by have:=hA.n8;omega);have e:wckE c c.V.length r=0:=by
  unfold wckE;rw[hg.ck,if_neg (by omega),if_neg (by omega)]
 rw[e,hg.inD]at hck;rw[hg.inD];have hlv:=zS0 c.n.toNat c.A hA (c.n.toNat:Nat) (c.f.toNat:Nat) (c.desc.map bD) (c.P.map λz=>iD z) c.desc.length c.P.length r hrn;have hle:=zSz (λi=>ansB c.n.toNat c.A (r.take i)) r.length;generalize lvlZ (λi=>ansB c.n.toNat c.A (r.take i)) r.length=lv at*;by_cases h1:lv=c.f
 ·rw[if_pos h1];have h2:lv=(c.f.toNat:Nat):=by omega
  rw[h2]at hlv;exact wnYes_c c.n.toNat (c.f.toNat:Nat) _ _ _ _ c.A r hck hlv
 rw[if_neg h1];obtain⟨k,hk⟩:∃k:Nat,lv=(k:Int)-1:=⟨(lv+1).toNat,by omega⟩;have hk2:(lv+1).toNat=k:=by omega
 rw[hk2];subst hk;exact wn_c c.n.toNat (c.f.toNat:Nat) (c.desc.map bD) (c.P.map λz=>iD z) c.desc.length c.P.length c.A r hA hrn k (by omega) (by omega) hck hlv
abbrev inqC(n f:Nat)(desc:List Bool)(P:List Int)(x:D):List D:=[iD (n:Nat),iD (f:Nat), .row (desc.map bD) desc.length, .row (P.map λz=>iD z) P.length,x]
abbrev atsR(B:List (List Nat×List Rw)):D:= .row (B.flatMap atN) B.length
theorem icB_c(n f:Nat)(desc:List Bool)(P:List Int)(B:List (List Nat×List Rw))(hd:desc.length<=2000000)(hP:P.length<=2000000)(hB:B.length<=2000000)(hv:∀b∈B,b.1.length<=2000000):Pure Ai 11 [.agg (inqC n f desc P (atsR B))] [] (iD (icE n f desc.length P (B.map toAt))):=by
 have hl:∀a∈B.map toAt,a.V.length<=2000000:=λa ha=>by
  obtain⟨b,hb,rfl⟩:=AG.1 ha;show(b.1.map _).length<=_;rw[AF];exact hv b hb
 have h:=zWr (n:Nat) (f:Nat) desc P (B.map toAt) hd hP (by rw[AF];exact hB) hl λh0 h1=>lfAll_c _ _ h0 h1 hl;have e:inpD (n:Nat) (f:Nat) desc P (B.map toAt)= .agg (inqC n f desc P (atsR B)):=by
  show D.agg [_,_,_,_, .row ((B.map toAt).flatMap atC) (B.map toAt).length]=_;rw[toAt_fl,AF]
 rw[e]at h;exact h
theorem wckB_c(n f:Nat)(desc:List Bool)(P:List Int)(X:List D)(l:Nat)(r:Rw)(hr:r.length=f)(hck:Pure Ai 11 [.agg (inqC n f desc P (.row X l))] [] (iD 0)):Pure Ai 33 [.agg (inqC n f desc P (.row X l)),rowV r] [] (iD 0):=by
 have h2:(((r.length:Nat):Int)!=(f:Nat))=false:=by rw[hr];exact bne_self_eq_false _
 refine zH zBr mixed Tryz.func33 rfl<|vAu<|zB<|vA<|vr 1 (5<=5)<|vc (hck)<|veT<|vAe<|vf<|vK<|zB<|vA<|vr 5 (True/\0<4/\True)<|vs 15 (bD ((Aa r:Int)!=(f:Int))) (bD Ab) (hd:=by simp(disch:=omega) only[h2])<|veT<|vf<|vK<|vAe<|zJ<|vret (True)<|.inr rfl
theorem wnot_min{c:Cs}(hg:c.Good)(r:Rw)(hr:(r.length:Int)=c.f):Pure Ai 10 [.agg (inqC c.n.toNat c.f.toNat c.desc c.P (atsR c.A)),rowV r] [] (.tup [.agg [iD 0, .row [] 0],iD 17])\/∃(lv:Int)(k s:Nat),s<2^c.A.length/\alB (c.A.map (zAw (r.take k))) s=Ab/\Pure Ai 10 [.agg (inqC c.n.toNat c.f.toNat c.desc c.P (atsR c.A)),rowV r] [] (.tup [.agg [iD lv, .row (itsD (memL s)) (memL s).length],iD 0]):=by
 have hwn:=wnot_c hg r hr;rw[hg.inD]at hwn;have hA:=hg.ok;obtain⟨g1,g2,g3,g4,_⟩:=Cs.ic hg.ck;have hle:=zSz (λi=>ansB c.n.toNat c.A (r.take i)) r.length;have hno:=λ(i:Nat)=>lvlZ_no (b:=λi=>ansB c.n.toNat c.A (r.take i)) (n:=r.length) (i:=i);have hbr:=λk (hk:k<=r.length)=>best_rest hA (p:=r.take k) (by rw[AM];omega);generalize lvlZ (λi=>ansB c.n.toNat c.A (r.take i)) r.length=lv at*;by_cases h2:lv=c.f
 ·rw[if_pos h2]at hwn;exact .inl hwn
 rw[if_neg h2]at hwn;obtain⟨k,hk⟩:∃k:Nat,lv=(k:Int)-1:=⟨(lv+1).toNat,by omega⟩;have hk2:(lv+1).toNat=k:=by omega
 rw[hk2]at hwn;obtain⟨s,s1,s2,s3⟩:=hbr k (by omega) (hno k (by omega) (by omega));rw[s1]at hwn;refine .inr ⟨lv,k,s,s2,?_,hwn⟩;unfold minB at s3;rw[Bool.and_eq_true]at s3;simpa using s3.1
set_option maxHeartbeats 16000000 in
theorem zSq(c:Cs)(h:c.Small)(ht:c.Typ)(r:Rw)(hr:r.length<=2000000)(hs:∀v∈r,v.str.length<=2000000):Pure Ai 3 [.agg (csC c),rowV r] [] (bD Ac):=by
 obtain⟨m,ok,e,hm,hok,hw⟩:=wrong_c c h r hr hs;have haw:=awake50_c;cases ok;case false=>
  generalize c.ats m=ats at*;refine zH zAq mixed AJ rfl<|vAu<|vA<|vr 2 (6<=6)<|vc (hw)<|ve (0<3/\1<3/\2<3/\Ab=Ab/\Ac=Ac/\5=5/\5<=5)<|zB<|vAe<|vt<|vA<|vc (haw)<|veT<|zJ<|zG<|vret (True)<|.inr rfl
 obtain⟨rfl,q2,q3,q4,q5,q6⟩:=hok rfl;obtain⟨hr8,hsh⟩:=grt_sho q5;have hml:c.V.length<=5:=q4.V;by_cases he:e=0;case neg=>
  generalize c.ats c.V.length=ats at*;have e1:(e !=0)=true:=bne_iff_ne.2 he;refine zH zAq mixed AJ rfl<|vAu<|vA<|vr 2 (6<=6)<|vc (hw)<|ve (0<3/\1<3/\2<3/\Ab=Ab/\Ac=Ac/\5=5/\5<=5)<|zB<|vA<|vrT 5<|vs 26 (bD (e !=(0:Int))) (bD Ac) (hd:=by simp(disch:=omega) only[e1])<|veT<|vt<|vA<|vc (haw)<|veT<|zJ<|zG<|vret (True)<|.inr rfl
 subst he;have q6:=q6.symm;unfold wckE at q6;have h1:icE c.n c.f c.desc.length c.P (c.ats c.V.length)=0:=by
  apply AO;intro hh;rw[if_pos hh]at q6;exact hh q6
 have hf:(r.length:Int)=c.f:=by
  rw[h1,if_neg (by omega)]at q6;apply AO;intro hh;rw[if_pos hh]at q6;cases q6
 have hg:c.Good:=⟨h,q2,q3,h1,q4,ht⟩;have hA:=hg.ok;obtain⟨g1,g2,g3,g4,_⟩:=Cs.ic hg.ck;have hrn:r.length<=c.n.toNat:=by omega
 have hrf:r.length=c.f.toNat:=by omega
 have hAl:=Cs.A_len c;have hn8:=hA.n8;have hv32:=hA.v32;have hwn:=wnot_min hg r hf;rw[hg.inD]at hw;have hchm:=λs hs=>chos_mem c.A (s:=s) hs (by omega);have hcno:=λs k=>chos_no hA (s:=s) (k:=k) (r:=r);have hchl:=λs=>zR2 c.A s;have hchs:=λs=>zR1 c.A s;have hsub:=λs hc=>hA.sub (B:=zCk c.A s) (by have:=hchl s;omega) (hchs s) hc;have hicb:=λs=>icB_c c.n.toNat c.f.toNat c.desc c.P (zCk c.A s) h.d h.P (by have:=hchl s;omega) λb hb=>by have:=hv32 b (hchs s b hb);omega
 have hdl:=h.d;have hPl:=h.P;clear hg hA hv32 h1 q6;generalize c.A=A at*;generalize c.n.toNat=n at*;generalize c.f.toNat=f at*;have hwn:Pure Ai 10 [.agg [iD (n:Nat),iD (f:Nat), .row (c.desc.map bD) c.desc.length, .row (c.P.map λz=>iD z) c.P.length, .row (A.flatMap atN) A.length],rowV r] [] (.tup [.agg [iD 0, .row [] 0],iD 17])\/∃(lv:Int)(k s:Nat),s<2^A.length/\alB (A.map (zAw (r.take k))) s=Ab/\Pure Ai 10 [.agg [iD (n:Nat),iD (f:Nat), .row (c.desc.map bD) c.desc.length, .row (c.P.map λz=>iD z) c.P.length, .row (A.flatMap atN) A.length],rowV r] [] (.tup [.agg [iD lv, .row (itsD (memL s)) (memL s).length],iD 0]):=hwn;rcases hwn with hwn|⟨lv,k,s,s1,s2,hwn⟩
 ·refine zH zAq mixed AJ rfl<|vAu<|vA<|vr 2 (6<=6)<|vc (hw)<|ve (0<3/\1<3/\2<3/\Ab=Ab/\Ac=Ac/\5=5/\5<=5)<|zB<|vAe<|vf<|vK<|vA<|vr 2 (5<=5)<|vc (hwn)<|ve (0<2/\1<2/\Ab=Ab/\Ac=Ac/\2=2/\2<=2)<|zB<|vAe<|vt<|vA<|vc (haw)<|veT<|zJ<|zG<|vret (True)<|.inr rfl
 have hmx:=zJ7 s;have hmr:∀z∈memL s,0<=z/\z<(A.length:Nat):=λz hz=>okX_mem (okX_memL s1) hz;have hch:=hchm s s1;have hno:=hcno s k s2;have hic:=hicb s;have hsb:=hsub s;have hcl:=hchl s;obtain⟨B,hB⟩:∃B,B=zCk A s:=⟨_,rfl⟩;rw[<-hB]at hch hno hic hsb hcl;generalize memL s=l at*;have hBl:B.length=l.length:=by rw[<-hch,AF]
 refine zH zAq mixed AJ rfl<|vAu<|vA<|vr 2 (6<=6)<|vc (hw)<|ve (0<3/\1<3/\2<3/\Ab=Ab/\Ac=Ac/\5=5/\5<=5)<|zB<|vAe<|vf<|vK<|vA<|vr 2 (5<=5)<|vc (hwn)<|ve (0<2/\1<2/\Ab=Ab/\Ac=Ac/\2=2/\2<=2)<|zB<|vAe<|vf<|vK<|vA<|ve (5<=5/\Ab=Ab/\Ac=Ac/\5=5/\5<=5)<|vA<|ve (True/\Bk.fz (Ax [iD (n:Int),iD (f:Int),Ae (Ad bD<|Al c)<|Aa<|Al c,Ae (Ad (λ(z:Int)=>iD z)<|Am c)<|Aa<|Am c,Ae (Ar atN A)<|Aa A] 32 0 Ab Ab Au)=Ab/\Ac=Ac/\1=1/\5<=5)<|zB<|vA<|ve (True/\0<1)<|zF<|zR (λ(i:Nat)=>fr 82 [(1,rowV r),(5,Af 1 0),(10,Af 3 0),(41,Ae (itsD l)<|Aa l),(42,iD (Aa l:Int)),(43,iD (i:Int))]) (λ(i:Nat)=>[csB c,⟨inqC n f c.desc c.P<|atsR A,32,0,Ab,Ab,.plain⟩,⟨[iD lv,.row (itsD l) l.length],38,0,Ab,Ab,.plain⟩,⟨inqC n f c.desc c.P<|.osl 4 0 i (i*3) Ac,32,0,Ab,Ab,.plain⟩,⟨(((l.take i).map λz=>A.getD z.toNat AA).flatMap atN),45,3,Ac,Ab,.plain⟩]) (λ(i:Nat)=>l.length-i) (λ(i:Nat)=>i<=l.length) 0 ?_ ?_ ?_
 ·omega
 ·refine wkn (fr 82 [(1,rowV r),(4,bD Ab),(5,Af 1 0),(10,Af 3 0),(41,Ae (itsD l) (Aa l)),(42,iD (Aa l:Int)),(43,iD 0)]) [Ax [iD (Cs.n c),iD (Cs.f c),Ae (Ad bD (Al c)) (Aa (Al c)),Ae (Ad (λ(z:Int)=>iD z) (Am c)) (Aa (Am c)),Ae (Ad zBe (Cs.V c)) (Aa (Cs.V c)),Ae (Ad zBw (Cs.R c)) (Aa (Cs.R c))] 27 0 Ab Ab Au,Ax [iD (n:Int),iD (f:Int),Ae (Ad bD (Al c)) (Aa (Al c)),Ae (Ad (λ(z:Int)=>iD z) (Am c)) (Aa (Am c)),Ae (Ar atN A) (Aa A)] 32 0 Ab Ab Au,Ax [iD lv,Ae (itsD l) (Aa l)] 38 0 Ab Ab Au,Ax [iD (n:Int),iD (f:Int),Ae (Ad bD (Al c)) (Aa (Al c)),Ae (Ad (λ(z:Int)=>iD z) (Am c)) (Aa (Am c)),nl] 32 0 Ab Ab Au] ?_;refine(Weak.nilC (j:=3) (i:=4) (ej:=⟨inqC n f c.desc c.P nl0,32,0,Ab,Ab, .plain⟩) ⟨[],45,3,Ac,Ab, .plain⟩ rfl rfl rfl rfl).trans ?_;refine vk 5
 rintro i i1;have hql:(((l.take i).map λz=>A.getD z.toNat AA).flatMap atN).length=i*3:=by rw[zEa zAj,AF,AM,Nat.min_eq_left i1]
 rcases AE i l.length with i3|i3
 ·have hx1:=zDd l i i3;have hne1:(l.map λz=>iD z)≠[]:=zAb;have hzr:=hmr _ (zAh l 0 i i3);have hsn:((l.take (i+1)).map λz=>A.getD z.toNat AA).flatMap atN=((l.take i).map λz=>A.getD z.toNat AA).flatMap atN++atN (A.getD (l.getD i 0).toNat AA):=by
   rw[List.take_succ_eq_append_getElem i3,AL,List.flatMap_append,AN (l:=l),List.getElem?_eq_getElem i3];simp
  generalize l.getD i 0=z at*;obtain⟨v,rfl⟩:∃v:Nat,z=v:=⟨z.toNat,by omega⟩;rw[Az]at hsn;have hg:=zMg zAj A v (by omega);have hle:=zF7 zAj A v (by omega);have hne:=zF6 zAj (by decide) A;generalize ((l.take i).map λz=>A.getD z.toNat AA).flatMap atN=q at*;generalize A.getD v AA=a at*;obtain⟨V,R⟩:=a;refine vAu<|zB<|vT ((i:Int)<↑(Aa l))<|vKB<|vA<|vr 1 (ix ↑i ↑(Aa l) (itsD l≠[]))<|vp 45 i (itsD l)<|vr 1 (0<Aa (An i<|itsD l))<|vsh 46 hx1<|veT<|zB<|vA<|vew [] [(2,Ab)] (decide ((v:Int)<0)=Ab/\True/\0<1)<|vF ((v:Int)>=(Aa A:Int))<|vK<|vd [0,2,4,1,3,5,6,7,8,9,10]<|vr 6 (True/\True/\0<1/\0<1/\ix ↑v ↑(Aa A) (Ar atN A≠[]))<|vs 61 (D.ptr<|An (Av (v:Int)*3)<|Ar atN A) (D.ptr (Ae (Ad (λ(v:Nat)=>iD v) V) (Aa V)::iD (Aa V)::Ae (Ad rowV R) (Aa R)::Ar atN (An (v+1) A))) (hd:=by simp(disch:=omega) only[Az,List.cons_append,List.nil_append,hg])<|vr 5 (3<=Aa (Ae (Ad (λ(v:Nat)=>iD v) V) (Aa V)::iD (Aa V)::Ae (Ad rowV R) (Aa R)::Ar atN (An (v+1) A))/\((3=3/\3<=3/\True)/\0<3/\3=3/\3<=16777216/\1<=9223372036854775807)/\(Ac=Ac/\Aa q=i*3/\i*3=i*3/\45=45/\3=3/\3=3/\0<3/\0<56/\45=45/\(i+1)*56<=140737488355328/\3=3/\Kd.isMap Au=Ab/\(Ab=Ab\/Kd.isSh Au=Ac))/\True/\Ab=Ab/\Ac=Ac/\1=1/\5<=5)<|vnil<|zE<|vN<|zA rfl<|vr 2 (i6 (↑i+1))<|vnil<|zC<|⟨i+1,by omega,by omega,?_⟩;rw[hsn];refine vk 5
 obtain rfl:i=l.length:=by omega
 rw[AK,hch]at hql⊢;have hqt:(B.flatMap atN).take (l.length*3)=B.flatMap atN:=List.take_of_length_le (by omega);have hic:Pure Ai 11 [.agg [iD (n:Nat),iD (f:Nat), .row (c.desc.map bD) c.desc.length, .row (c.P.map λz=>iD z) c.P.length, .row (B.flatMap atN) B.length]] [] (iD (icE (n:Nat) (f:Nat) c.desc.length c.P (B.map toAt))):=hic;rw[hBl]at hic;by_cases hz:icE (n:Nat) (f:Nat) c.desc.length c.P (B.map toAt)=0
 ·have hcv:=ic_cov hz;rw[Az]at hcv;have hBo:=hsb hcv;rw[hz]at hic;have hck:=wckB_c n f c.desc c.P (B.flatMap atN) l.length r hrf hic;have hck:Pure Ai 33 [.agg [iD (n:Nat),iD (f:Nat), .row (c.desc.map bD) c.desc.length, .row (c.P.map λz=>iD z) c.P.length, .row (B.flatMap atN) l.length],rowV r] [] (iD 0):=hck;rw[<-hBl]at hck;have hwy:Pure Ai 12 [.agg [iD (n:Nat),iD (f:Nat), .row (c.desc.map bD) c.desc.length, .row (c.P.map λz=>iD z) c.P.length, .row (B.flatMap atN) B.length],rowV r] [] (.tup [.row [] 0,iD 9]):=whyNo_c n (f:Nat) (c.desc.map bD) (c.P.map λz=>iD z) c.desc.length c.P.length B r hBo hrn hno hck;rw[hBl]at hwy;refine vAu<|zB<|vF ((Aa l:Int)<↑(Aa l))<|vZ2<|zB<|vA<|vr 1 (5<=5)<|vcl [D.agg [iD n,iD f,Ae (Ad bD<|Al c)<|Aa<|Al c,Ae (Ad (λ(z:Int)=>iD z)<|Am c)<|Aa<|Am c,Ae (Ay (Aa l*3)<|An 0<|Ar atN B)<|Aa l]] [D.agg [iD n,iD f,Ae (Ad bD<|Al c)<|Aa<|Al c,Ae (Ad (λ(z:Int)=>iD z)<|Am c)<|Aa<|Am c,Ae (Ar atN B)<|Aa l]] (LeL.of_eq (by simp(disch:=omega) only[AI,hqt])) (by exact hic)<|veT<|vf<|vK<|vA<|vr 2 (5<=5)<|vcl [D.agg [iD n,iD f,Ae (Ad bD<|Al c)<|Aa<|Al c,Ae (Ad (λ(z:Int)=>iD z)<|Am c)<|Aa<|Am c,Ae (Ay (Aa l*3)<|An 0<|Ar atN B)<|Aa l],Ae (zM r)<|Aa r] [D.agg [iD n,iD f,Ae (Ad bD<|Al c)<|Aa<|Al c,Ae (Ad (λ(z:Int)=>iD z)<|Am c)<|Aa<|Am c,Ae (Ar atN B)<|Aa l],Ae (zM r)<|Aa r] (LeL.of_eq (by simp(disch:=omega) only[AI,hqt])) (by exact hwy)<|ve (0<2/\1<2)<|vA<|vrT 3<|vc haw<|veT<|zJ<|vret (True)<|.inr rfl
 generalize icE (n:Nat) (f:Nat) c.desc.length c.P (B.map toAt)=y at*;have e1:(y !=0)=true:=bne_iff_ne.2 hz;refine vAu<|zB<|vF ((Aa l:Int)<↑(Aa l))<|vZ2<|zB<|vA<|vr 1 (5<=5)<|vcl [D.agg [iD n,iD f,Ae (Ad bD<|Al c)<|Aa<|Al c,Ae (Ad (λ(z:Int)=>iD z)<|Am c)<|Aa<|Am c,Ae (Ay (Aa l*3)<|An 0<|Ar atN B)<|Aa l]] [D.agg [iD n,iD f,Ae (Ad bD<|Al c)<|Aa<|Al c,Ae (Ad (λ(z:Int)=>iD z)<|Am c)<|Aa<|Am c,Ae (Ar atN B)<|Aa l]] (LeL.of_eq (by simp(disch:=omega) only[AI,hqt])) (by exact hic)<|vrT 1<|vs 69 (bD (y !=(0:Int))) (bD Ac) (hd:=by simp(disch:=omega) only[e1])<|veT<|vt<|vA<|vc haw<|veT<|zJ<|zG<|vret (True)<|.inr rfl
end
end Go.Proofs.YthmfohpkimflhaaGreatDoor
