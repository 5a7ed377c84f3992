/- Texts of this claim, joined. -/
import Derived.Test.YthmfohpkimflhaaGreatDoorQ04
set_option linter.unusedVariables false
set_option linter.unusedSimpArgs false
namespace Go.Proofs.YthmfohpkimflhaaGreatDoor
open _root_.List renaming length->Aa,map->Ad,drop->Ah,flatMap->Am,range->Aw,take->Ax,length_map->Az,drop_zero->AD,length_take->AH,take_of_length_le->AI,getD_eq_getElem?_getD->AP,length_append->AU,cons_append->AW,nil_append->AX,map_append->AY,getD->AZ,take_length->A0,mem_map->A2,range_succ->A3,length_singleton->A4,set->A6,length_range->A7,filter_append->A8,filter_cons->A9,getElem?_range->A_,getElem?_map->Ba,getElem?_eq_getElem->Bg,length_filter_le->Bi,mem_of_mem_take->Bm,getElem?_eq_none->Bn,flatMap_append->Bq,mem_range->Br,mem_cons->Bw,mem_filter->Bx,append_assoc->By,length_drop->BB,headD_cons->BC,drop_eq_getElem_cons->BD,getElem?_append_right->BE
open _root_.Bool renaming true->Ab,false->Ac,or_eq_false_iff->Bh,eq_iff_iff->Bj,true_and->Bs,false_and->BA
open D renaming row->Ae,osl->Ai,val->Aj,own->Ak,ptr->AF,clo->AK
open IntKind renaming u32->Af,wrap->Ap,i64->AO
open _root_.BitVec renaming ofInt->Ag,toNat->Aq
open Value renaming int->Al,string->AE,bool->Bt
open _root_.Int renaming toNat->An,toNat_natCast->Au,fdiv->AJ
open _root_.Go.Proofs.Tryz renaming prog->Ao,func77->Bo,func4->Bv
open Bk renaming cells->Ar,mk->AA,kd->AC,ty->AL,sz->AM,arr->AQ
open _root_.Inhabited renaming default->As
open _root_.Option renaming some->Av,none->AG
open _root_.Nat renaming lt_or_ge->Ay,le_refl->AN,min_eq_left->AV,mul_one->A1,pow_le_pow_right->Bb,and_le_left->Bl,lt_of_le_of_lt->Bp,sub_zero->Bu,shiftRight_eq_div_pow->BF
open Kd renaming plain->AB,isMap->AR,isSh->AS
open LeL renaming refl->AT,of_eq->A5
open TypeInfo renaming desc->Bc,mk->Bd
open TypeDesc renaming int->Bf
open _root_.Classical renaming byContradiction->BG
open Go.RowKit
section
attribute [local irreducible] seqW awp zV zY zR Weak updS zZ retL Pure Acts rP setP setQ cP nP fr
set_option maxRecDepth 4096
abbrev witC(w:Nat×Rw):List D:=[iD (w.1:Nat),rowV w.2]
theorem zKc(w:Nat×Rw):(witC w).length=2:=rfl
abbrev zWi:List D:=[iD 0, .val (.slice AG 0 0)]
abbrev wiK(l:List D):Bk:=⟨l,68,2,Ab,Ac, .sh⟩
abbrev vaK(l:List D)(z:Bool):Bk:=⟨l,73,3,Ab,z, .plain⟩
abbrev ipK(x0 x1 x2 x3:D)(A:List (List Nat×List Rw)):Bk:=⟨inpA x0 x1 x2 x3 A,32,0,Ac,Ac, .plain⟩
def Twy:Par:=⟨λ_=>Ac,λ_ _=>AG,λ_=>Ac,λ_=>Ac,λt=>t==68⟩
theorem Twy_ok:zBl Ao Twy:=by intro t n f h;cases h
theorem filW_kill(L:List (Nat×Rw))(n k:Nat):(filG witC zWi L n).map (zA5 k)=filG witC zWi L n:=by
 have key:∀d∈filG witC zWi L n,zA5 k d=d:=λd hd=>by
  unfold filG at hd;rcases List.mem_append.1 hd with h|h
  ·obtain⟨w,_,hw⟩:=List.mem_flatMap.1 h;have hw:d=iD (w.1:Nat)\/d=rowV w.2:=by simpa using hw
   rcases hw with rfl|rfl<;>rfl
  obtain⟨l,hl,hd⟩:=List.mem_flatten.1 h
  have:=List.eq_of_mem_replicate hl
  subst this;have hd:d=iD 0\/d=nl0:=by simpa using hd
  rcases hd with rfl|rfl<;>rfl
 conv=>rhs;rw[<-List.map_id (filG witC zWi L n)]
 exact List.map_congr_left key
def wiC(C:List D)(i:Nat)(d:D):List D:=(C.set (i*2) (iD (i:Nat))).set (i*2+1) d
theorem wiC_kill{C:List D}{k:Nat}(h:C.map (zA5 k)=C)(i:Nat)(d:D):(wiC C i d).map (zA5 k)=wiC C i (zA5 k d):=by
 unfold wiC;rw[List.map_set,List.map_set,h];rfl
theorem zZc(C:List D)(i:Nat)(d e:D):(wiC C i d).set (i*2+1) e=wiC C i e:=by
 unfold wiC;rw[List.set_set]
theorem zZd{C:List D}{i:Nat}(h:i*2+1<C.length)(d:D):(wiC C i d)[i*2+1]?=Av d:=by
 unfold wiC;rw[List.getElem?_set_self (by rw[List.length_set];exact h)]
theorem wiC_hd{C:List D}{i:Nat}(h:i*2+1<C.length)(d:D):((wiC C i d).drop (i*2+1)).headD .unk=d:=by
 have h1:=zZd h d;have h2:i*2+1<(wiC C i d).length:=by
  rcases Ay (i*2+1) (wiC C i d).length with h2|h2
  ·exact h2
  rw[Bn h2]at h1;cases h1
 rw[Bg h2]at h1;injection h1 with h1;rw[BD h2,h1];rfl
theorem wiC_len(C:List D)(i:Nat)(d:D):(wiC C i d).length=C.length:=by simp[wiC]
theorem filW_nil{L:List (Nat×Rw)}{n:Nat}(h:L.length<n):(filG witC zWi L n)[L.length*2+1]?=Av nl0:=by
 obtain⟨m,hm⟩:∃m,n-L.length=m+1:=⟨n-L.length-1,by omega⟩;have e:(L.flatMap witC).length=L.length*2:=zDc zKc L;unfold filG;rw[hm,zEc,BE (by omega),e,show L.length*2+1-L.length*2=1 by omega];rfl
theorem wit_refs(L:List (Nat×Rw))(j:Nat):zBf j (L.flatMap witC)=false:=by
 induction L with
 |nil=>rfl
 |cons w L ih=>exact ih
theorem filW_refs(L:List (Nat×Rw))(n j:Nat):zBf j (filG witC zWi L n)=false:=by
 have h1:∀m,zBf j (repL m zWi)=false:=λm=>by
  induction m with
  |zero=>rfl
  |succ m ih=>rw[zEc];exact ih
 unfold filG;induction L with
 |nil=>exact h1 _
 | cons w L ih=>
  have ih:zBf j (L.flatMap witC++repL (n-(w::L).length) zWi)=false:=by
   have key:∀(X:List (Nat×Rw))(m:Nat),zBf j (X.flatMap witC++repL m zWi)=false:=λX m=>by
    induction X with
    |nil=>exact h1 m
    |cons x X ihx=>exact ihx
   exact key L _
  exact ih
theorem zLj{j:Nat}:∀{C:List D}(i:Nat){d:D},zBf j C=Ac->refs j d=Ac->zBf j (C.set i d)=Ac
 |[],i,d,_,_=>rfl
 |c::C,0,d,h,hd=>by
  simp only[zBf,Bh]at h;simp only[List.set_cons_zero,zBf,Bh];exact⟨hd,h.2⟩
 |c::C,i+1,d,h,hd=>by
  simp only[zBf,Bh]at h;simp only[List.set_cons_succ,zBf,Bh];exact⟨h.1,zLj i h.2 hd⟩
theorem zVv{C:List D}{j:Nat}(h:zBf j C=Ac)(i:Nat){d:D}(hd:refs j d=Ac):zBf j (wiC C i d)=false:=zLj _ (zLj _ h rfl) hd
section
variable (n : Nat) (z1 : Int) (cs2 cs3 : List D) (m2 m3 : Nat) (A : List (List Nat × List Rw)) (r : Rw)
set_option maxHeartbeats 8000000 in
theorem why_c(h:AtOk n A)(hr:r.length<=n)(ha:Ans n A r)(hck:Pure Ao 33 [.agg (inpA (iD (n:Nat)) (iD z1) (.row cs2 m2) (.row cs3 m3) A),rowV r] [] (iD 0)):∃y,FirB n A r y/\y.length=n/\Pure Ao 12 [.agg (inpA (iD (n:Nat)) (iD z1) (.row cs2 m2) (.row cs3 m3) A),rowV r] [] (.tup [.row ((witL A y).flatMap witC) A.length,iD 0]):=by
 have hn8:=h.n8;have hl5:=h.l;obtain⟨y,hy,hyn⟩:∃y,FirB n A r y/\y.length=n:=by
  have key:∀k p,FirB n A r p->n-p.length=k->∃y,FirB n A r y/\y.length=n:=λk=>by
   induction k with
   |zero=>intro p hp hk;exact⟨p,hp,by have:=hp.l2;omega⟩
   |succ k ih=>
    intro p hp hk;have hB:=h.rest hp.l2;obtain⟨x,hx,_⟩|⟨hx,_⟩:=least_c (n-p.length) (A.map (zAw p)) hB (by omega)
    ·exact ih (p++[x]) (hp.step h (by omega) hx) (by rw[AU,A4];omega)
    exact absurd (hp.none h) hx
  exact key _ r (FirB.nil hr ha) rfl
 refine⟨y,hy,hyn,?_⟩;have huq:∀p,FirB n A r p->p.length=n->p=y:=λp hp hpn=>by
  have h1:=hp.m y hyn (by
   obtain⟨z,z1,z2,z3⟩:=hy.a;rw[hyn]at z2;rw[<-z2,AI (by omega)];exact z3) hy.t
  have h2:=hy.m p hpn (by
   obtain⟨z,z1,z2,z3⟩:=hp.a;rw[hpn]at z2;rw[<-z2,AI (by omega)];exact z3) hp.t
  rw[AI (by omega)]at h1 h2;rcases h1 with h1|h1
  ·exact h1.symm
  rcases h2 with h2|h2
  ·exact h2
  have:=(zBt p y).2.2
  omega
 have hre0:=zEb A h.r r (by omega);have hsa0:=sat_c h hr;rw[zSv.2 ha]at hsa0;have hcl:=zNn (zL r) r.length (zAe r) (by omega);have r0:repL A.length zWi=filG witC zWi [] A.length:=zXd A.length;refine zH Twy_ok mixed Tryz.func12 rfl<|zB<|zA rfl<|v0s<|veT<|zB<|zB<|zA rfl<|vr 2 (5<=5)<|vc (hck)<|veT<|zB<|zA rfl<|veT<|vf<|zK<|zC<|zD<|zB<|zB<|zA rfl<|vr 3 (True/\0<1)<|vc (hre0)<|vc (hsa0)<|veT<|vf<|zK<|zC<|zD<|zB<|zA rfl<|vrT 1<|vn (hcl)<|veT<|zB<|zG<|zBd (λ(k:Nat)(p:Rw)(z:Bool)=>fr 95 [(2,Ak 0 0),(7,Ai 1 0 (Aa p) (Aa p*3) Ab)]) (λ(k:Nat)(p:Rw)(z:Bool)=>[ipK (iD (n:Nat)) (iD z1) (.row cs2 m2) (.row cs3 m3) A,vaK (zL p) z]) (λk p z=>n-p.length) (λ(k:Nat)(p:Rw)(z:Bool)=>FirB n A r p) 0 r Ac ?_ ?_ ?_
 ·exact FirB.nil hr ha
 ·refine vk 2
 rintro k p z hp;have hpl:=hp.l2;have hpc:=zAe p;have hpt:(zL p).take (p.length*3)=zL p:=AI (by omega);rcases Ay p.length n with hpn|hpn
 ·have hB:=h.rest hp.l2;have hre:=zEb A h.r p (by omega);have hls:=least_c (n-p.length) (A.map (zAw p)) hB (by omega);rw[Az]at hls;have hsb:((n:Nat):Int)-(p.length:Nat)=((n-p.length:Nat):Int):=by omega
  obtain⟨x,hx,hlc⟩|⟨hx,_⟩:=hls
  ·have hst:=hp.step h hpn hx;have hap:zL (p++[x])=zL p++vaC x:=by simp[zL]
   have hal:(p++[x]).length=p.length+1:=by simp
   obtain⟨xk,xi,xs⟩:=x;refine zB<|zB<|zA rfl<|v0s<|ve (True/\0<5)<|vT ((Aa p:Int)<(n:Int))<|zK<|zC<|zD<|zG<|zB<|vd [0,2,3,5,7,1,4,6,8,9,10,11,12,13,14,15]<|vr 7 (True/\True/\0<5/\i6 ((n:Int)-(Aa p:Int)))<|vs 39 (iD ((n:Int)-(Aa p:Int))) (iD (↑(n-Aa p):Int)) (hd:=by simp(disch:=omega) only[hsb])<|vr 1 (0<1)<|vcl [Ae (Am atN A)<|Aa A,Ae (Ax (Aa p*3)<|Ah 0<|Ar<|vaK (zL p) z)<|Aa p] [Ae (Am atN A)<|Aa A,Ae (zL p)<|Aa p] (A5 (by simp(disch:=omega) only[AD,hpt])) (by exact hre)<|vc (hlc)<|ve (0<2/\1<2/\Ac=Ac/\Ab=Ab/\3=3/\3<=3)<|zB<|zB<|zA rfl<|veT<|vf<|zK<|zC<|zD<|zA rfl<|vr 5 (3<=3/\((3=3/\3<=3/\True)/\0<3/\3=3/\3<=16777216/\1<=9223372036854775807)/\AQ (AA (zL p) 73 3 Ab Ab AB)=Ab/\Aa (zL p)=Aa p*3/\Aa p*3=Aa p*3/\AL (AA (zL p) 73 3 Ab Ab AB)=73/\AM (AA (zL p) 73 3 Ab Ab AB)=3/\3=3/\0<3/\0<32/\73=73/\(Aa p+1)*32<=140737488355328/\3=3/\AR (AC<|AA (zL p) 73 3 Ab Ab AB)=Ac/\(Ac=Ac\/AS (AC<|AA (zL p) 73 3 Ab Ab AB)=Ab))<|vnil<|zE<|zC<|⟨0,p++[⟨xk,xi,xs⟩],Ab,hst,by omega,?_⟩;rw[hap,hal];refine vk 2
  exact absurd (hp.none h) hx
 obtain rfl:=huq p hp (by omega);refine zB<|zB<|zA rfl<|v0s<|ve (True/\0<5)<|vF ((Aa p:Int)<(n:Int))<|zS<|zM<|zM<|zQ rfl<|zC<|zD<|zB<|zA rfl<|ve (True/\0<1/\(0:Int)<=(Aa A:Int)/\(Aa A:Int)<=(Aa A:Int)/\(↑(32:Nat):Int)*(Aa A:Int)<=(281474976710656:Int)/\(Aa A:Int)<=(281474976710656:Int)/\0<2/\2=2)<|zB<|zB<|zA rfl<|ve (True/\0<1)<|zG<|zP (λ(i:Nat)=>fr 95 [(7,Ai 1 0 (Aa p) (Aa p*3) Ab),(10,Ai 2 0 (Aa A) (Aa A*2) Ab),(58,Ae (Am atN A)<|Aa A),(59,iD (Aa A:Int)),(60,iD (i:Int))]) (λ(i:Nat)=>[ipK (iD (n:Nat)) (iD z1) (.row cs2 m2) (.row cs3 m3) A,vaK (zL p) z,wiK<|filG witC zWi ((witL A p).take i) A.length]) (λi=>A.length-i) (λ(i:Nat)=>i<=A.length) 0 ?_ ?_ ?_
 ·omega
 ·refine vk 3
 rintro i h1;have hWl:((witL A p).take i).length=min i A.length:=by rw[AH,zGv]
 rcases Ay i A.length with h2|h2
 ·rw [AV (by omega)]at hWl;have hg:=zGq zAo A i h2;have hle:=zD2 zAo A i h2;have hne:=zD1 zAo (by decide) A;have hin:=zAc A As i h2;have hla:=h.lt _ hin;have hvn:=zB0 (A:=(A.getD i As).1) ⟨h.asc _ hin,λv hv=>by have:=hla v hv;omega⟩;have hsu:=zZb A p i h2;have hset:=zKo (z:=zWi) zKc rfl ((witL A p).take i) A.length (i,zT p (A.getD i As).1) (by omega);have hkill:=filW_kill ((witL A p).take i) A.length;have hnil:=filW_nil (L:=(witL A p).take i) (n:=A.length) (by omega);have hfl:=zKp (L:=(witL A p).take i) (z:=zWi) (n:=A.length) zKc rfl (by omega);rw[hWl,<-hsu]at hset;rw[hWl]at hnil;clear hsu;have hset2:wiC (filG witC zWi ((witL A p).take i) A.length) i (rowV (zT p (A.getD i As).1))=filG witC zWi ((witL A p).take (i+1)) A.length:=hset;clear hset;generalize A.getD i As=a at*;obtain⟨V,R⟩:=a;simp only at hla hvn;have hrf:=filW_refs ((witL A p).take i) A.length;generalize filG witC zWi ((witL A p).take i) A.length=C at*;have hC1:i*2+1<C.length:=by omega
  refine zB<|zA rfl<|v0s<|veT<|zB<|vT ((i:Int)<(Aa A:Int))<|zK<|zC<|zD<|zB<|zG<|zB<|zA rfl<|vr 2 (ix (i:Int) (Aa A:Int) (Am atN A≠[]))<|vs 63 (AF<|Ah (An (i:Int)*3)<|Am atN A) (AF (Ae (Ad (λ(v:Nat)=>iD (v:Int)) V) (Aa V)::iD (Aa V:Int)::Ae (Ad rowV R) (Aa R)::Am atN (Ah (i+1) A))) (hd:=by simp(disch:=omega) only[Au,AW,AX,hg])<|ve (3<=Aa (Ae (Ad (λ(v:Nat)=>iD (v:Int)) V) (Aa V)::iD (Aa V:Int)::Ae (Ad rowV R) (Aa R)::Am atN (Ah (i+1) A))/\Ac=Ac/\Ab=Ab/\3=3/\3<=3)<|zB<|zA rfl<|vr 4 ((0:Int)<=(i:Int)/\(i:Int)<(Aa A:Int))<|vo0 68 2 (i*2)<|ve (True/\Bk.fz (wiK C)=Ac/\Ab=Ab/\1=1/\i*2+1<=Aa (Ar<|wiK C))<|zB<|zA rfl<|ve (True/\0<3)<|zG<|zP (λ(j:Nat)=>fr 95 [(7,Ai 1 0 (Aa p) (Aa p*3) Ab),(10,Ai 2 0 (Aa A) (Aa A*2) Ab),(11,iD (i:Int)),(58,Ae (Am atN A)<|Aa A),(59,iD (Aa A:Int)),(60,iD (i:Int)),(71,Ae (Ad (λ(v:Nat)=>iD (v:Int)) V)<|Aa V),(72,iD (Aa V:Int)),(73,iD (j:Int))]) (λ(j:Nat)=>[ipK (iD (n:Nat)) (iD z1) (.row cs2 m2) (.row cs3 m3) A,vaK (zL p) z,wiK<|wiC C i<|.osl 4 0 j (j*3) Ab,at1 (.row (nsD V) V.length) (.row (R.map rowV) R.length) (V.length:Nat),vaK (zL<|zT p<|V.take j) Ac]) (λj=>V.length-j) (λ(j:Nat)=>j<=V.length) 0 ?_ ?_ ?_
  ·omega
  ·refine wkn (fr 95 [(7,Ai 1 0 (Aa p) (Aa p*3) Ab),(10,Ai 2 0 (Aa A) (Aa A*2) Ab),(11,iD (i:Int)),(58,Ae (Am atN A) (Aa A)),(59,iD (Aa A:Int)),(60,iD (i:Int)),(71,Ae (Ad (λ(v:Nat)=>iD (v:Int)) V) (Aa V)),(72,iD (Aa V:Int)),(73,iD 0)]) [ipK (iD (n:Int)) (iD z1) (Ae cs2 m2) (Ae cs3 m3) A,vaK (zL p) z,AA (A6 C (i*2) (iD (i:Int))) (68:TypeId) 2 Ab Ac Kd.sh,AA [Ae (Ad (λ(v:Nat)=>iD (v:Int)) V) (Aa V),iD (Aa V:Int),Ae (Ad rowV R) (Aa R)] 45 0 Ac Ac AB] ?_;refine(Weak.nilC (j:=2) (i:=i*2+1) (ej:=wiK (C.set (i*2) (iD (i:Nat)))) (vaK [] Ac) rfl rfl rfl (by rw[List.getElem?_set_ne (by omega)];exact hnil)).trans ?_;refine vk 5
  rintro j j1;rcases Ay j V.length with j2|j2
  ·have hx:=zAq V j j2;have hn1:nsD V≠[]:=zAa;have hvl:=hla _ (zAc V 0 j j2);have hpk:zT p (V.take (j+1))=zT p (V.take j)++[p.getD (V.getD j 0) As]:=by
    rw[zAs V j j2];unfold zT;rw[AY];rfl
   have hcl2:zL (zT p (V.take (j+1)))=zL (zT p (V.take j))++vaC (p.getD (V.getD j 0) As):=by
    rw[hpk,zCq];simp[zL]
   have hl3:(zL (zT p (V.take j))).length=j*3:=by
    unfold zT;rw[zAe,Az,AH,AV (by omega)]
   generalize zT p (V.take j)=q at*;generalize V.getD j 0=v at*;have htv:=zBe p v (by omega);have hva:=zCj p;have hv3:=zB1 p v;have hhd:=wiC_hd hC1 (.osl 4 0 j (j*3) Ab);have hwl:=wiC_len C i (.osl 4 0 j (j*3) Ab);refine zB<|zA rfl<|v0s<|veT<|zB<|vT ((j:Int)<(Aa V:Int))<|zK<|zC<|zD<|zB<|zG<|zB<|zA rfl<|vr 1 (ix (j:Int) (Aa V:Int) (Ad (λ(v:Nat)=>iD (v:Int)) V≠[]))<|vp 75 (j) (Ad (λ(v:Nat)=>iD (v:Int)) V)<|vr 1 (0<Aa (Ah j<|Ad (λ(v:Nat)=>iD (v:Int)) V))<|vsh 76 hx<|veT<|vd [0,1,2,3,4,5,7,8,9,6,10,11,12,13,14,15]<|vr 5 ((0:Int)<=(i:Int)/\(i:Int)<(Aa A:Int))<|vo0 81 2 (i*2)<|vr 4 (True/\(0:Int)<=(v:Int)/\(v:Int)<(Aa p:Int))<|vo0 86 1 (v*3)<|vr 1 (0<Aa (Ah (i*2+1)<|Ar<|wiK<|wiC C i<|Ai 4 0 j (j*3) Ab))<|vsh 83 hhd<|vr 1 (3<=Aa (Ah (v*3)<|Ar<|vaK (zL p) z))<|vs 87 (D.agg<|Ax 3<|Ah (v*3)<|Ar<|vaK (zL p) z) (D.agg<|vaC<|AZ p v As) (hd:=by simp(disch:=omega) only[htv])<|vr 3 (((3=3/\3<=3/\True)/\0<3/\3=3/\3<=16777216/\1<=9223372036854775807)/\(AQ (vaK (zL q) Ac)=Ab/\Aa (Ar<|vaK (zL q) Ac)=j*3/\j*3=j*3/\AL (vaK (zL q) Ac)=73/\AM (vaK (zL q) Ac)=3/\3=3/\0<3/\0<32/\73=73/\(j+1)*32<=140737488355328/\3=3/\AR (AC<|vaK (zL q) Ac)=Ac/\(Ac=Ac\/AS (AC<|vaK (zL q) Ac)=Ab))/\(0:Int)<=(i:Int)/\(i:Int)<(Aa A:Int))<|vo0 90 2 (i*2)<|vr 2 (True/\Bk.fz (AA (Ad (zA5 4)<|wiC C i<|Ai 4 0 j (j*3) Ab) 68 2 Ab Ac Kd.sh)=Ac/\Ab=Ab/\1=1/\i*2+1+1<=Aa (Ad (zA5 4)<|wiC C i<|Ai 4 0 j (j*3) Ab))<|vnil<|zE<|zC<|zD<|zA rfl<|vr 2 (i6 ((j:Int)+(1:Int)))<|vnil<|zC<|⟨j+1,by omega,by omega,?_⟩;refine wkn (fr 95 [(7,Ai 1 0 (Aa p) (Aa p*3) Ab),(10,Ai 2 0 (Aa A) (Aa A*2) Ab),(11,iD (i:Int)),(14,iD (v:Int)),(58,Ae (Am atN A) (Aa A)),(59,iD (Aa A:Int)),(60,iD (i:Int)),(71,Ae (Ad (λ(v:Nat)=>iD (v:Int)) V) (Aa V)),(72,iD (Aa V:Int)),(73,iD (↑(j+1):Int)),(77,Ai 2 0 (Aa A) (Aa A*2) Ab),(78,iD (i:Int)),(79,Ai 2 0 (Aa A) (Aa A*2) Ab),(80,iD (i:Int)),(81,Ak 2 (i*2)),(82,Ak 2 (i*2+1)),(84,Ai 1 0 (Aa p) (Aa p*3) Ab),(85,iD (v:Int)),(86,Ak 1 (v*3)),(87,D.agg (vaC (AZ p v As))),(88,Ai 5 0 1 3 Ab),(89,Ai 4 0 (j+1) ((j+1)*3) Ab),(90,Ak 2 (i*2)),(91,Ak 2 (i*2+1)),(92,iD (↑(j+1):Int))]) [AA [iD (n:Int),iD z1,Ae cs2 m2,Ae cs3 m3,Ae (Am atN A) (Aa A)] (32:TypeId) 0 Ac Ac AB,AA (zL p) (73:TypeId) 3 Ab z AB,AA (A6 (Ad (zA5 4) (wiC C i (Ai 4 0 j (j*3) Ab))) (i*2+1) (Ai 4 0 (j+1) ((j+1)*3) Ab)) 68 2 Ab Ac Kd.sh,AA [Ae (nsD V) (Aa V),iD (Aa V:Int),Ae (Ad rowV R) (Aa R)] (45:TypeId) 0 Ac Ac AB,AA (zL q++[iD (Va.kind (AZ p v As)),iD (Va.int (AZ p v As)),Aj (AE (bs (Va.str (AZ p v As))))]) (73:TypeId) 3 Ab Ac AB,AA [iD (Va.kind (AZ p v As)),iD (Va.int (AZ p v As)),Aj (AE (bs (Va.str (AZ p v As))))] 73 3 Ab Ac AB] ?_;rw[wiC_kill (hkill 4),zZc,hcl2];refine zQn (N:=5) (st:=[ipK (iD (n:Nat)) (iD z1) (.row cs2 m2) (.row cs3 m3) A,vaK (zL p) z,wiK (wiC C i (.osl 4 0 (j+1) ((j+1)*3) Ab)),at1 (.row (nsD V) V.length) (.row (R.map rowV) R.length) (V.length:Nat),vaK (zL q++vaC (p.getD v As)) Ac]) (bs:=[vaK (vaC (p.getD v As)) Ac]) (1<5/\2<5/\True) rfl (λb hb=>?_) (λ_ _=>rfl) ?_ (by kernel_rfl) ⟨by decide,by decide,trivial⟩
   ·simp only[Bw,List.not_mem_nil,or_false]at hb;rcases hb with rfl|rfl|rfl|rfl|rfl
    ·exact .inr λj _=>rfl
    ·exact .inl rfl
    ·refine .inr λk hk=>zVv (hrf k) i ?_;show(4==k)=Ac;rw[beq_eq_false_iff_ne];omega
    ·exact .inr λj _=>rfl
    exact .inl rfl
   refine vk 6
  obtain rfl:j=V.length:=by omega
  rw[A0];refine zB<|zA rfl<|v0s<|veT<|zB<|vF ((Aa V:Int)<(Aa V:Int))<|zS<|zM<|zM<|zQ rfl<|zE<|zC<|zD<|zA rfl<|vr 2 (i6 ((i:Int)+(1:Int)))<|vnil<|zC<|⟨i+1,by omega,by omega,?_⟩;rw[<-hset2];refine wkn (fr 95 [(7,Ai 1 0 (Aa p) (Aa p*3) Ab),(10,Ai 2 0 (Aa A) (Aa A*2) Ab),(11,iD (i:Int)),(58,Ae (Am atN A) (Aa A)),(59,iD (Aa A:Int)),(60,iD (↑(i+1):Int)),(71,Ae (Ad (λ(v:Nat)=>iD (v:Int)) V) (Aa V)),(72,iD (Aa V:Int)),(73,iD (Aa V:Int)),(74,bD (decide ((Aa V:Int)<(Aa V:Int)))),(93,iD (↑(i+1):Int))]) [ipK (iD (n:Int)) (iD z1) (Ae cs2 m2) (Ae cs3 m3) A,vaK (zL p) z,wiK (wiC C i (Ai 4 0 (Aa V) (Aa V*3) Ab)),at1 (Ae (nsD V) (Aa V)) (Ae (Ad rowV R) (Aa R)) (Aa V:Int),vaK (zL (zT p V)) Ac] ?_;have hpl2:(zT p V).length=V.length:=Az _;have hfz:frz Ab [ipK (iD (n:Nat)) (iD z1) (.row cs2 m2) (.row cs3 m3) A,vaK (zL p) z,wiK (wiC C i (.osl 4 0 V.length (V.length*3) Ab)),at1 (.row (nsD V) V.length) (.row (R.map rowV) R.length) (V.length:Nat),vaK (zL (zT p V)) Ac] zAz (.osl 4 0 V.length (V.length*3) Ab)=Av (rowV (zT p V),[4]):=by
   rw[show zAz=8+1 from rfl,frz_osl (e:=vaK (zL (zT p V)) Ac) rfl rfl rfl];show Av (Ae (((zL (zT p V)).drop 0).take (V.length*3)) V.length,[4])=Av (Ae _ (zT p V).length,_);rw[AD,AI (by rw[zAe,hpl2];exact AN _),hpl2]
  refine(Weak.fzCell (j:=2) (i:=i*2+1) (ej:=wiK (wiC C i (.osl 4 0 V.length (V.length*3) Ab))) (d:= .osl 4 0 V.length (V.length*3) Ab) (x:=rowV (zT p V)) (ks:=[4]) rfl rfl rfl (zZd hC1 _) hfz (by decide)).trans ?_;show Weak Twy _ [ipK (iD (n:Nat)) (iD z1) (.row cs2 m2) (.row cs3 m3) A,vaK (zL p) z,wiK ((wiC C i (.osl 4 0 V.length (V.length*3) Ab)).set (i*2+1) (rowV (zT p V))),at1 (.row (nsD V) V.length) (.row (R.map rowV) R.length) (V.length:Nat),vaK (zL (zT p V)) Ab] _ _;rw[zZc];refine zQn (N:=3) (st:=[ipK (iD (n:Nat)) (iD z1) (.row cs2 m2) (.row cs3 m3) A,vaK (zL p) z,wiK (wiC C i (rowV (zT p V)))]) (bs:=[at1 (.row (nsD V) V.length) (.row (R.map rowV) R.length) (V.length:Nat),vaK (zL (zT p V)) Ab]) (1<3/\2<3/\True) rfl (λb hb=>?_) (λ_ _=>rfl) ?_ (by kernel_rfl) ⟨by decide,by decide,trivial⟩
  ·simp only[Bw,List.not_mem_nil,or_false]at hb;rcases hb with rfl|rfl|rfl
   ·exact .inr λj _=>rfl
   ·exact .inl rfl
   exact .inr λk hk=>zVv (hrf k) i rfl
  refine vk 5
 obtain rfl:i=A.length:=by omega
 rw[AI (by rw[zGv];exact AN _)];have ha:=zKq (g:=witC) (z:=zWi) (witL A p);rw[zGv]at ha;have ht:((witL A p).flatMap witC).take (A.length*2)=(witL A p).flatMap witC:=zEm zKc (witL A p) A.length (zGv A p);rw[ha];refine zB<|zA rfl<|v0s<|veT<|zB<|vF ((Aa A:Int)<(Aa A:Int))<|zS<|zM<|zM<|zQ rfl<|zC<|vnn (fr 95 [(7,Ai 1 0 (Aa p) (Aa p*3) Ab),(10,Ai 2 0 (Aa A) (Aa A*2) Ab),(58,Ae (Am atN A)<|Aa A),(59,iD (Aa A:Int)),(60,iD (Aa A:Int)),(61,bD<|decide ((Aa A:Int)<(Aa A:Int)))]) [ipK (iD (n:Int)) (iD z1) (Ae cs2 m2) (Ae cs3 m3) A,vaK (zL p) z,wiK<|Am witC<|witL A p]<|zCc (Weak.unsh (k:=2) (e:=wiK ((witL A p).flatMap witC)) rfl rfl rfl<|wit_refs _) ?_;refine zB<|zA rfl<|v0s<|veT<|zJ<|zAu (True) (D.tup [Ae (Ax (Aa A*2)<|Ah 0<|Ar<|wiK<|Am witC<|witL A p)<|Aa A,iD 0]) (D.tup [Ae (Am witC<|witL A p)<|Aa A,Aj<|Al AO (0:Int)]) (.inr rfl) (by simp(disch:=omega) only[AD,ht]) rfl
end
abbrev itsD(l:List Int):List D:=l.map λz=>iD z
abbrev u32K(l:List D):Bk:=⟨l,97,1,Ab,Ac, .plain⟩
theorem zCd(l:List Nat)(i:Nat)(h:i<l.length):((l.map u32D).drop i).headD .unk=u32D (l.getD i 0):=zA0 u32D l 0 i h
theorem zE8{l:List Nat}{P:Nat->Prop}(h:∀s∈l,P s){i:Nat}(hi:i<l.length):P (l.getD i 0):=by
 rw[AP,Bg hi];exact h _ (List.getElem_mem hi)
set_option maxHeartbeats 2000000 in
theorem wmem_c(s:Nat)(hs:s<4294967296):Pure Ao 58 [u32D s] [] (.row (itsD (memL s)) (memL s).length):=by
 refine zH zAg mixed Tryz.func58 rfl<|zB<|zA rfl<|v0s<|veT<|zB<|zA rfl<|ve (True/\0<1/\1=1/\0<=16777216/\0<=9223372036854775807)<|zB<|zB<|zA rfl<|veT<|zG<|zAl (λ(i:Nat)(l:List Int)=>fr 20 [(0,u32D s),(2,nl),(3,Ai 0 0 (Aa l) (Aa l) Ab),(6,iD (i:Int))]) (λ(i:Nat)(l:List Int)=>[intB<|itsD l]) (λi l=>32-i) (λ(i:Nat)(l:List Int)=>i<=32/\l=((Aw i).filter λi=>s.testBit i).map λi:Nat=>(i:Int)) 0 [] ?_ ?_ ?_
 ·exact⟨by omega,rfl⟩
 ·refine vk 1
 rintro i l ⟨h1,h2⟩;have hl:l.length<=32:=by
  rw[h2,Az]
  have:=Bi (λi=>s.testBit i) (Aw i)
  rw[A7]at this;omega
 have hcl:(itsD l).length=l.length:=Az ..
 rcases Ay i 32 with h3|h3
 ·have hsu:((Aw (i+1)).filter λi=>s.testBit i).map (λi:Nat=>(i:Int))=if s.testBit i then l++[(i:Int)]else l:=by
   rw[A3,A8,AY,<-h2,A9];cases s.testBit i<;>simp
  have w1:=zEu s (v:=i) (by omega);have w2:=zSp hs i;have w3:=bit_w hs i;focus
   refine zB<|zA rfl<|v0s<|veT<|zB<|vT ((i:Int)<(32:Int))<|zK<|zC<|zD<|zB<|zG<|zB<|zA rfl<|veT<|zB<|zA rfl<|vr 3 ((0:Int)<=(i:Int))<|vs 11 (Aj<|Al Af<|AJ (s:Int) ((2:Int)^min (An (i:Int)) 32)) (dig (s>>>i)) (hd:=by simp(disch:=omega) only[Au,w1])<|vrT 1<|vs 12 (Aj<|Al Af<|Ap Af (↑(Aq (Ag 32 (↑(s>>>i):Int)&&&Ag 32 (1:Int))):Int)) (dig<|Aq (Ag 32 (↑(s>>>i):Int)&&&Ag 32 (1:Int))) (hd:=by simp(disch:=omega) only[zA1])<|vrT 1<|vs 13 (bD ((↑(Aq (Ag 32 (↑(s>>>i):Int)&&&Ag 32 (1:Int))):Int)==(1:Int))) (bD<|Nat.testBit s i) (hd:=by simp(disch:=omega) only[w2])<|veT<|zAr (t:=Nat.testBit s i) (by kernel_rfl) (λhc=>?_)<|λhc=>?_;refine zA rfl<|vr 5 (((1=1/\1<=1/\True)/\0<1/\1=1/\1<=16777216/\1<=9223372036854775807)/\AQ (intB<|itsD l)=Ab/\Aa (Ar<|intB<|itsD l)=Aa l*1/\Aa l=Aa l*1/\AL (intB<|itsD l)=3/\AM (intB<|itsD l)=1/\1=1/\0<1/\0<8/\3=3/\(Aa l+1)*8<=140737488355328/\1=1/\AR (AC<|intB<|itsD l)=Ac/\(Ac=Ac\/AS (AC<|intB<|itsD l)=Ab))<|vs 3 (Ai 0 0 (Aa l+1) ((Aa l+1)*1) Ab) (Ai 0 0 (Aa l+1) (Aa l+1) Ab) (hd:=by simp(disch:=omega) only[A1])<|vnil<|zE<|zC<|zD<|zA rfl<|vr 2 (i6 ((i:Int)+(1:Int)))<|vnil<|zC ?_;rotate_left;refine zK<|zE<|zC<|zD<|zA rfl<|vr 2 (i6 ((i:Int)+(1:Int)))<|vnil<|zC ?_;rotate_left
  ·have hc2:s.testBit i=true:=by assumption
   rw[hc2,if_pos rfl]at hsu;refine⟨i+1,l++[(i:Int)],⟨by omega,hsu.symm⟩,by omega,?_⟩;rw[show itsD (l++[(i:Int)])=itsD l++[iD (i:Nat)] by simp,AU,A4];refine vk 1
  have hc2:s.testBit i=false:=by assumption
  rw[hc2,if_neg (by decide)]at hsu;refine⟨i+1,l,⟨by omega,hsu.symm⟩,by omega,?_⟩;refine vk 1
 obtain rfl:i=32:=by omega
 have h2:l=memL s:=h2;subst h2;have ht:(itsD (memL s)).take (memL s).length=itsD (memL s):=AI (by rw[Az];exact AN _);refine zB<|zA rfl<|v0s<|veT<|zB<|vf<|zS<|zM<|zM<|zQ rfl<|zC<|zD<|zB<|zA rfl<|veT<|zJ<|zAu (True) (Ae (Ax (Aa<|memL s)<|Ah 0<|Ar<|intB<|itsD<|memL s)<|Aa<|memL s) (Ae (itsD<|memL s)<|Aa<|memL s) (.inr rfl) (by simp(disch:=omega) only[AD,ht]) rfl
set_option maxHeartbeats 2000000 in
theorem meet1_c(k g:Nat)(hk:k<4294967296)(hg:g<4294967296):Pure Ao 107 [u32D k, .ptr [u32D g]] [] (bD (dif k g==0)):=by
 have e:=zY4 hk hg (d:=dif k g) λi=>zBk _ _ i;have hle:=zSd k g;have w:=zAy (n:=dif k g) (by omega);have e2:(((dif k g:Nat):Int)==0)=(dif k g==0):=by
  rw[Bj,beq_iff_eq,beq_iff_eq];omega
 refine zH zAg mixed Tryz.func107 rfl<|zB<|zA rfl<|v0s<|veT<|zB<|zA rfl<|vr 3 (0<1/\True)<|vs 6 (Aj<|Al Af<|Ap Af (↑(Aq (Ag 32 (k:Int)&&&~~~Ag 32 (g:Int))):Int)) (dig<|dif k g) (hd:=by simp(disch:=omega) only[w,e])<|vrT 1<|vs 7 (bD ((↑(dif k g):Int)==(0:Int))) (bD (dif k g==0)) (hd:=by simp(disch:=omega) only[e2])<|veT<|zJ<|vret (True)<|.inr rfl
abbrev meF(g:Nat):D:= .clo (.func 107) [] [.ptr [u32D g]]
def Twc(N:Nat)(i:FuncId->Bool):Par:=⟨i,λ_ _=>AG,λk=>decide (k<N),λ
 | .call {callee:= .value (.tmp _),..}=>Ab
 |_=>Ac,λ_=>Ac⟩
theorem zJ2(N:Nat)(i:FuncId->Bool):zBl Ao (Twc N i):=by intro t n f h;cases h
set_option maxHeartbeats 2000000 in
theorem indexM_c(kept:List Nat)(g:Nat)(hb:kept.length<=100000000)(hk:∀s∈kept,s<4294967296)(hg:g<4294967296):∃z:Int,(decide (0<=z)=kept.any λk=>dif k g==0)/\Pure Ao 77 [.row (kept.map u32D) kept.length,meF g] [] (iD z):=by
 have hor:(∃p,p<kept.length/\(dif (kept.getD p 0) g==0)=Ab/\∀j,j<p->(dif (kept.getD j 0) g==0)=Ac)\/∀j,j<kept.length->(dif (kept.getD j 0) g==0)=false:=fst_or (λs=>dif s g==0) kept;rcases hor with⟨p,p1,p2,p3⟩|hno
 ·refine⟨p,?_,?_⟩
  ·rw[decide_eq_true (by omega)];refine(List.any_eq_true.2 ⟨kept.getD p 0,?_,p2⟩).symm;rw[AP,Bg p1];exact List.getElem_mem p1
  refine zH (zJ2 0 λ_=>Ac) mixed Bo rfl<|zB<|zA rfl<|v0s<|veT<|zB<|zB<|zA rfl<|veT<|zG<|zP (λ(i:Nat)=>fr 19 [(0,Ae (Ad u32D kept)<|Aa kept),(1,meF g),(7,iD (Aa kept:Int)),(8,iD (i:Int))]) (λ(i:Nat)=>[]) (λ(i:Nat)=>p-i) (λ(i:Nat)=>i<=p) 0 ?_ ?_ ?_
  ·omega
  ·refine vk 0
  rintro i h1;have hx:=zCd kept i (by omega);have hne:kept.map u32D≠[]:=zAa;have hm:=meet1_c (kept.getD i 0) g (zE8 hk (by omega)) hg;rcases Ay i p with h2|h2
  ·rw[p3 i h2]at hm;generalize kept.getD i 0=s at*;refine zB<|zA rfl<|v0s<|veT<|zB<|vT ((i:Int)<(Aa kept:Int))<|zK<|zC<|zD<|zB<|zG<|zB<|zA rfl<|veT<|zB<|zA rfl<|vr 4 (ix (i:Int) (Aa kept:Int) (Ad u32D kept≠[]))<|vp 14 (i) (Ad u32D kept)<|vr 1 (0<Aa (Ah i<|Ad u32D kept))<|vsh 15 hx<|vc (hm)<|veT<|vf<|zK<|zE<|zC<|zD<|zA rfl<|vr 2 (i6 ((i:Int)+(1:Int)))<|vnil<|zC<|⟨i+1,by omega,by omega,?_⟩;refine vk 0
  obtain rfl:i=p:=by omega
  rw[p2]at hm;generalize kept.getD i 0=s at*;refine zB<|zA rfl<|v0s<|veT<|zB<|vT ((i:Int)<(Aa kept:Int))<|zK<|zC<|zD<|zB<|zG<|zB<|zA rfl<|veT<|zB<|zA rfl<|vr 4 (ix (i:Int) (Aa kept:Int) (Ad u32D kept≠[]))<|vp 14 (i) (Ad u32D kept)<|vr 1 (0<Aa (Ah i<|Ad u32D kept))<|vsh 15 hx<|vc (hm)<|veT<|vt<|zB<|zA rfl<|veT<|zJ<|zN ?_;refine zF<|zF<|zN<|zF<|vret (True)<|.inr rfl
 refine⟨-1,?_,?_⟩
 ·rw[decide_eq_false (by omega)];refine(List.any_eq_false.2 λs hs=>?_).symm;obtain⟨j,hj,rfl⟩:=List.getElem_of_mem hs
  have:=hno j hj
  rw[AP,Bg hj]at this;exact λh=>by rw[show(dif kept[j] g==0)=Ac from this]at h;cases h
 refine zH (zJ2 0 λ_=>Ac) mixed Bo rfl<|zB<|zA rfl<|v0s<|veT<|zB<|zB<|zA rfl<|veT<|zG<|zP (λ(i:Nat)=>fr 19 [(0,Ae (Ad u32D kept)<|Aa kept),(1,meF g),(7,iD (Aa kept:Int)),(8,iD (i:Int))]) (λ(i:Nat)=>[]) (λ(i:Nat)=>kept.length-i) (λ(i:Nat)=>i<=kept.length) 0 ?_ ?_ ?_
 ·omega
 ·refine vk 0
 rintro i h1;rcases Ay i kept.length with h2|h2
 ·have hx:=zCd kept i h2;have hne:kept.map u32D≠[]:=zAa;have hm:=meet1_c (kept.getD i 0) g (zE8 hk h2) hg;rw[hno i h2]at hm;generalize kept.getD i 0=s at*;refine zB<|zA rfl<|v0s<|veT<|zB<|vT ((i:Int)<(Aa kept:Int))<|zK<|zC<|zD<|zB<|zG<|zB<|zA rfl<|veT<|zB<|zA rfl<|vr 4 (ix (i:Int) (Aa kept:Int) (Ad u32D kept≠[]))<|vp 14 (i) (Ad u32D kept)<|vr 1 (0<Aa (Ah i<|Ad u32D kept))<|vsh 15 hx<|vc (hm)<|veT<|vf<|zK<|zE<|zC<|zD<|zA rfl<|vr 2 (i6 ((i:Int)+(1:Int)))<|vnil<|zC<|⟨i+1,by omega,by omega,?_⟩;refine vk 0
 obtain rfl:i=kept.length:=by omega
 refine zB<|zA rfl<|v0s<|veT<|zB<|vF ((Aa kept:Int)<(Aa kept:Int))<|zS<|zM<|zM<|zQ rfl<|zC<|zD<|zB<|zA rfl<|veT<|zJ<|vret (True)<|.inr rfl
theorem zT5(kept:List Nat)(g:Nat)(hb:kept.length<=100000000)(hk:∀s∈kept,s<4294967296)(hg:g<4294967296):Pure Ao 106 [.row (kept.map u32D) kept.length,meF g] [] (bD (kept.any λk=>dif k g==0)):=by
 obtain⟨z,hz,hi⟩:=indexM_c kept g hb hk hg;rw[<-hz];refine zH zAg mixed Tryz.func106 rfl<|zB<|zA rfl<|v0s<|veT<|zB<|zA rfl<|vrT 2<|vc (hi)<|veT<|zJ<|vret (True)<|.inr rfl
theorem info_u32:(Ao.info? 97).map (λi=>(i.zero,i.size,i.bytes))=Av (Av (.int .u32 0),1,4):=by kernel_rfl
set_option maxHeartbeats 400000 in
theorem zY0:Pure Ao 105 [.row [] 0] [⟨[],97,1,Ab,Ac, .plain⟩] (.osl 0 0 0 0 Ab):=by
 refine zFl λI w vs hr=>?_;simp only[RelT,Rel]at hr;obtain⟨v,ys,rfl,⟨a,c,rfl,_,_,hc,_⟩,rfl⟩:=hr;cases a with
 |none=>
  obtain rfl:=hc rfl;have he:=λ(w:World)=>Lib.run_eql_slice_nil (P:=Ao) w 113 97 AG 0 0 0 0 Tryz.underlying113;go_enter Tryz.func105,Tryz.ntmps105;go_wp2;go_ret;exact .inl ⟨rfl,Ext.refl _⟩
 |some x=>
  obtain⟨i0,hi,hz0,hz1,hz2⟩:=info_parts info_u32;have he:=λ(w:World)=>Lib.run_eql_slice_nil (P:=Ao) w 113 97 (Av x) 0 c 0 0 Tryz.underlying113;have hS:RowAt (λ_=>True) w (Av x) []:= .inl rfl;go_enter Tryz.func105,Tryz.ntmps105;go_wp2_with (at_builtin;refine zBa rfl _ _ 113 rfl w.heap.size 97 i0 (.int .u32 0) 1 4 Tryz.underlying113 hi hz0 hz1 hz2 rfl (by decide) (.slice (Av ⟨w.heap.size,0,AG⟩) 0 0) 0 [] rfl (World.ownsRow_made _ #[] 0 (AN _) (Nat.zero_le _) rfl) x 0 c [] rfl (by simp) (by simp) (by simp) (by simp[maxLen]) (by decide) (by simp) ?_;intro v' w' hown hgrow hdr);go_ret;have hext:Ext w w':=⟨((Below.refl _ _).alloc (AN _) _).grown hgrow (by simp) (by simp[Value.ownBlock]),hdr⟩;obtain⟨_,⟨rfl,_⟩|⟨g,cap,cur,rfl,hb,hg,_,hc1,hs,_⟩⟩:=hown
  ·exact .inl ⟨rfl,hext⟩
  exact .inr ⟨g,cur.toList,cap,rfl,hb,hext,by rw[Array.toArray_toList];exact hg,by simpa using hs,hc1⟩
theorem zYz(cs:List D)(n:Nat)(hl:cs.length=n)(hn:n<=1000000000):Pure Ao 105 [.row cs n] [⟨cs,97,1,Ab,Ac, .plain⟩] (.osl 0 0 n n Ab):=by
 by_cases h0:n=0
 ·subst h0;obtain rfl:cs=[]:=List.eq_nil_of_length_eq_zero (by omega);exact zY0
 have h1:0<n:=by omega
 refine zCb zAg mixed Tryz.func105 rfl rfl<|zB<|zA rfl<|v0s<|veT<|zB<|zB<|zA rfl<|ve (0<n)<|vf<|zK<|zC<|zD<|zB<|zA rfl<|vr 4 ((True/\0<1/\1=1/\0<=16777216/\0<=9223372036854775807)/\Ab=Ab/\0=0/\0=0/\97=97/\1=1/\Aa cs=n*1/\0<1/\0<4/\97=97/\(0+n)*4<=140737488355328/\1=1/\Ac=Ac/\(Ac=Ac\/Ac=Ab))<|vs 2 (Ai 0 0 (0+n) ((0+n)*1) Ab) (Ai 0 0 n n Ab) (hd:=by simp(disch:=omega) only[Nat.zero_add,A1])<|veT<|zJ<|zAk (True) [Ai 0 0 n n Ab] (.inr rfl) ?_;exact⟨0,by simp[oneD],by kernel_rfl⟩
theorem zS5(l:List Nat)(s:Nat):(l++[s]).map u32D=l.map u32D++[u32D s]:=by simp
set_option maxHeartbeats 4000000 in
theorem meeting_c(sets:List Nat)(o:Nat)(hn:sets.length<=1000000)(hs:∀s∈sets,s<4294967296)(ho:o<4294967296):Pure Ao 78 [.row (sets.map u32D) sets.length,u32D o] [] (.row ((zDy sets o).map u32D) (zDy sets o).length):=by
 refine zH zAg mixed Tryz.func78 rfl<|zB<|zA rfl<|v0s<|veT<|zB<|zA rfl<|ve (True/\0<1/\1=1/\0<=16777216/\0<=9223372036854775807)<|zB<|zB<|zA rfl<|veT<|zG<|zAl (λ(i:Nat)(L:List Nat)=>fr 64 [(0,Ae (Ad u32D sets)<|Aa sets),(1,u32D o),(4,nl),(5,Ai 0 0 (Aa L) (Aa L) Ab),(14,Ae (Ad u32D sets)<|Aa sets),(15,iD (Aa sets:Int)),(16,iD (i:Int))]) (λ(i:Nat)(L:List Nat)=>[u32K<|L.map u32D]) (λi L=>sets.length-i) (λ(i:Nat)(L:List Nat)=>i<=sets.length/\L=(sets.take i).filter λs=>s&&&o !=0) 0 [] ?_ ?_ ?_
 ·exact⟨by omega,rfl⟩
 ·refine vk 1
 rintro i L ⟨h1,h2⟩;have hL:L.length<=sets.length:=by
  rw[h2];refine Nat.le_trans (Bi _ _) ?_;rw[AH];omega
 have hcl:(L.map u32D).length=L.length:=Az ..
 rcases Ay i sets.length with h3|h3
 ·have hx:=zCd sets i h3;have hne:sets.map u32D≠[]:=zAa;have hs2:sets.getD i 0<4294967296:=zE8 hs h3;have htk:=zCy sets i h3;have hsu:(sets.take (i+1)).filter (λs=>s&&&o !=0)=if sets.getD i 0&&&o !=0 then L++[sets.getD i 0]else L:=by
   rw[htk,A8,<-h2,A9];cases sets.getD i 0&&&o !=0<;>simp
  generalize sets.getD i 0=s at*;have hand:s&&&o<4294967296:=Bp Bl hs2;have w1:=zMp hs2 ho;have w2:=zAy hand;by_cases hq:s&&&o=0
  ·have w3:(((s&&&o:Nat):Int)!=0)=false:=by rw[hq];rfl
   rw[if_neg (by rw[hq];decide)]at hsu;refine zB<|zA rfl<|v0s<|veT<|zB<|vT ((i:Int)<(Aa sets:Int))<|zK<|zC<|zD<|zB<|zG<|zB<|zA rfl<|vr 1 (ix (i:Int) (Aa sets:Int) (Ad u32D sets≠[]))<|vp 18 (i) (Ad u32D sets)<|vr 1 (0<Aa (Ah i<|Ad u32D sets))<|vsh 19 hx<|veT<|zB<|zA rfl<|vrT 3<|vs 22 (Aj<|Al Af<|Ap Af (↑(Aq (Ag 32 (s:Int)&&&Ag 32 (o:Int))):Int)) (dig (s&&&o)) (hd:=by simp(disch:=omega) only[w2,w1])<|vrT 1<|vs 23 (bD ((↑(s&&&o):Int)!=(0:Int))) (bD Ac) (hd:=by simp(disch:=omega) only[w3])<|veT<|vf<|zK<|zE<|zC<|zD<|zA rfl<|vr 2 (i6 ((i:Int)+(1:Int)))<|vnil<|zC<|⟨i+1,L,⟨by omega,hsu.symm⟩,by omega,?_⟩;refine vk 1
  have w3:(((s&&&o:Nat):Int)!=0)=true:=by rw[bne_iff_ne];omega
  rw[if_pos (by rw[bne_iff_ne];exact hq)]at hsu;refine zB<|zA rfl<|v0s<|veT<|zB<|vT ((i:Int)<(Aa sets:Int))<|zK<|zC<|zD<|zB<|zG<|zB<|zA rfl<|vr 1 (ix (i:Int) (Aa sets:Int) (Ad u32D sets≠[]))<|vp 18 (i) (Ad u32D sets)<|vr 1 (0<Aa (Ah i<|Ad u32D sets))<|vsh 19 hx<|veT<|zB<|zA rfl<|vrT 3<|vs 22 (Aj<|Al Af<|Ap Af (↑(Aq (Ag 32 (s:Int)&&&Ag 32 (o:Int))):Int)) (dig (s&&&o)) (hd:=by simp(disch:=omega) only[w2,w1])<|vrT 1<|vs 23 (bD ((↑(s&&&o):Int)!=(0:Int))) (bD Ab) (hd:=by simp(disch:=omega) only[w3])<|veT<|vt<|zA rfl<|vr 5 (((1=1/\1<=1/\True)/\0<1/\1=1/\1<=16777216/\1<=9223372036854775807)/\AQ (u32K<|Ad u32D L)=Ab/\Aa (Ar<|u32K<|Ad u32D L)=Aa L*1/\Aa L=Aa L*1/\AL (u32K<|Ad u32D L)=97/\AM (u32K<|Ad u32D L)=1/\1=1/\0<1/\0<4/\97=97/\(Aa L+1)*4<=140737488355328/\1=1/\AR (AC<|u32K<|Ad u32D L)=Ac/\(Ac=Ac\/AS (AC<|u32K<|Ad u32D L)=Ab))<|vs 5 (Ai 0 0 (Aa L+1) ((Aa L+1)*1) Ab) (Ai 0 0 (Aa L+1) (Aa L+1) Ab) (hd:=by simp(disch:=omega) only[A1])<|vnil<|zE<|zC<|zD<|zA rfl<|vr 2 (i6 ((i:Int)+(1:Int)))<|vnil<|zC<|⟨i+1,L++[s],⟨by omega,hsu.symm⟩,by omega,?_⟩;rw[zS5,AU,A4];refine vk 1
 obtain rfl:i=sets.length:=by omega
 rw[A0]at h2;have h2:L=zYn sets o:=h2;have hK:∀s∈L,s<4294967296:=λs h=>hs s (Bx.1 (h2▸h)).1;have ht:(L.map u32D).take L.length=L.map u32D:=AI (by omega);have hco:=zYz (L.map u32D) L.length hcl (by omega);refine zB<|zA rfl<|v0s<|veT<|zB<|vF ((Aa sets:Int)<(Aa sets:Int))<|zS<|zM<|zM<|zQ rfl<|zC<|zD<|zB<|zA rfl<|vrT 1<|vnl [Ae (Ax (Aa L)<|Ah 0<|Ar<|u32K<|Ad u32D L)<|Aa L] [Ae (Ad u32D L)<|Aa L] (A5 (by simp(disch:=omega) only[AD,ht])) (by exact hco)<|veT<|zB<|zB<|zA rfl<|veT<|zG<|zAl (λ(i:Nat)(M:List Nat)=>fr 64 [(1,u32D o),(4,nl),(5,Ai 0 0 (Aa L) (Aa L) Ab),(8,Ai 1 0 (Aa M) (Aa M) Ab),(31,Ae (Ad u32D sets)<|Aa sets),(32,iD (Aa sets:Int)),(33,iD (i:Int))]) (λ(i:Nat)(M:List Nat)=>[⟨L.map u32D,97,1,Ab,Ab,.plain⟩,u32K<|M.map u32D]) (λi M=>sets.length-i) (λ(i:Nat)(M:List Nat)=>i<=sets.length/\M=L++((sets.take i).filter λs=>s&&&o==0).flatMap λs=>zA6 L o s (Aw 32)) 0 L ?_ ?_ ?_
 ·exact⟨by omega,by simp⟩
 ·refine vk 2
 rintro i M ⟨i1,i2⟩;have hgl:∀s,(zA6 L o s (Aw 32)).length<=32:=λs=>zL3 (Aw 32);have hM:M.length<=33000000:=by
  rw[i2,AU];have h5:=zP1 (λs=>zA6 L o s (Aw 32)) 32 hgl ((sets.take i).filter λs=>s&&&o==0);have h6:=Bi (λs=>s&&&o==0) (sets.take i);rw[AH]at h6;omega
 rcases Ay i sets.length with i3|i3;case inr=>
  obtain rfl:i=sets.length:=by omega
  rw[A0]at i2;have i2:M=zDy sets o:=by rw[i2,h2];rfl
  subst i2;have ht2:((zDy sets o).map u32D).take (zDy sets o).length=(zDy sets o).map u32D:=AI (by rw[Az];exact AN _);refine zB<|zA rfl<|v0s<|veT<|zB<|vF ((Aa sets:Int)<(Aa sets:Int))<|zS<|zM<|zM<|zQ rfl<|zC<|zD<|zB<|zA rfl<|veT<|zJ<|zAu (True) (Ae (Ax (Aa<|zDy sets o)<|Ah 0<|Ar<|u32K<|Ad u32D<|zDy sets o)<|Aa<|zDy sets o) (Ae (Ad u32D<|zDy sets o)<|Aa<|zDy sets o) (.inr rfl) (by simp(disch:=omega) only[AD,ht2]) rfl
 have hx:=zCd sets i i3;have hne:sets.map u32D≠[]:=zAa;have hs2:sets.getD i 0<4294967296:=zE8 hs i3;have htk:=zCy sets i i3;have hsu:L++((sets.take (i+1)).filter λs=>s&&&o==0).flatMap (λs=>zA6 L o s (Aw 32))=if sets.getD i 0&&&o==0 then M++zA6 L o (sets.getD i 0) (Aw 32)else M:=by
  rw[htk,A8,Bq,<-By,<-i2,A9];cases sets.getD i 0&&&o==0<;>simp
 generalize sets.getD i 0=s at*;have hand:s&&&o<4294967296:=Bp Bl hs2;have w1:=zMp hs2 ho;have w2:=zAy hand;by_cases hq:s&&&o=0;case neg=>
  have w3:(((s&&&o:Nat):Int)!=0)=true:=by rw[bne_iff_ne];omega
  rw[if_neg (by rw[beq_iff_eq];exact hq)]at hsu;refine zB<|zA rfl<|v0s<|veT<|zB<|vT ((i:Int)<(Aa sets:Int))<|zK<|zC<|zD<|zB<|zG<|zB<|zA rfl<|vr 1 (ix (i:Int) (Aa sets:Int) (Ad u32D sets≠[]))<|vp 35 (i) (Ad u32D sets)<|vr 1 (0<Aa (Ah i<|Ad u32D sets))<|vsh 36 hx<|veT<|zB<|zB<|zA rfl<|vrT 3<|vs 39 (Aj<|Al Af<|Ap Af (↑(Aq (Ag 32 (s:Int)&&&Ag 32 (o:Int))):Int)) (dig (s&&&o)) (hd:=by simp(disch:=omega) only[w1,w2])<|vrT 1<|vs 40 (bD ((↑(s&&&o):Int)!=(0:Int))) (bD Ab) (hd:=by simp(disch:=omega) only[w3])<|veT<|vt<|zS ?_;refine zM<|zQ rfl<|zC<|zD<|zA rfl<|vr 2 (i6 ((i:Int)+(1:Int)))<|vnil<|zC<|⟨i+1,M,⟨by omega,hsu.symm⟩,by omega,?_⟩;refine vk 2
 have w3:(((s&&&o:Nat):Int)!=0)=false:=by rw[hq];rfl
 rw[if_pos (by rw[hq];decide)]at hsu;refine zB<|zA rfl<|v0s<|veT<|zB<|vT ((i:Int)<(Aa sets:Int))<|zK<|zC<|zD<|zB<|zG<|zB<|zA rfl<|vr 1 (ix (i:Int) (Aa sets:Int) (Ad u32D sets≠[]))<|vp 35 (i) (Ad u32D sets)<|vr 1 (0<Aa (Ah i<|Ad u32D sets))<|vsh 36 hx<|veT<|zB<|zB<|zA rfl<|vrT 3<|vs 39 (Aj<|Al Af<|Ap Af (↑(Aq (Ag 32 (s:Int)&&&Ag 32 (o:Int))):Int)) (dig (s&&&o)) (hd:=by simp(disch:=omega) only[w1,w2])<|vrT 1<|vs 40 (bD ((↑(s&&&o):Int)!=(0:Int))) (bD Ac) (hd:=by simp(disch:=omega) only[w3])<|veT<|vf<|zK<|zC<|zD<|zB<|zA rfl<|veT<|zG<|zAl (λ(j:Nat)(R:List Nat)=>fr 64 [(1,u32D o),(4,nl),(5,Ai 0 0 (Aa L) (Aa L) Ab),(8,Ai 1 0 (Aa R) (Aa R) Ab),(10,dig s),(31,Ae (Ad u32D sets)<|Aa sets),(32,iD (Aa sets:Int)),(33,iD (i:Int)),(41,iD (j:Int))]) (λ(j:Nat)(R:List Nat)=>[⟨L.map u32D,97,1,Ab,Ab,.plain⟩,u32K<|R.map u32D]) (λj R=>32-j) (λ(j:Nat)(R:List Nat)=>j<=32/\R=M++zA6 L o s (Aw j)) 0 M ?_ ?_ ?_
 ·exact⟨by omega,by simp[zA6]⟩
 ·refine vk 2
 rintro j R ⟨j1,j2⟩;have hR:R.length<=34000000:=by
  rw[j2,AU]
  have:=zL3 (kept:=L) (o:=o) (s:=s) (Aw j)
  rw[A7]at this;omega
 have hcr:(R.map u32D).length=R.length:=Az ..
 rcases Ay j 32 with j3|j3
 ·have hsn:M++zA6 L o s (Aw (j+1))=R++(if s|||(o&&&2^j)=s then[]else if L.any (λk=>dif k (s|||(o&&&2^j))==0)then[]else[s|||(o&&&2^j)]):=by
   rw[A3,zNh,<-By,<-j2]
  have hp:=zCw j3;have v1:=zC6 j3;have v2:=zMp ho hp;have v3:o&&&2^j<4294967296:=Bp Bl ho;have v4:=zAy v3;have v5:=zJ9 hs2 v3;have v6:=zJ5 hs2 v3;have v7:=zAy v6;have hcn:=zT5 L (s|||(o&&&2^j)) (by omega) hK v6;generalize s|||(o&&&2^j)=g at*;by_cases hg:g=s
  ·have v8:(((g:Nat):Int)==((s:Nat):Int))=true:=by rw[beq_iff_eq];omega
   rw[if_pos hg,List.append_nil]at hsn;refine zB<|zA rfl<|v0s<|veT<|zB<|vT ((j:Int)<(32:Int))<|zK<|zC<|zD<|zB<|zG<|zB<|zA rfl<|veT<|zB<|zA rfl<|vr 4 ((0:Int)<=(j:Int))<|vs 47 (Aj<|Al Af<|Ap Af ((1:Int)*(2:Int)^min (An (j:Int)) 32)) (dig ((2:Nat)^j)) (hd:=by simp(disch:=omega) only[Au,v1])<|vrT 1<|vs 48 (Aj<|Al Af<|Ap Af (↑(Aq (Ag 32 (o:Int)&&&Ag 32 (↑((2:Nat)^j):Int))):Int)) (dig (o&&&(2:Nat)^j)) (hd:=by simp(disch:=omega) only[v4,v2])<|vrT 1<|vs 49 (Aj<|Al Af<|Ap Af (↑(Aq (Ag 32 (s:Int)|||Ag 32 (↑(o&&&(2:Nat)^j):Int))):Int)) (dig g) (hd:=by simp(disch:=omega) only[v7,v5])<|ve (Ac=Ac/\Ab=Ab/\1=1/\1<=1)<|zB<|zB<|zA rfl<|vr 3 (0<1/\True)<|vs 52 (bD ((g:Int)==(s:Int))) (bD Ab) (hd:=by simp(disch:=omega) only[v8])<|veT<|vt<|zS<|zM<|zQ rfl<|zC<|zD<|zA rfl<|vr 2 (i6 ((j:Int)+(1:Int)))<|vnil<|zC<|⟨j+1,R,⟨by omega,hsn.symm⟩,by omega,?_⟩;refine vk 2
  have v8:(((g:Nat):Int)==((s:Nat):Int))=false:=by rw[beq_eq_false_iff_ne];omega
  rw[if_neg hg]at hsn;cases hb:L.any λk=>dif k g==0
  ·rw[hb]at hcn hsn;rw[if_neg (by decide)]at hsn;refine zB<|zA rfl<|v0s<|veT<|zB<|vT ((j:Int)<(32:Int))<|zK<|zC<|zD<|zB<|zG<|zB<|zA rfl<|veT<|zB<|zA rfl<|vr 4 ((0:Int)<=(j:Int))<|vs 47 (Aj<|Al Af<|Ap Af ((1:Int)*(2:Int)^min (An (j:Int)) 32)) (dig ((2:Nat)^j)) (hd:=by simp(disch:=omega) only[Au,v1])<|vrT 1<|vs 48 (Aj<|Al Af<|Ap Af (↑(Aq (Ag 32 (o:Int)&&&Ag 32 (↑((2:Nat)^j):Int))):Int)) (dig (o&&&(2:Nat)^j)) (hd:=by simp(disch:=omega) only[v4,v2])<|vrT 1<|vs 49 (Aj<|Al Af<|Ap Af (↑(Aq (Ag 32 (s:Int)|||Ag 32 (↑(o&&&(2:Nat)^j):Int))):Int)) (dig g) (hd:=by simp(disch:=omega) only[v7,v5])<|ve (Ac=Ac/\Ab=Ab/\1=1/\1<=1)<|zB<|zB<|zA rfl<|vr 3 (0<1/\True)<|vs 52 (bD ((g:Int)==(s:Int))) (bD Ac) (hd:=by simp(disch:=omega) only[v8])<|veT<|vf<|zK<|zC<|zD<|zB<|zA rfl<|vrT 2<|vcl [Ae (Ax (Aa L)<|Ah 0<|Ad u32D L)<|Aa L,AK (Fn.func 107) [] [AF [dig g]]] [Ae (Ad u32D L)<|Aa L,AK (Fn.func 107) [] [AF [dig g]]] (A5 (by simp(disch:=omega) only[AD,ht])) (by exact hcn)<|veT<|vt<|zA rfl<|vr 5 (0<1/\((1=1/\1<=1/\True)/\0<1/\1=1/\1<=16777216/\1<=9223372036854775807)/\AQ (u32K<|Ad u32D R)=Ab/\Aa (Ar<|u32K<|Ad u32D R)=Aa R*1/\Aa R=Aa R*1/\AL (u32K<|Ad u32D R)=97/\AM (u32K<|Ad u32D R)=1/\1=1/\0<1/\0<4/\97=97/\(Aa R+1)*4<=140737488355328/\1=1/\AR (AC<|u32K<|Ad u32D R)=Ac/\(Ac=Ac\/AS (AC<|u32K<|Ad u32D R)=Ab))<|vs 8 (Ai 1 0 (Aa R+1) ((Aa R+1)*1) Ab) (Ai 1 0 (Aa R+1) (Aa R+1) Ab) (hd:=by simp(disch:=omega) only[A1])<|vnil<|zE<|zC<|zD<|zA rfl<|vr 2 (i6 ((j:Int)+(1:Int)))<|vnil<|zC<|⟨j+1,R++[g],⟨by omega,hsn.symm⟩,by omega,?_⟩;rw[zS5,AU,A4];refine vk 2
  rw[hb]at hcn hsn;rw[if_pos rfl,List.append_nil]at hsn;refine zB<|zA rfl<|v0s<|veT<|zB<|vT ((j:Int)<(32:Int))<|zK<|zC<|zD<|zB<|zG<|zB<|zA rfl<|veT<|zB<|zA rfl<|vr 4 ((0:Int)<=(j:Int))<|vs 47 (Aj<|Al Af<|Ap Af ((1:Int)*(2:Int)^min (An (j:Int)) 32)) (dig ((2:Nat)^j)) (hd:=by simp(disch:=omega) only[Au,v1])<|vrT 1<|vs 48 (Aj<|Al Af<|Ap Af (↑(Aq (Ag 32 (o:Int)&&&Ag 32 (↑((2:Nat)^j):Int))):Int)) (dig (o&&&(2:Nat)^j)) (hd:=by simp(disch:=omega) only[v4,v2])<|vrT 1<|vs 49 (Aj<|Al Af<|Ap Af (↑(Aq (Ag 32 (s:Int)|||Ag 32 (↑(o&&&(2:Nat)^j):Int))):Int)) (dig g) (hd:=by simp(disch:=omega) only[v7,v5])<|ve (Ac=Ac/\Ab=Ab/\1=1/\1<=1)<|zB<|zB<|zA rfl<|vr 3 (0<1/\True)<|vs 52 (bD ((g:Int)==(s:Int))) (bD Ac) (hd:=by simp(disch:=omega) only[v8])<|veT<|vf<|zK<|zC<|zD<|zB<|zA rfl<|vrT 2<|vcl [Ae (Ax (Aa L)<|Ah 0<|Ad u32D L)<|Aa L,AK (Fn.func 107) [] [AF [dig g]]] [Ae (Ad u32D L)<|Aa L,AK (Fn.func 107) [] [AF [dig g]]] (A5 (by simp(disch:=omega) only[AD,ht])) (by exact hcn)<|veT<|vf<|zK<|zE<|zC<|zD<|zA rfl<|vr 2 (i6 ((j:Int)+(1:Int)))<|vnil<|zC<|⟨j+1,R,⟨by omega,hsn.symm⟩,by omega,?_⟩;refine vk 2
 obtain rfl:j=32:=by omega
 rw[<-j2]at hsu;refine zB<|zA rfl<|v0s<|veT<|zB<|vf<|zS<|zM<|zM<|zQ rfl<|zE<|zC<|zD<|zA rfl<|vr 2 (i6 ((i:Int)+(1:Int)))<|vnil<|zC<|⟨i+1,R,⟨by omega,hsu.symm⟩,by omega,?_⟩;refine vk 2
def vsD(g:Nat->Nat)(n:Nat):List D:=(Aw n).map λv=>u32D (g v)
theorem zZg(g:Nat->Nat)(n:Nat):(vsD g n).length=n:=by simp[vsD]
theorem zZh{g:Nat->Nat}{n i:Nat}(h:i<n):((vsD g n).drop i).headD .unk=u32D (g i):=by
 unfold vsD;rw[zA0 (λv=>u32D (g v)) (Aw n) 0 i (by simpa using h),AP,A_ h];rfl
theorem vsD_ne{g:Nat->Nat}{n:Nat}(h:0<n):vsD g n≠[]:=zAa (h:=by simpa using h)
theorem zFi{g g':Nat->Nat}{n:Nat}(h:∀v,v<n->g v=g' v):vsD g n=vsD g' n:=List.map_congr_left λv hv=>by rw[h v (Br.1 hv)]
theorem vsD_set(g:Nat->Nat)(n i x:Nat):(vsD g n).set i (u32D x)=vsD (λv=>if v=i then x else g v) n:=by
 unfold vsD;apply List.ext_getElem?;intro u;rw[List.getElem?_set,Az,A7];by_cases hu:u<n
 ·rw[Ba,A_ hu,Ba,A_ hu];by_cases e:i=u
  ·subst e;rw[if_pos rfl,if_pos hu];simp
  have e':¬u=i:=λh=>e h.symm;rw[if_neg e];simp[e']
 have h1:(Aw n)[u]?=none:=Bn (by simpa using hu);rw[Ba,h1,Ba,h1];by_cases e:i=u
 ·rw[if_pos e,if_neg (by omega)];rfl
 rw[if_neg e];rfl
theorem vsD_0(n:Nat):repL n [.val (.int .u32 0)]=vsD (λ_=>0) n:=by
 rw[repL_oneY];unfold vsD;apply List.ext_getElem (by simp);intro i h1 h2;simp
theorem zZf{m:Nat}(hm:m<4294967296)(v:Nat):((((Ag 32 ((m>>>v:Nat):Int)&&&Ag 32 1).toNat:Nat):Int)==0)=!m.testBit v:=by
 have h1:=zSp hm v;have h2:=Nat.and_le_right (n:=(Ag 32 ((m>>>v:Nat):Int)).toNat) (m:=1);have h3:(Ag 32 ((m>>>v:Nat):Int)&&&Ag 32 1).toNat<=1:=by
  rw[BitVec.toNat_and];exact h2
 generalize (Ag 32 ((m>>>v:Nat):Int)&&&Ag 32 1).toNat=b at*;rw[<-h1];have:b=0\/b=1:=by omega
 rcases this with rfl|rfl<;>rfl
theorem wbit_w0{m:Nat}(hm:m<4294967296)(v:Nat):(Af.wrap (((Ag 32 ((m>>>v:Nat):Int)&&&Ag 32 1).toNat:Nat):Int)==0)=!m.testBit v:=by
 rw[zAy (BitVec.isLt _)];exact zZf hm v
set_option maxHeartbeats 8000000 in
theorem comps_c(A:List (List Nat×List Rw))(h:AtW A):Pure Ao 56 [.row (A.flatMap atN) A.length] [] (.row ((zDu A).map u32D) (zDu A).length):=by
 have hl5:=h.l;obtain⟨vmk,hvr⟩:∃vmk:Nat->Nat,vmk=λi=>msk (A.getD i As).1:=⟨_,rfl⟩;have hvi:∀i,vmk i=msk (A.getD i As).1:=λi=>by rw[hvr]
 have hv8:∀i b,(vmk i).testBit b=Ab->b<32:=λi b hb=>by
  rw[hvi,zBu,decide_eq_true_eq]at hb;rcases Ay i A.length with hi|hi
  ·have:=h.lt _ (zAc A As i hi) b hb
   omega
  rw[AP,Bn hi]at hb;cases hb
 have hvl:∀i,vmk i<4294967296:=λi=>zNb (n:=32) (hv8 i);obtain⟨ps,hps⟩:∃ps,ps=zDu A:=⟨_,rfl⟩;have hpe:(cmps vmk A.length A.length).2=ps:=by rw[hps,hvr];rfl
 rw[<-hps];have r0:repL A.length [.val (.int .u32 0)]=vsD (λ_=>0) A.length:=vsD_0 A.length;refine zH zAg mixed Tryz.func56 rfl<|zB<|zA rfl<|v0s<|veT<|zB<|zA rfl<|vr 3 ((0:Int)<=(Aa A:Int)/\(Aa A:Int)<=(Aa A:Int)/\(↑(4:Nat):Int)*(Aa A:Int)<=(281474976710656:Int)/\(Aa A:Int)<=(281474976710656:Int)/\0<1/\1=1)<|vb 0 (AA (repL (An (Aa A:Int)) [Aj<|Al Af (0:Int)]) 97 1 Ab Ac<|kdOf Ac) (AA (vsD (λ(x:Nat)=>0)<|Aa A) 97 1 Ab Ac<|kdOf Ac) (hd:=by simp(disch:=omega) only[Au,r0])<|vrT 1<|vs 3 (Ai 0 0 (An (Aa A:Int)) (An (Aa A:Int)*1) Ab) (Ai 0 0 (Aa A) (Aa A) Ab) (hd:=by simp(disch:=omega) only[Au,A1])<|veT<|zB<|zB<|zA rfl<|veT<|zG<|zP (λ(i:Nat)=>fr 99 [(0,Ae (Am atN A)<|Aa A),(2,nl),(3,Ai 0 0 (Aa A) (Aa A) Ab),(18,Ae (Am atN A)<|Aa A),(19,iD (Aa A:Int)),(20,iD (i:Int))]) (λ(i:Nat)=>[u32K<|vsD (λv=>if v<i then vmk v else 0) A.length]) (λi=>A.length-i) (λ(i:Nat)=>i<=A.length) 0 ?_ ?_ ?_
 ·omega
 ·rw[zFi (g':=λv=>if v<0 then vmk v else 0) λv _=>(if_neg (Nat.not_lt_zero v)).symm];refine vk 1
 rintro i i1;rcases Ay i A.length with i2|i2
 ·have hg:=zGq zAo A i i2;have hle:=zD2 zAo A i i2;have hne:=zD1 zAo (by decide) A;have hin:=zAc A As i i2;have hla:=h.lt _ hin;have hva:=hvi i;have hvn:=zB0 (A:=(A.getD i As).1) ⟨h.asc _ hin,λv hv=>by have:=hla v hv;omega⟩;generalize A.getD i As=a at*;obtain⟨V,R⟩:=a;simp only at hla hva hvn;refine zB<|zA rfl<|v0s<|veT<|zB<|vT ((i:Int)<(Aa A:Int))<|zK<|zC<|zD<|zB<|zG<|zB<|zA rfl<|vr 2 (ix (i:Int) (Aa A:Int) (Am atN A≠[]))<|vs 23 (AF<|Ah (An (i:Int)*3)<|Am atN A) (AF (Ae (Ad (λ(v:Nat)=>iD (v:Int)) V) (Aa V)::iD (Aa V:Int)::Ae (Ad rowV R) (Aa R)::Am atN (Ah (i+1) A))) (hd:=by simp(disch:=omega) only[Au,AW,AX,hg])<|ve (3<=Aa (Ae (Ad (λ(v:Nat)=>iD (v:Int)) V) (Aa V)::iD (Aa V:Int)::Ae (Ad rowV R) (Aa R)::Am atN (Ah (i+1) A))/\Ac=Ac/\Ab=Ab/\3=3/\3<=3)<|zB<|zA rfl<|ve (True/\0<3)<|zG<|zP (λ(k:Nat)=>fr 99 [(0,Ae (Am atN A)<|Aa A),(2,nl),(3,Ai 0 0 (Aa A) (Aa A) Ab),(4,iD (i:Int)),(18,Ae (Am atN A)<|Aa A),(19,iD (Aa A:Int)),(20,iD (i:Int)),(26,Ae (Ad (λ(v:Nat)=>iD (v:Int)) V)<|Aa V),(27,iD (Aa V:Int)),(28,iD (k:Int))]) (λ(k:Nat)=>[u32K<|vsD (λv=>if v<i then vmk v else if v=i then msk (V.take k)else 0) A.length,at1 (.row (nsD V) V.length) (.row (R.map rowV) R.length) (V.length:Nat)]) (λk=>V.length-k) (λ(k:Nat)=>k<=V.length) 0 ?_ ?_ ?_
  ·omega
  ·rw[zFi (g':=λv=>if v<i then vmk v else if v=i then msk (V.take 0)else 0) λv _=>by
    split
    ·rfl
    split<;>rfl]
   refine vk 2
  rintro k k1;rcases Ay k V.length with k2|k2
  ·have hx:=zAq V k k2;have hn1:nsD V≠[]:=zAa;have hv:=hla _ (zAc V 0 k k2);have hm:=zPm V k k2;have hhd:=zZh (g:=λv=>if v<i then vmk v else if v=i then msk (V.take k)else 0) i2;simp only[Nat.lt_irrefl,if_false,if_true]at hhd;have hlt:msk (V.take k)<4294967296:=zDb λv hv=>by have:=hla v (Bm hv);omega
   have hln:=zZg (λv=>if v<i then vmk v else if v=i then msk (V.take k)else 0) A.length;have hvne:=vsD_ne (g:=λv=>if v<i then vmk v else if v=i then msk (V.take k)else 0) (n:=A.length) (by omega);have hst:=vsD_set (λv=>if v<i then vmk v else if v=i then msk (V.take k)else 0) A.length i (msk (V.take (k+1)));have hcg:=zFi (g:=λv=>if v=i then msk (V.take (k+1))else if v<i then vmk v else if v=i then msk (V.take k)else 0) (g':=λv=>if v<i then vmk v else if v=i then msk (V.take (k+1))else 0) (n:=A.length) λv _=>by
    by_cases e:v=i
    ·subst e;simp
    simp[e]
   rw[hcg]at hst;generalize (λv=>if v<i then vmk v else if v=i then msk (V.take k)else 0)=g at*;generalize V.getD k 0=v at*;have hp:=zCw (v:=v) (by omega);have v1:=zC6 (v:=v) (by omega);have v2:=zJ9 hlt hp;have v3:=zAy (zJ5 hlt hp);rw[hm]at hst;refine zB<|zA rfl<|v0s<|veT<|zB<|vT ((k:Int)<(Aa V:Int))<|zK<|zC<|zD<|zB<|zG<|zB<|zA rfl<|vr 1 (ix (k:Int) (Aa V:Int) (Ad (λ(v:Nat)=>iD (v:Int)) V≠[]))<|vp 30 (k) (Ad (λ(v:Nat)=>iD (v:Int)) V)<|vr 1 (0<Aa (Ah k<|Ad (λ(v:Nat)=>iD (v:Int)) V))<|vsh 31 hx<|veT<|vd [0,1,2,4,5,3,6,7,8]<|vr 3 ((0:Int)<=(i:Int)/\(i:Int)<(Aa A:Int))<|vo 34 0 (i)<|vr 2 ((0:Int)<=(v:Int))<|vs 37 (Aj<|Al Af<|Ap Af ((1:Int)*(2:Int)^min (An (v:Int)) 32)) (dig ((2:Nat)^v)) (hd:=by simp(disch:=omega) only[Au,v1])<|vr 1 (0<Aa (Ah i<|Ar<|u32K<|vsD g<|Aa A))<|vsh 35 hhd<|vrT 1<|vs 38 (Aj<|Al Af<|Ap Af (↑(Aq (Ag 32 (↑(msk<|Ax k V):Int)|||Ag 32 (↑((2:Nat)^v):Int))):Int)) (dig (msk (Ax k V)|||(2:Nat)^v)) (hd:=by simp(disch:=omega) only[v2,v3])<|vr 1 ((0:Int)<=(i:Int)/\(i:Int)<(Aa A:Int))<|vo 39 0 (i)<|vr 1 (Bk.fz (u32K<|vsD g<|Aa A)=Ac/\Ab=Ab/\1=1/\i+1<=Aa (Ar<|u32K<|vsD g<|Aa A)/\¬0∈[])<|vnil<|zE<|zC<|zD<|zA rfl<|vr 2 (i6 ((k:Int)+(1:Int)))<|vnil<|zC<|⟨k+1,by omega,by omega,?_⟩;refine wkn (fr 99 [(0,Ae (Am atN A) (Aa A)),(2,nl),(3,Ai 0 0 (Aa A) (Aa A) Ab),(4,iD (i:Int)),(7,iD (v:Int)),(18,Ae (Am atN A) (Aa A)),(19,iD (Aa A:Int)),(20,iD (i:Int)),(26,Ae (Ad (λ(v:Nat)=>iD (v:Int)) V) (Aa V)),(27,iD (Aa V:Int)),(28,iD (↑(k+1):Int)),(32,Ai 0 0 (Aa A) (Aa A) Ab),(33,iD (i:Int)),(34,Ak 0 i),(35,u32D (msk (Ax k V))),(36,iD (v:Int)),(37,dig ((2:Nat)^v)),(38,dig (msk (Ax k V)|||(2:Nat)^v)),(39,Ak 0 i),(40,iD (↑(k+1):Int))]) [AA (A6 (vsD g (Aa A)) i (dig (msk (Ax k V)|||(2:Nat)^v))) (97:TypeId) 1 Ab Ac AB,at1 (Ae (nsD V) (Aa V)) (Ae (Ad rowV R) (Aa R)) (Aa V:Int)] ?_;rw[show(vsD g A.length).set i (u32D (msk (V.take k)|||2^v))=vsD (λv=>if v<i then vmk v else if v=i then msk (V.take (k+1))else 0) A.length from by rw[hm];exact hst];refine vk 2
  obtain rfl:k=V.length:=by omega
  rw[A0,<-hva];refine zB<|zA rfl<|v0s<|veT<|zB<|vF ((Aa V:Int)<(Aa V:Int))<|zS<|zM<|zM<|zQ rfl<|zE<|zC<|zD<|zA rfl<|vr 2 (i6 ((i:Int)+(1:Int)))<|vnil<|zC<|⟨i+1,by omega,by omega,?_⟩;rw[zFi (g:=λv=>if v<i then vmk v else if v=i then vmk i else 0) (g':=λv=>if v<i+1 then vmk v else 0) λv _=>by
   by_cases e:v<i
   ·simp[e,show v<i+1 by omega]
   by_cases e2:v=i
   ·subst e2;simp
   simp[e,e2,show¬v<i+1 by omega]]
  refine vk 1
 obtain rfl:i=A.length:=by omega
 rw[zFi (g:=λv=>if v<A.length then vmk v else 0) (g':=vmk) λv hv=>if_pos hv];have hln:=zZg vmk A.length;have hpw:2^A.length<=32:=Bb (n:=2) (by omega) (show A.length<=5 by omega);refine zB<|zA rfl<|v0s<|veT<|zB<|vF ((Aa A:Int)<(Aa A:Int))<|zS<|zM<|zM<|zQ rfl<|zC<|zD<|zB<|zA rfl<|veT<|zB<|zA rfl<|ve (True/\0<1/\1=1/\0<=16777216/\0<=9223372036854775807)<|zB<|zB<|zA rfl<|veT<|zG<|zBd (λ(i:Nat)(dn:Nat)(O:List Nat)=>fr 99 [(0,Ae (Am atN A)<|Aa A),(2,nl),(3,Ai 0 0 (Aa A) (Aa A) Ab),(8,u32D dn),(9,Ai 1 0 (Aa O) (Aa O) Ab),(44,iD (Aa A:Int)),(45,iD (i:Int))]) (λ(i:Nat)(dn:Nat)(O:List Nat)=>[u32K<|vsD vmk A.length,u32K<|O.map u32D]) (λi dn O=>A.length-i) (λ(i:Nat)(dn:Nat)(O:List Nat)=>i<=A.length/\cmps vmk A.length i=(dn,O)) 0 0 [] ?_ ?_ ?_
 ·exact⟨by omega,rfl⟩
 ·refine vk 2
 rintro i dn O ⟨i1,i2⟩;obtain⟨c1,c2,c3,c4,c5⟩:=zT9 (vr:=vmk) (n:=A.length) i i1;rw[i2]at c4 c5;have c4:O.length<=i:=c4;have c5:dn<2^A.length:=c5;have hcl:(O.map u32D).length=O.length:=Az ..
 rcases Ay i A.length with i3|i3;case inr=>
  obtain rfl:i=A.length:=by omega
  rw[i2]at hpe;have hpe:O=ps:=hpe;subst hpe;have ht:(O.map u32D).take O.length=O.map u32D:=AI (by omega);refine zB<|zA rfl<|v0s<|veT<|zB<|vF ((Aa A:Int)<(Aa A:Int))<|zS<|zM<|zM<|zQ rfl<|zC<|zD<|zB<|zA rfl<|veT<|zJ<|zAu (True) (Ae (Ax (Aa O)<|Ah 0<|Ar<|u32K<|Ad u32D O)<|Aa O) (Ae (Ad u32D O)<|Aa O) (.inr rfl) (by simp(disch:=omega) only[AD,ht]) rfl
 have hsu:=zSn vmk A.length i;rw[i2]at hsu;unfold cmp1 at hsu;simp only at hsu;have w1:=zEu dn (v:=i) (by omega);have w2:=zSp (m:=dn) (by omega) i;have w3:=bit_w (m:=dn) (by omega) i;cases hb:dn.testBit i;case true=>
  rw[hb,if_pos rfl]at hsu;rw[hb]at w2 w3;refine zB<|zA rfl<|v0s<|veT<|zB<|vT ((i:Int)<(Aa A:Int))<|zK<|zC<|zD<|zB<|zG<|zB<|zA rfl<|veT<|zB<|zB<|zA rfl<|vr 3 ((0:Int)<=(i:Int))<|vs 50 (Aj<|Al Af<|AJ (dn:Int) ((2:Int)^min (An (i:Int)) 32)) (dig (dn>>>i)) (hd:=by simp(disch:=omega) only[Au,w1])<|vrT 1<|vs 51 (Aj<|Al Af<|Ap Af (↑(Aq (Ag 32 (↑(dn>>>i):Int)&&&Ag 32 (1:Int))):Int)) (dig<|Aq (Ag 32 (↑(dn>>>i):Int)&&&Ag 32 (1:Int))) (hd:=by simp(disch:=omega) only[zA1])<|vrT 1<|vs 52 (bD ((↑(Aq (Ag 32 (↑(dn>>>i):Int)&&&Ag 32 (1:Int))):Int)==(1:Int))) (bD Ab) (hd:=by simp(disch:=omega) only[w2])<|veT<|vt<|zS<|zM<|zQ rfl<|zC<|zD<|zA rfl<|vr 2 (i6 ((i:Int)+(1:Int)))<|vnil<|zC<|⟨i+1,dn,O,⟨by omega,hsu⟩,by omega,?_⟩;refine vk 2
 rw[hb,if_neg (by decide)]at hsu;rw[hb]at w2 w3;obtain⟨⟨T,q1⟩,q2,q3⟩:=zXi (vr:=vmk) i3;have hQl:=zNb q2.1;generalize zMb vmk A.length i=Q at*;have hhd:=zZh (g:=vmk) i3;have hvne:=vsD_ne (g:=vmk) (n:=A.length) (by omega);have v1:=zC6 (v:=i) (by omega);have hvi':=hvl i;refine zB<|zA rfl<|v0s<|veT<|zB<|vT ((i:Int)<(Aa A:Int))<|zK<|zC<|zD<|zB<|zG<|zB<|zA rfl<|veT<|zB<|zB<|zA rfl<|vr 3 ((0:Int)<=(i:Int))<|vs 50 (Aj<|Al Af<|AJ (dn:Int) ((2:Int)^min (An (i:Int)) 32)) (dig (dn>>>i)) (hd:=by simp(disch:=omega) only[Au,w1])<|vrT 1<|vs 51 (Aj<|Al Af<|Ap Af (↑(Aq (Ag 32 (↑(dn>>>i):Int)&&&Ag 32 (1:Int))):Int)) (dig<|Aq (Ag 32 (↑(dn>>>i):Int)&&&Ag 32 (1:Int))) (hd:=by simp(disch:=omega) only[zA1])<|vrT 1<|vs 52 (bD ((↑(Aq (Ag 32 (↑(dn>>>i):Int)&&&Ag 32 (1:Int))):Int)==(1:Int))) (bD Ac) (hd:=by simp(disch:=omega) only[w2])<|veT<|vf<|zK<|zC<|zD<|zB<|vd [0,1,2,3,4,6,5,7]<|vr 2 ((0:Int)<=(i:Int))<|vs 54 (Aj<|Al Af<|Ap Af ((1:Int)*(2:Int)^min (An (i:Int)) 32)) (dig ((2:Nat)^i)) (hd:=by simp(disch:=omega) only[Au,v1])<|vr 3 ((0:Int)<=(i:Int)/\(i:Int)<(Aa A:Int))<|vo 57 0 (i)<|vr 2 (0<Aa (Ah i<|Ar<|u32K<|vsD vmk<|Aa A))<|vsh 58 hhd<|veT<|zB<|zB<|zA rfl<|veT<|zG<|zSr (λ(k:Nat)(P:Nat)(S:Nat)(g:Bool)=>fr 99 [(0,Ae (Am atN A)<|Aa A),(2,nl),(3,Ai 0 0 (Aa A) (Aa A) Ab),(8,u32D dn),(9,Ai 1 0 (Aa O) (Aa O) Ab),(11,u32D P),(12,u32D S),(13,bD g),(44,iD (Aa A:Int)),(45,iD (i:Int))]) (λ(k:Nat)(P:Nat)(S:Nat)(g:Bool)=>[u32K<|vsD vmk A.length,u32K<|O.map u32D]) (λk P S g=>k) (λ(k:Nat)(P:Nat)(S:Nat)(g:Bool)=>if g then CI vmk A.length P S/\crnd vmk A.length k P S=Av (Q,T)else P=Q) (2^A.length+1) (2^i) (vmk i) Ab ?_ ?_ ?_
 ·exact⟨CI.one i3,q1⟩
 ·refine vk 2
 rintro k P S g hJ;cases g;case false=>
  obtain rfl:P=Q:=hJ;have v2:=zJ9 (a:=dn) (b:=P) (by omega) (by omega);have v3:dn|||P<2^A.length:=Nat.or_lt_two_pow c5 hQl;have v4:=zAy (n:=dn|||P) (by omega);refine zB<|zB<|zA rfl<|v0s<|veT<|vf<|zS<|zM<|zM<|zQ rfl<|zC<|zD<|zB<|zA rfl<|vrT 3<|vs 92 (Aj<|Al Af<|Ap Af (↑(Aq (Ag 32 (dn:Int)|||Ag 32 (P:Int))):Int)) (dig (dn|||P)) (hd:=by simp(disch:=omega) only[v4,v2])<|veT<|zA rfl<|vr 5 (((1=1/\1<=1/\True)/\0<1/\1=1/\1<=16777216/\1<=9223372036854775807)/\AQ (u32K<|Ad u32D O)=Ab/\Aa (Ar<|u32K<|Ad u32D O)=Aa O*1/\Aa O=Aa O*1/\AL (u32K<|Ad u32D O)=97/\AM (u32K<|Ad u32D O)=1/\1=1/\0<1/\0<4/\97=97/\(Aa O+1)*4<=140737488355328/\1=1/\AR (AC<|u32K<|Ad u32D O)=Ac/\(Ac=Ac\/AS (AC<|u32K<|Ad u32D O)=Ab))<|vs 9 (Ai 1 0 (Aa O+1) ((Aa O+1)*1) Ab) (Ai 1 0 (Aa O+1) (Aa O+1) Ab) (hd:=by simp(disch:=omega) only[A1])<|vnil<|zE<|zC<|zD<|zA rfl<|vr 2 (i6 ((i:Int)+(1:Int)))<|vnil<|zC<|⟨i+1,dn|||P,O++[P],⟨by omega,hsu⟩,by omega,?_⟩;rw[zS5,AU,A4];refine vk 2
 obtain⟨hC,hr⟩:CI vmk A.length P S/\crnd vmk A.length k P S=Av (Q,T):=hJ;obtain⟨k,rfl⟩:∃k',k=k'+1:=by
  cases k with
  |zero=>cases hr
  |succ k=>exact⟨k,rfl⟩
 unfold crnd at hr;refine zB<|zB<|zA rfl<|v0s<|veT<|vt<|zK<|zC<|zD<|zG<|zB<|zA rfl<|veT<|zB<|zA rfl<|veT<|zG<|zSr (λ(j:Nat)(P1:Nat)(S1:Nat)(g:Bool)=>fr 99 [(0,Ae (Am atN A)<|Aa A),(2,nl),(3,Ai 0 0 (Aa A) (Aa A) Ab),(8,u32D dn),(9,Ai 1 0 (Aa O) (Aa O) Ab),(11,u32D P1),(12,u32D S1),(13,bD g),(44,iD (Aa A:Int)),(45,iD (i:Int)),(61,iD (Aa A:Int)),(62,iD (j:Int))]) (λ(j:Nat)(P1:Nat)(S1:Nat)(g:Bool)=>[u32K<|vsD vmk A.length,u32K<|O.map u32D]) (λj P1 S1 g=>A.length-j) (λ(j:Nat)(P1:Nat)(S1:Nat)(g:Bool)=>j<=A.length/\csts vmk j (P,S,Ac)=(P1,S1,g)) 0 P S Ac ?_ ?_ ?_
 ·exact⟨by omega,rfl⟩
 ·refine vk 2
 rintro j P1 S1 g ⟨j1,j2⟩;obtain⟨d1,_,_,_⟩:=zT3 hC j j1;rw[j2]at d1;have hP1:P1<2^A.length:=zNb d1.lt;have hS1:S1<4294967296:=zNb (n:=32) λb hb=>by
  obtain⟨u,_,hu⟩:=(d1.s b).1 hb;exact hv8 u b hu
 rcases Ay j A.length with j3|j3
 ·have hsc:=zSf vmk j (P,S,Ac);rw[j2]at hsc;unfold cst at hsc;simp only at hsc;have w1:=zEu P1 (v:=j) (by omega);have w2:=zZf (m:=P1) (by omega) j;have w3:=wbit_w0 (m:=P1) (by omega) j;have hhd:=zZh (g:=vmk) j3;have hvj:=hvl j;generalize vmk j=vj at*;cases hbj:P1.testBit j;case true=>
   rw[hbj]at w2 w3;rw[if_neg (λhh=>by rw[hbj]at hh;cases hh.1)]at hsc;refine zB<|zA rfl<|v0s<|veT<|zB<|vT ((j:Int)<(Aa A:Int))<|zK<|zC<|zD<|zB<|zG<|zB<|zA rfl<|veT<|zB<|zA rfl<|vr 3 ((0:Int)<=(j:Int))<|vs 67 (Aj<|Al Af<|AJ (P1:Int) ((2:Int)^min (An (j:Int)) 32)) (dig (P1>>>j)) (hd:=by simp(disch:=omega) only[Au,w1])<|vrT 1<|vs 68 (Aj<|Al Af<|Ap Af (↑(Aq (Ag 32 (↑(P1>>>j):Int)&&&Ag 32 (1:Int))):Int)) (dig<|Aq (Ag 32 (↑(P1>>>j):Int)&&&Ag 32 (1:Int))) (hd:=by simp(disch:=omega) only[zA1])<|vrT 1<|vs 69 (bD ((↑(Aq (Ag 32 (↑(P1>>>j):Int)&&&Ag 32 (1:Int))):Int)==(0:Int))) (bD Ac) (hd:=by simp(disch:=omega) only[Bool.not_true,w2])<|veT<|vf<|zK<|zE<|zC<|zD<|zA rfl<|vr 2 (i6 ((j:Int)+(1:Int)))<|vnil<|zC<|⟨j+1,P1,S1,g,⟨by omega,hsc⟩,by omega,?_⟩;refine vk 2
  rw[hbj]at w2 w3;have hand:vj&&&S1<4294967296:=Bp Bl hvj;have u1:=zMp hvj hS1;have u2:=zAy hand;by_cases hq:vj&&&S1=0
  ·have u3:(((vj&&&S1:Nat):Int)!=0)=false:=by rw[hq];rfl
   rw[if_neg (λhh=>hh.2 hq)]at hsc;refine zB<|zA rfl<|v0s<|veT<|zB<|vT ((j:Int)<(Aa A:Int))<|zK<|zC<|zD<|zB<|zG<|zB<|zA rfl<|veT<|zB<|zA rfl<|vr 3 ((0:Int)<=(j:Int))<|vs 67 (Aj<|Al Af<|AJ (P1:Int) ((2:Int)^min (An (j:Int)) 32)) (dig (P1>>>j)) (hd:=by simp(disch:=omega) only[Au,w1])<|vrT 1<|vs 68 (Aj<|Al Af<|Ap Af (↑(Aq (Ag 32 (↑(P1>>>j):Int)&&&Ag 32 (1:Int))):Int)) (dig<|Aq (Ag 32 (↑(P1>>>j):Int)&&&Ag 32 (1:Int))) (hd:=by simp(disch:=omega) only[zA1])<|vrT 1<|vs 69 (bD ((↑(Aq (Ag 32 (↑(P1>>>j):Int)&&&Ag 32 (1:Int))):Int)==(0:Int))) (bD Ab) (hd:=by simp(disch:=omega) only[Bool.not_false,w2])<|vr 4 ((0:Int)<=(j:Int)/\(j:Int)<(Aa A:Int))<|vo 73 0 (j)<|vr 1 (0<Aa (Ah j<|Ar<|u32K<|vsD vmk<|Aa A))<|vsh 74 hhd<|vrT 2<|vs 76 (Aj<|Al Af<|Ap Af (↑(Aq (Ag 32 (vj:Int)&&&Ag 32 (S1:Int))):Int)) (dig (vj&&&S1)) (hd:=by simp(disch:=omega) only[u2,u1])<|vrT 1<|vs 77 (bD ((↑(vj&&&S1):Int)!=(0:Int))) (bD Ac) (hd:=by simp(disch:=omega) only[u3])<|veT<|vf<|zK<|zE<|zC<|zD<|zA rfl<|vr 2 (i6 ((j:Int)+(1:Int)))<|vnil<|zC<|⟨j+1,P1,S1,g,⟨by omega,hsc⟩,by omega,?_⟩;refine vk 2
  have u3:(((vj&&&S1:Nat):Int)!=0)=true:=by rw[bne_iff_ne];omega
  rw[if_pos ⟨hbj,hq⟩]at hsc;have hp:=zCw (v:=j) (by omega);have t1:=zC6 (v:=j) (by omega);have t2:=zJ9 (a:=P1) (b:=2^j) (by omega) hp;have t3:=zAy (zJ5 (a:=P1) (b:=2^j) (by omega) hp);have t4:=zJ9 hS1 hvj;have t5:=zAy (zJ5 hS1 hvj);refine zB<|zA rfl<|v0s<|veT<|zB<|vT ((j:Int)<(Aa A:Int))<|zK<|zC<|zD<|zB<|zG<|zB<|zA rfl<|veT<|zB<|zA rfl<|vr 3 ((0:Int)<=(j:Int))<|vs 67 (Aj<|Al Af<|AJ (P1:Int) ((2:Int)^min (An (j:Int)) 32)) (dig (P1>>>j)) (hd:=by simp(disch:=omega) only[Au,w1])<|vrT 1<|vs 68 (Aj<|Al Af<|Ap Af (↑(Aq (Ag 32 (↑(P1>>>j):Int)&&&Ag 32 (1:Int))):Int)) (dig<|Aq (Ag 32 (↑(P1>>>j):Int)&&&Ag 32 (1:Int))) (hd:=by simp(disch:=omega) only[zA1])<|vrT 1<|vs 69 (bD ((↑(Aq (Ag 32 (↑(P1>>>j):Int)&&&Ag 32 (1:Int))):Int)==(0:Int))) (bD Ab) (hd:=by simp(disch:=omega) only[Bool.not_false,w2])<|vr 4 ((0:Int)<=(j:Int)/\(j:Int)<(Aa A:Int))<|vo 73 0 (j)<|vr 1 (0<Aa (Ah j<|Ar<|u32K<|vsD vmk<|Aa A))<|vsh 74 hhd<|vrT 2<|vs 76 (Aj<|Al Af<|Ap Af (↑(Aq (Ag 32 (vj:Int)&&&Ag 32 (S1:Int))):Int)) (dig (vj&&&S1)) (hd:=by simp(disch:=omega) only[u1,u2])<|vrT 1<|vs 77 (bD ((↑(vj&&&S1):Int)!=(0:Int))) (bD Ab) (hd:=by simp(disch:=omega) only[u3])<|veT<|vt<|zB<|zA rfl<|vr 3 ((0:Int)<=(j:Int))<|vs 81 (Aj<|Al Af<|Ap Af ((1:Int)*(2:Int)^min (An (j:Int)) 32)) (dig ((2:Nat)^j)) (hd:=by simp(disch:=omega) only[Au,t1])<|vrT 1<|vs 82 (Aj<|Al Af<|Ap Af (↑(Aq (Ag 32 (P1:Int)|||Ag 32 (↑((2:Nat)^j):Int))):Int)) (dig (P1|||(2:Nat)^j)) (hd:=by simp(disch:=omega) only[t2,t3])<|veT<|zB<|zA rfl<|vr 4 ((0:Int)<=(j:Int)/\(j:Int)<(Aa A:Int))<|vo 86 0 (j)<|vr 1 (0<Aa (Ah j<|Ar<|u32K<|vsD vmk<|Aa A))<|vsh 87 hhd<|vrT 1<|vs 88 (Aj<|Al Af<|Ap Af (↑(Aq (Ag 32 (S1:Int)|||Ag 32 (vj:Int))):Int)) (dig (S1|||vj)) (hd:=by simp(disch:=omega) only[t4,t5])<|veT<|zA rfl<|vrT 1<|vnil<|zE<|zC<|zD<|zA rfl<|vr 2 (i6 ((j:Int)+(1:Int)))<|vnil<|zC<|⟨j+1,P1|||2^j,S1|||vj,Ab,⟨by omega,hsc⟩,by omega,?_⟩;refine vk 2
 obtain rfl:j=A.length:=by omega
 rw[j2]at hr;refine zB<|zA rfl<|v0s<|veT<|zB<|vF ((Aa A:Int)<(Aa A:Int))<|zS<|zM<|zM<|zQ rfl<|zE<|zC<|⟨k,P1,S1,g,?_,by omega,?_⟩
 ·cases g
  ·have hr:Av (P1,S1)=Av (Q,T):=hr;injection hr with hr;injection hr
  exact⟨d1,hr⟩
 refine vk 2
abbrev u32V(s:Nat):Value:= .int .u32 (s:Int)
abbrev aaK(A:List (List Nat×List Rw)):Bk:=⟨[.row (A.flatMap atN) A.length],30,0,Ac,Ac, .plain⟩
abbrev knB:Bk:=⟨[.mref 1],110,0,Ac,Ac, .plain⟩
abbrev knM(al:Nat->Bool)(ks:List Nat):Bk:=⟨ks.map λs=>bD (al s),110,0,Ab,Ac, .map (ks.map u32V)⟩
abbrev kS(A:List (List Nat×List Rw))(al:Nat->Bool)(ks:List Nat):List Bk:=[aaK A,knM al ks,knB]
abbrev alF:D:= .clo (.func 55) [] [.own 2 0, .own 0 0]
theorem mfind_u(U:List Nat)(z:Nat):zEf (U.map u32V) (u32V z)=if z∈U then Av (U.idxOf z)else none:=by
 unfold zEf;rw[List.findIdx?_map];have e:(vEq (u32V z)∘u32V)=λx=>decide (z=x):=by
  funext x;show(((z:Nat):Int)==((x:Nat):Int))=decide (z=x);rw[Bj,beq_iff_eq,decide_eq_true_eq];omega
 rw[e];induction U with
 |nil=>rfl
 | cons s U ih=>
  rw[List.findIdx?_cons,ih];by_cases e:z=s
  ·subst e;simp
  have e2:(s==z)=false:=by simpa using λh:s=z=>e h.symm
  simp only[e,decide_false,Bool.false_eq_true,if_false,Bw,false_or,List.idxOf_cons,e2,cond_false];split<;>simp
theorem look_u(al:Nat->Bool)(U:List Nat)(z:Nat):zFo Ab (bD Ac) (U.map u32V) (U.map λs=>bD (al s)) (u32V z)= .tup [bD (decide (z∈U)&&al z),bD (decide (z∈U))]:=by
 unfold zFo;rw[mfind_u];by_cases h:z∈U
 ·rw[if_pos h]
  have:=List.idxOf_lt_length_iff.2 h
  simp[ctD,AP,this,h,List.getElem_idxOf this]
 rw[if_neg h];simp[ctD,h]
theorem mput_u(al:Nat->Bool)(U:List Nat)(z:Nat)(h:z∉U):mput (knM al U) (U.map u32V) (u32V z) (bD (al z))=knM al (U++[z]):=by
 unfold mput;rw[mfind_u,if_neg h];simp
theorem fits_u(U:List Nat):(U.map u32V).all (zX (.int .u32))=true:=by simp[zX]
theorem twcK{N:Nat}{i:FuncId->Bool}:∀k,N<=k->(Twc N i).keep k=false:=λk hk=>decide_eq_false (by omega)
section
variable {A : List (List Nat × List Rw)} (h : AtW A)
include h
set_option maxHeartbeats 2000000 in
theorem zHw(ks:List Nat)(s:Nat)(hs:s<4294967296):Acts Ao 55 [u32D s, .own 2 0, .own 0 0] (kS A (alB A) ks) [] (bD (alB A s)) (kS A (alB A) (kput ks s)):=by
 have hl5:=h.l;have hch:=zQb A (by omega) s hs;have hsa:=satC_c h s;have hlk:=look_u (alB A) ks s;unfold kput;by_cases hk:s∈ks
 ·rw[if_pos hk];rw[decide_eq_true hk,Bs]at hlk;generalize alB A s=b at*;refine zAm (zJ2 3 λ_=>Ac) mixed Tryz.func55 rfl (λk hk=>decide_eq_true hk) ?_;focus
   refine zB (zA rfl (v0s (veT (zB (zB (zA rfl (vwh 3 [] [] (0<1/\zX (Bc (Bd (Bf Af) "uint32" 1 4 Ac 4 4 (Av (Al Af (0:Int))) Ab #[])) (Al Af (s:Int))=Ab/\List.all (Ad u32V ks) (zX (Bc (Bd (Bf Af) "uint32" 1 4 Ac 4 4 (Av (Al Af (0:Int))) Ab #[])))=Ab) ⟨(by omega),?_⟩ ?_)))))));rotate_left;refine vsh 11 hlk (ve (0<2/\1<2) (zB (zA rfl (veT (vt (zB (zA rfl (veT (zJ (zF (zAk (True) [Aj (Bt b)] (.inr rfl) ?_)))))))))));rotate_left
  ·exact⟨rfl,fits_u _⟩
  exact⟨by kernel_rfl,by kernel_rfl⟩
 rw[if_neg hk];rw[decide_eq_false hk,BA]at hlk;have hmp:=mput_u (alB A) ks s hk;generalize alB A s=b at*;refine zAm (zJ2 3 λ_=>Ac) mixed Tryz.func55 rfl (λk hk=>decide_eq_true hk) ?_;focus
  refine zB (zA rfl (v0s (veT (zB (zB (zA rfl (vwh 3 [] [] (0<1/\zX (Bc (Bd (Bf Af) "uint32" 1 4 Ac 4 4 (Av (Al Af (0:Int))) Ab #[])) (Al Af (s:Int))=Ab/\List.all (Ad u32V ks) (zX (Bc (Bd (Bf Af) "uint32" 1 4 Ac 4 4 (Av (Al Af (0:Int))) Ab #[])))=Ab) ⟨(by omega),?_⟩ ?_)))))));rotate_left;refine vsh 11 hlk (ve (0<2/\1<2) (zB (zA rfl (veT (vf (zK (zC (zD (zB (zA rfl (vr 2 (0<1) (vc (hch) (vc (hsa) (veT (zB (zA rfl (vwh 4 [] [] (0<1/\Bk.fz (knM (alB A) ks)=Ac/\zX (Bc (Bd (Bf Af) "uint32" 1 4 Ac 4 4 (Av (Al Af (0:Int))) Ab #[])) (Al Af (s:Int))=Ab/\List.all (Ad u32V ks) (zX (Bc (Bd (Bf Af) "uint32" 1 4 Ac 4 4 (Av (Al Af (0:Int))) Ab #[])))=Ab/\¬1∈[]) ⟨(by omega),?_⟩ ?_)))))))))))))))));rotate_left;refine vb 1 (mput (knM (alB A) ks) (Ad u32V ks) (Al Af (s:Int)) (bD b)) (knM (alB A) (ks++[s])) (hd:=by simp(disch:=omega) only[hmp]) (veT (zB (zA rfl (veT (zJ (zAk (True) [Aj (Bt b)] (.inr rfl) ?_))))));rotate_left
 ·exact⟨rfl,fits_u _⟩
 ·exact⟨rfl,rfl,fits_u _,by decide⟩
 exact⟨by kernel_rfl,by kernel_rfl⟩
set_option maxHeartbeats 2000000 in
theorem indexA_a(ks sets:List Nat)(hb:sets.length<=100000000)(hs:∀s∈sets,s<4294967296):∃z:Int,((z=-1/\sets.find? (alB A)=AG)\/∃p:Nat,p<sets.length/\z=p/\sets.find? (alB A)=Av (sets.getD p 0))/\Acts Ao 77 [.row (sets.map u32D) sets.length,alF] (kS A (alB A) ks) [] (iD z) (kS A (alB A) (idxK (alB A) sets ks)):=by
 rcases fst_or (alB A) sets with⟨p,p1,p2,p3⟩|hno
 ·obtain⟨f1,f2⟩:=find_aa p1 p2 p3;refine⟨p, .inr ⟨p,p1,rfl,f1⟩,?_⟩;unfold idxK;rw[f2];simp only;clear f1 f2;refine zAm (zJ2 3 λf=>f==55) mixed Bo rfl (λk hk=>decide_eq_true hk)<|zB<|zA rfl<|v0s<|veT<|zB<|zB<|zA rfl<|veT<|zG<|zP (λ(i:Nat)=>fr 19 [(0,Ae (Ad u32D sets)<|Aa sets),(1,alF),(7,iD (Aa sets:Int)),(8,iD (i:Int))]) (λ(i:Nat)=>kS A (alB A) (zJ6 ks<|sets.take i)) (λ(i:Nat)=>p-i) (λ(i:Nat)=>i<=p) 0 ?_ ?_ ?_
  ·omega
  ·refine vk 3 ?_;exact twcK
  rintro i h1;have hx:=zCd sets i (by omega);have hne:sets.map u32D≠[]:=zAa;have hm:=zHw h (zJ6 ks (sets.take i)) (sets.getD i 0) (zE8 hs (by omega));rw[<-zNd,<-zCy sets i (by omega)]at hm;rcases Ay i p with h2|h2
  ·rw[p3 i h2]at hm;generalize sets.getD i 0=s at*;refine zB<|zA rfl<|v0s<|veT<|zB<|vT ((i:Int)<(Aa sets:Int))<|zK<|zC<|zD<|zB<|zG<|zB<|zA rfl<|veT<|zB<|zA rfl<|vr 4 (ix (i:Int) (Aa sets:Int) (Ad u32D sets≠[]))<|vp 14 (i) (Ad u32D sets)<|vr 1 (0<Aa (Ah i<|Ad u32D sets))<|vsh 15 hx<|vnt [aaK A,knM (alB A)<|zJ6 ks<|Ax i sets,knB]<|zA4 [] [] [dig s,Ak 2 0,Ak 0 0] [dig s,Ak 2 0,Ak 0 0] (AT _) (by exact hm) ?_;refine v0s<|veT<|vf<|zK<|zE<|zC<|zD<|zA rfl<|vr 2 (i6 ((i:Int)+(1:Int)))<|vnil<|zC<|⟨i+1,by omega,by omega,?_⟩;refine vk 3 ?_;exact twcK
  obtain rfl:i=p:=by omega
  rw[p2]at hm;generalize sets.getD i 0=s at*;refine zB<|zA rfl<|v0s<|veT<|zB<|vT ((i:Int)<(Aa sets:Int))<|zK<|zC<|zD<|zB<|zG<|zB<|zA rfl<|veT<|zB<|zA rfl<|vr 4 (ix (i:Int) (Aa sets:Int) (Ad u32D sets≠[]))<|vp 14 (i) (Ad u32D sets)<|vr 1 (0<Aa (Ah i<|Ad u32D sets))<|vsh 15 hx<|vnt [aaK A,knM (alB A)<|zJ6 ks<|Ax i sets,knB]<|zA4 [] [] [dig s,Ak 2 0,Ak 0 0] [dig s,Ak 2 0,Ak 0 0] (AT _) (by exact hm) ?_;refine v0s<|veT<|vt<|zB<|zA rfl<|veT<|zJ<|zN<|zF<|zF<|zN<|zF<|zAk (True) [Aj<|Al AO (i:Int)] (.inr rfl) ?_;exact⟨by kernel_rfl,by kernel_rfl⟩
 obtain⟨f1,f2⟩:=find_nn hno;refine⟨-1, .inl ⟨rfl,f1⟩,?_⟩;unfold idxK;rw[f2];simp only;clear f1 f2;refine zAm (zJ2 3 λf=>f==55) mixed Bo rfl (λk hk=>decide_eq_true hk)<|zB<|zA rfl<|v0s<|veT<|zB<|zB<|zA rfl<|veT<|zG<|zP (λ(i:Nat)=>fr 19 [(0,Ae (Ad u32D sets)<|Aa sets),(1,alF),(7,iD (Aa sets:Int)),(8,iD (i:Int))]) (λ(i:Nat)=>kS A (alB A) (zJ6 ks<|sets.take i)) (λ(i:Nat)=>sets.length-i) (λ(i:Nat)=>i<=sets.length) 0 ?_ ?_ ?_
 ·omega
 ·refine vk 3 ?_;exact twcK
 rintro i h1;rcases Ay i sets.length with h2|h2
 ·have hx:=zCd sets i h2;have hne:sets.map u32D≠[]:=zAa;have hm:=zHw h (zJ6 ks (sets.take i)) (sets.getD i 0) (zE8 hs h2);rw[<-zNd,<-zCy sets i h2]at hm;rw[hno i h2]at hm;generalize sets.getD i 0=s at*;refine zB<|zA rfl<|v0s<|veT<|zB<|vT ((i:Int)<(Aa sets:Int))<|zK<|zC<|zD<|zB<|zG<|zB<|zA rfl<|veT<|zB<|zA rfl<|vr 4 (ix (i:Int) (Aa sets:Int) (Ad u32D sets≠[]))<|vp 14 (i) (Ad u32D sets)<|vr 1 (0<Aa (Ah i<|Ad u32D sets))<|vsh 15 hx<|vnt [aaK A,knM (alB A)<|zJ6 ks<|Ax i sets,knB]<|zA4 [] [] [dig s,Ak 2 0,Ak 0 0] [dig s,Ak 2 0,Ak 0 0] (AT _) (by exact hm) ?_;refine v0s<|veT<|vf<|zK<|zE<|zC<|zD<|zA rfl<|vr 2 (i6 ((i:Int)+(1:Int)))<|vnil<|zC<|⟨i+1,by omega,by omega,?_⟩;refine vk 3 ?_;exact twcK
 obtain rfl:i=sets.length:=by omega
 rw[A0];refine zB<|zA rfl<|v0s<|veT<|zB<|vF ((Aa sets:Int)<(Aa sets:Int))<|zS<|zM<|zM<|zQ rfl<|zC<|zD<|zB<|zA rfl<|veT<|zJ<|zAk (True) [Aj<|Al AO (-1:Int)] (.inr rfl) ?_;exact⟨by kernel_rfl,by kernel_rfl⟩
set_option maxHeartbeats 8000000 in
theorem zT7(part:Nat)(hp:part<1024):∃r,zJ7 (alB A) part (part+2) [0]=Av r/\∀ks,∃ks',Acts Ao 57 [u32D part,alF] (kS A (alB A) ks) [] (.row (r.map u32D) r.length) (kS A (alB A) ks'):=by
 obtain⟨r,hr,_⟩:=zMc (part+2) [] [0] (zEn (alB A) part) (by show part+1-0<part+2;omega);refine⟨r,hr,λks0=>?_⟩;obtain⟨ks',hk⟩:=zXm (part+2) [0] ks0 hr;refine⟨ks',?_⟩;refine zAm (zJ2 3 λf=>f==55||f==77) mixed Tryz.func57 rfl (λk hk=>decide_eq_true hk)<|zB<|zA rfl<|v0s<|veT<|zB<|zA rfl<|ve ((1=1/\1<=1/\True)/\0<1/\1=1/\1<=16777216/\1<=9223372036854775807)<|zG<|zBd (λ(k:Nat)(sets:List Nat)(ks:List Nat)=>fr 48 [(0,u32D part),(1,alF),(5,Ae (Ad u32D sets)<|Aa sets)]) (λ(k:Nat)(sets:List Nat)(ks:List Nat)=>kS A (alB A) ks) (λk sets ks=>k) (λ(k:Nat)(sets:List Nat)(ks:List Nat)=>confK (alB A) part k sets ks=Av (r,ks')/\∃Cs,Cnf (alB A) part Cs sets/\sets.Nodup) (part+2) [0] ks0 ?_ ?_ ?_
 ·exact⟨hk,[],zEn (alB A) part,by simp⟩
 ·refine wkn (fr 48 [(0,u32D part),(1,alF),(4,nl),(5,Ai 3 0 1 1 Ab)]) [aaK A,knM (alB A) ks0,knB,AA [Aj (Al Af (0:Int))] 97 1 Ab Ac AB] ?_;refine(Weak.frzSlot (s:=5) (d:= .osl 3 0 1 1 Ab) (x:= .row [u32D 0] 1) (ks:=[3]) (by kernel_rfl) rfl).trans ?_;refine vk 3 ?_;exact twcK
 rintro k sets ks ⟨hJ,Cs,hC,hnd⟩;obtain⟨k,rfl⟩:∃k',k=k'+1:=by
  cases k with
  |zero=>cases hJ
  |succ k=>exact⟨k,rfl⟩
 unfold confK at hJ;have hlen:=cnf_few hC hnd;have hlt:∀s∈sets,s<4294967296:=λs hs=>by have:=sub_le (hC.sub s hs);omega
 obtain⟨z,hz,hix⟩:=indexA_a h ks sets (by omega) hlt;generalize idxK (alB A) sets ks=ks1 at*;rcases hz with⟨rfl,hf⟩|⟨p,p1,rfl,hf⟩
 ·rw[hf]at hJ;injection hJ with hJ;injection hJ with e1 e2;subst e1;subst e2;refine zG<|zB<|zA rfl<|v0s<|vrT 2<|vnt [aaK A,knM (alB A) ks,knB]<|zA4 [] [] [Ae (Ad u32D sets)<|Aa sets,AK (Fn.func 55) [] [Ak 2 0,Ak 0 0]] [Ae (Ad u32D sets)<|Aa sets,AK (Fn.func 55) [] [Ak 2 0,Ak 0 0]] (AT _) (by exact hix) ?_;refine v0s<|veT<|zB<|zB<|zA rfl<|veT<|vt<|zB<|zA rfl<|veT<|zJ<|zF<|zN<|zF<|zN ?_;refine zAk (True) [Ae (Ad u32D sets)<|Aa sets] (.inr rfl) ?_;exact⟨by kernel_rfl,by kernel_rfl⟩
 rw[hf]at hJ;have hx:=zCd sets p p1;have hne:sets.map u32D≠[]:=zAa;have hmem:sets.getD p 0∈sets:=List.mem_of_find?_eq_some hf;have hsub:=hC.sub _ hmem;have hcs:=zKt hC hmem;generalize sets.getD p 0=s at*;simp only at hJ;have hsp:=sub_le hsub;refine zG<|zB<|zA rfl<|v0s<|vrT 2<|vnt [aaK A,knM (alB A) ks,knB]<|zA4 [] [] [Ae (Ad u32D sets)<|Aa sets,AK (Fn.func 55) [] [Ak 2 0,Ak 0 0]] [Ae (Ad u32D sets)<|Aa sets,AK (Fn.func 55) [] [Ak 2 0,Ak 0 0]] (AT _) (by exact hix) ?_;refine v0s<|veT<|zB<|zB<|zA rfl<|veT<|vF ((p:Int)<0)<|zK<|zC<|zD<|zB<|zA rfl<|vr 3 (ix (p:Int) (Aa sets:Int) (Ad u32D sets≠[]))<|vp 19 (p) (Ad u32D sets)<|vr 1 (0<Aa (Ah p<|Ad u32D sets))<|vsh 20 hx<|veT<|zB<|zB<|zA rfl<|veT<|zG<|zBd (λ(i:Nat)(w:Nat)(kk:List Nat)=>fr 48 [(0,u32D part),(1,alF),(5,Ae (Ad u32D sets)<|Aa sets),(7,u32D w),(21,iD (i:Int))]) (λ(i:Nat)(w:Nat)(kk:List Nat)=>kS A (alB A) kk) (λi w kk=>32-i) (λ(i:Nat)(w:Nat)(kk:List Nat)=>i<=32/\zL2 (alB A) part (Aw i) (s,ks1)=(w,kk)) 0 s ks1 ?_ ?_ ?_
 ·exact⟨by omega,rfl⟩
 ·refine vk 3 ?_;exact twcK
 rintro i w kk ⟨i1,i2⟩;have hw1:=zXc (al:=alB A) (part:=part) (Aw i) (s,ks1);rw[i2]at hw1;have hw1:w=zEl (alB A) part (Aw i) s:=hw1;have hwp:w<=part:=by rw[hw1];exact sub_le (zHr _ _ hsub)
 rcases Ay i 32 with i3|i3
 ·have hsn:=zTs (alB A) part (Aw i) (s,ks1) i;rw[<-A3,i2]at hsn;unfold gstep at hsn;simp only at hsn;have hpw:=zCw i3;have v1:=zC6 i3;have v2:=zMp (a:=part) (b:=2^i) (by omega) hpw;have v3:part&&&2^i<=part:=Bl;have v4:=zAy (n:=part&&&2^i) (by omega);have v5:=zY4 (a:=part&&&2^i) (b:=w) (d:=dif (part&&&2^i) w) (by omega) (by omega) λj=>zBk _ _ j;have v6:=zSd (part&&&2^i) w;have v7:=zAy (n:=dif (part&&&2^i) w) (by omega);generalize dif (part&&&2^i) w=d at*;by_cases hd:d=0
  ·have v8:(((d:Nat):Int)!=0)=false:=by rw[hd];rfl
   rw[if_pos hd]at hsn;refine zB<|zA rfl<|v0s<|veT<|zB<|vT ((i:Int)<(32:Int))<|zK<|zC<|zD<|zB<|zG<|zB<|zA rfl<|veT<|zB<|zA rfl<|vr 3 ((0:Int)<=(i:Int))<|vs 26 (Aj<|Al Af<|Ap Af ((1:Int)*(2:Int)^min (An (i:Int)) 32)) (dig ((2:Nat)^i)) (hd:=by simp(disch:=omega) only[Au,v1])<|vrT 1<|vs 27 (Aj<|Al Af<|Ap Af (↑(Aq (Ag 32 (part:Int)&&&Ag 32 (↑((2:Nat)^i):Int))):Int)) (dig (part&&&(2:Nat)^i)) (hd:=by simp(disch:=omega) only[v4,v2])<|vrT 2<|vs 29 (Aj<|Al Af<|Ap Af (↑(Aq (Ag 32 (↑(part&&&(2:Nat)^i):Int)&&&~~~Ag 32 (w:Int))):Int)) (dig d) (hd:=by simp(disch:=omega) only[v5,v7])<|veT<|zB<|zA rfl<|vrT 2<|vs 31 (bD ((d:Int)!=(0:Int))) (bD Ac) (hd:=by simp(disch:=omega) only[v8])<|veT<|vf<|zK<|zE<|zC<|zD<|zA rfl<|vr 2 (i6 ((i:Int)+(1:Int)))<|vnil<|zC<|⟨i+1,w,kk,⟨by omega,hsn⟩,by omega,?_⟩;refine vk 3 ?_;exact twcK
  have v8:(((d:Nat):Int)!=0)=true:=by rw[bne_iff_ne];omega
  rw[if_neg hd]at hsn;have u1:=zJ9 (a:=w) (b:=d) (by omega) (by omega);have u2:=zJ5 (a:=w) (b:=d) (by omega) (by omega);have u3:=zAy u2;have hal:=zHw h kk (w|||d) u2;cases hb:alB A (w|||d)
  ·rw[hb]at hal hsn;rw[if_neg (by decide)]at hsn;refine zB<|zA rfl<|v0s<|veT<|zB<|vT ((i:Int)<(32:Int))<|zK<|zC<|zD<|zB<|zG<|zB<|zA rfl<|veT<|zB<|zA rfl<|vr 3 ((0:Int)<=(i:Int))<|vs 26 (Aj<|Al Af<|Ap Af ((1:Int)*(2:Int)^min (An (i:Int)) 32)) (dig ((2:Nat)^i)) (hd:=by simp(disch:=omega) only[Au,v1])<|vrT 1<|vs 27 (Aj<|Al Af<|Ap Af (↑(Aq (Ag 32 (part:Int)&&&Ag 32 (↑((2:Nat)^i):Int))):Int)) (dig (part&&&(2:Nat)^i)) (hd:=by simp(disch:=omega) only[v2,v4])<|vrT 2<|vs 29 (Aj<|Al Af<|Ap Af (↑(Aq (Ag 32 (↑(part&&&(2:Nat)^i):Int)&&&~~~Ag 32 (w:Int))):Int)) (dig d) (hd:=by simp(disch:=omega) only[v7,v5])<|veT<|zB<|zA rfl<|vrT 2<|vs 31 (bD ((d:Int)!=(0:Int))) (bD Ab) (hd:=by simp(disch:=omega) only[v8])<|vrT 5<|vs 36 (Aj<|Al Af<|Ap Af (↑(Aq (Ag 32 (w:Int)|||Ag 32 (d:Int))):Int)) (dig (w|||d)) (hd:=by simp(disch:=omega) only[u3,u1])<|vnt [aaK A,knM (alB A) kk,knB]<|zA4 [] [] [dig (w|||d),Ak 2 0,Ak 0 0] [dig (w|||d),Ak 2 0,Ak 0 0] (AT _) (by exact hal) ?_;refine v0s<|veT<|vf<|zK<|zE<|zC<|zD<|zA rfl<|vr 2 (i6 ((i:Int)+(1:Int)))<|vnil<|zC<|⟨i+1,w,kput kk (w|||d),⟨by omega,hsn⟩,by omega,?_⟩;refine vk 3 ?_;exact twcK
  rw[hb]at hal hsn;rw[if_pos rfl]at hsn;refine zB<|zA rfl<|v0s<|veT<|zB<|vT ((i:Int)<(32:Int))<|zK<|zC<|zD<|zB<|zG<|zB<|zA rfl<|veT<|zB<|zA rfl<|vr 3 ((0:Int)<=(i:Int))<|vs 26 (Aj<|Al Af<|Ap Af ((1:Int)*(2:Int)^min (An (i:Int)) 32)) (dig ((2:Nat)^i)) (hd:=by simp(disch:=omega) only[Au,v1])<|vrT 1<|vs 27 (Aj<|Al Af<|Ap Af (↑(Aq (Ag 32 (part:Int)&&&Ag 32 (↑((2:Nat)^i):Int))):Int)) (dig (part&&&(2:Nat)^i)) (hd:=by simp(disch:=omega) only[v4,v2])<|vrT 2<|vs 29 (Aj<|Al Af<|Ap Af (↑(Aq (Ag 32 (↑(part&&&(2:Nat)^i):Int)&&&~~~Ag 32 (w:Int))):Int)) (dig d) (hd:=by simp(disch:=omega) only[v5,v7])<|veT<|zB<|zA rfl<|vrT 2<|vs 31 (bD ((d:Int)!=(0:Int))) (bD Ab) (hd:=by simp(disch:=omega) only[v8])<|vrT 5<|vs 36 (Aj<|Al Af<|Ap Af (↑(Aq (Ag 32 (w:Int)|||Ag 32 (d:Int))):Int)) (dig (w|||d)) (hd:=by simp(disch:=omega) only[u1,u3])<|vnt [aaK A,knM (alB A) kk,knB]<|zA4 [] [] [dig (w|||d),Ak 2 0,Ak 0 0] [dig (w|||d),Ak 2 0,Ak 0 0] (AT _) (by exact hal) ?_;refine v0s<|veT<|vt<|zA rfl<|vrT 3<|vs 41 (Aj<|Al Af<|Ap Af (↑(Aq (Ag 32 (w:Int)|||Ag 32 (d:Int))):Int)) (dig (w|||d)) (hd:=by simp(disch:=omega) only[u1,u3])<|vrT 1<|vnil<|zE<|zC<|zD<|zA rfl<|vr 2 (i6 ((i:Int)+(1:Int)))<|vnil<|zC<|⟨i+1,w|||d,kput kk (w|||d),⟨by omega,hsn⟩,by omega,?_⟩;refine vk 3 ?_;exact twcK
 obtain rfl:i=32:=by omega
 rw[i2,<-hw1]at hJ;rw[<-hw1]at hcs;simp only at hJ;have v5:=zY4 (a:=part) (b:=w) (d:=dif part w) (by omega) (by omega) λj=>zBk _ _ j;have v6:=zSd part w;have v7:=zAy (n:=dif part w) (by omega);have hmt:=meeting_c sets (dif part w) (by omega) hlt (by omega);have hnd2:=meet_nd (dif part w) hnd;generalize zDy sets (dif part w)=sets2 at*;refine zB<|zA rfl<|v0s<|veT<|zB<|vf<|zS<|zM<|zM<|zQ rfl<|zC<|zD<|zA rfl<|vrT 4<|vs 46 (Aj<|Al Af<|Ap Af (↑(Aq (Ag 32 (part:Int)&&&~~~Ag 32 (w:Int))):Int)) (dig<|dif part w) (hd:=by simp(disch:=omega) only[v5,v7])<|vc (hmt)<|vrT 1<|vnil<|zE<|zC<|⟨k,sets2,kk,⟨hJ,_,hcs,hnd2⟩,by omega,?_⟩;refine vk 3 ?_;exact twcK
end
def bestD:Option (List Int)->D
 |none=>nl0
 |some l=> .row (itsD l) l.length
abbrev resD(o:Option (List Int)):D:= .row (itsD (o.getD [])) (o.getD []).length
set_option maxHeartbeats 8000000 in
theorem firstC_c{A:List (List Nat×List Rw)}(h:AtW A):Pure Ao 35 [.row (A.flatMap atN) A.length] [] (resD (zJk A)):=by
 have hl5:=h.l;obtain⟨hp1,hp2,hp3⟩:=zRh A;have hp32:∀P∈zDu A,P<32:=λP hP=>by
  have h3:=sub_le (hp1 P hP).2;have h4:2^A.length<=2^5:=Bb (by omega) hl5
  have:=Nat.two_pow_pos A.length
  omega
 have hco:=comps_c A h;obtain⟨o,ho⟩:∃o,o=zJk A:=⟨_,rfl⟩;have hob:(((zDu A).flatMap (cflA A)).map memL).foldl bstS AG=o:=ho.symm;rw[<-ho];clear ho hp1 hp2;generalize zDu A=ps at*;refine zH (zJ2 0 λf=>f==55||f==57) mixed Tryz.func35 rfl<|zB<|zA rfl<|v0s<|veT<|zB<|zA rfl<|ve (True/\Ac=Ac/\Ab=Ab/\1=1/\1<=1)<|zB<|zA rfl<|veT<|zB<|zA rfl<|veT<|zB<|zB<|zA rfl<|vr 1 (0<1)<|vc (hco)<|veT<|zG<|zBd (λ(i:Nat)(o:Option (List Int))(ks:List Nat)=>fr 45 [(2,nl),(4,AK (Fn.func 55) [] [Ak 2 0,Ak 0 0]),(5,bestD o),(14,Ae (Ad u32D ps)<|Aa ps),(15,iD (Aa ps:Int)),(16,iD (i:Int))]) (λ(i:Nat)(o:Option (List Int))(ks:List Nat)=>kS A (alB A) ks) (λi o ks=>ps.length-i) (λ(i:Nat)(o:Option (List Int))(ks:List Nat)=>i<=ps.length/\o=(((ps.take i).flatMap (cflA A)).map memL).foldl bstS AG) 0 AG [] ?_ ?_ ?_
 ·exact⟨by omega,rfl⟩
 ·refine vk 3
 rintro i u ks ⟨i1,i2⟩;rcases Ay i ps.length with i3|i3;case inr=>
  rw[AI i3,hob]at i2;subst i2;rcases u with _|l0
  ·refine zB<|zA rfl<|v0s<|veT<|zB<|vF ((i:Int)<(Aa ps:Int))<|zS<|zM<|zM<|zQ rfl<|zC<|zD<|zB<|zA rfl<|veT<|zJ<|vret (True)<|.inr rfl
  refine zB<|zA rfl<|v0s<|veT<|zB<|vF ((i:Int)<(Aa ps:Int))<|zS<|zM<|zM<|zQ rfl<|zC<|zD<|zB<|zA rfl<|veT<|zJ<|vret (True)<|.inr rfl
 have hx:=zCd ps i i3;have hne:ps.map u32D≠[]:=zAa;have hP:=zE8 hp32 i3;have hsu:(((ps.take (i+1)).flatMap (cflA A)).map memL).foldl bstS AG=((cflA A (ps.getD i 0)).map memL).foldl bstS u:=by
  rw[zCy ps i i3,Bq,AY,List.foldl_append,<-i2,List.flatMap_singleton]
 have hune:∀b,u=Av b->0<b.length/\b.length<=32:=λb hb=>by
  rw[i2]at hb;have hall:∀x∈((ps.take i).flatMap (cflA A)).map memL,0<x.length:=λx hx=>by
   obtain⟨s,hs,rfl⟩:=A2.1 hx;obtain⟨P,hP,hs⟩:=List.mem_flatMap.1 hs;have hP:=hp32 P (Bm hP)
   have:=cfl_ok A (P:=P) (by omega) hs
   exact zTj this.1 this.2
  exact⟨zXt _ AG hall (λb hb=>by cases hb) b hb,zQd _ AG (λx hx=>by
   obtain⟨s,hs,rfl⟩:=A2.1 hx;exact zF4 s) (λb hb=>by cases hb) b hb⟩
 have hcf:=λs=>cfl_ok A (P:=ps.getD i 0) (by omega) (s:=s);have hcd:alB A (ps.getD i 0)=Ab->cflA A (ps.getD i 0)=[]:=λhh=>by
  unfold cflA;rw[if_pos hh]
 have hcd2:alB A (ps.getD i 0)=Ac->cflA A (ps.getD i 0)=(zJ7 (alB A) (ps.getD i 0) (ps.getD i 0+2) [0]).getD []:=λhh=>by
  unfold cflA;rw[if_neg (by rw[hh];decide)]
 generalize ps.getD i 0=P at*;have hal:=zHw h ks P (by omega);cases hb:alB A P;case true=>
  rw[hb]at hal;rw[hcd hb]at hsu;refine zB<|zA rfl<|v0s<|veT<|zB<|vT ((i:Int)<(Aa ps:Int))<|zK<|zC<|zD<|zB<|zG<|zB<|zA rfl<|vr 1 (ix (i:Int) (Aa ps:Int) (Ad u32D ps≠[]))<|vp 18 (i) (Ad u32D ps)<|vr 1 (0<Aa (Ah i<|Ad u32D ps))<|vsh 19 hx<|veT<|zB<|zB<|zA rfl<|vrT 2<|vnt [aaK A,knM (alB A) ks,knB]<|zA4 [] [] [dig P,Ak 2 0,Ak 0 0] [dig P,Ak 2 0,Ak 0 0] (AT _) (by exact hal) ?_;refine v0s<|veT<|vt<|zS<|zM<|zQ rfl<|zC<|zD<|zA rfl<|vr 2 (i6 ((i:Int)+(1:Int)))<|vnil<|zC<|⟨i+1,u,kput ks P,⟨by omega,hsu.symm⟩,by omega,?_⟩;rcases u with _|b0
  ·refine vk 3
  refine vk 3
 rw[hb]at hal;obtain⟨r,hr,hcn⟩:=zT7 h P (by omega);obtain⟨ks2,hcn⟩:=hcn (kput ks P);rw[hcd2 hb,hr]at hsu hcf;have hsu:(((ps.take (i+1)).flatMap (cflA A)).map memL).foldl bstS AG=(r.map memL).foldl bstS u:=hsu;have hcf:∀s,s∈r->s<2^32/\s≠0:=hcf;have hrl:=zXl (P+2) [] [0] r (zEn (alB A) P) (by simp) hr;clear hcd hcd2 hr;refine zB<|zA rfl<|v0s<|veT<|zB<|vT ((i:Int)<(Aa ps:Int))<|zK<|zC<|zD<|zB<|zG<|zB<|zA rfl<|vr 1 (ix (i:Int) (Aa ps:Int) (Ad u32D ps≠[]))<|vp 18 (i) (Ad u32D ps)<|vr 1 (0<Aa (Ah i<|Ad u32D ps))<|vsh 19 hx<|veT<|zB<|zB<|zA rfl<|vrT 2<|vnt [aaK A,knM (alB A) ks,knB]<|zA4 [] [] [dig P,Ak 2 0,Ak 0 0] [dig P,Ak 2 0,Ak 0 0] (AT _) (by exact hal) ?_;refine v0s<|veT<|vf<|zK<|zC<|zD<|zB<|zA rfl<|vrT 2<|vnt [AA [Ae (Am atN A)<|Aa A] 30 0 Ac Ac AB,AA (Ad (λ(s:Nat)=>bD (alB A s))<|kput ks P) 110 0 Ab Ac<|Kd.map<|Ad u32V<|kput ks P,AA [D.mref 1] 110 0 Ac Ac AB]<|zA4 [] [] [dig P,AK (Fn.func 55) [] [Ak 2 0,Ak 0 0]] [dig P,AK (Fn.func 55) [] [Ak 2 0,Ak 0 0]] (AT _) (by exact hcn) ?_;refine v0s<|veT<|zG<|zAl (λ(j:Nat)(v:Option (List Int))=>fr 45 [(2,nl),(4,AK (Fn.func 55) [] [Ak 2 0,Ak 0 0]),(5,bestD v),(14,Ae (Ad u32D ps)<|Aa ps),(15,iD (Aa ps:Int)),(16,iD (i:Int)),(25,Ae (Ad u32D r)<|Aa r),(26,iD (Aa r:Int)),(27,iD (j:Int))]) (λ(j:Nat)(v:Option (List Int))=>kS A (alB A) ks2) (λj v=>r.length-j) (λ(j:Nat)(v:Option (List Int))=>j<=r.length/\v=((r.take j).map memL).foldl bstS u) 0 u ?_ ?_ ?_
 ·exact⟨by omega,rfl⟩
 ·rcases u with _|b0
  ·refine vk 3
  refine vk 3
 rintro j v ⟨j1,j2⟩;rcases Ay j r.length with j3|j3
 ·have hx:=zCd r j j3;have hne:r.map u32D≠[]:=zAa;have hst:((r.take (j+1)).map memL).foldl bstS u=bstS v (memL (r.getD j 0)):=by
   rw[zCy r j j3,AY,List.foldl_append,<-j2];rfl
  have hvne:∀b,v=Av b->0<b.length/\b.length<=32:=λb hb=>by
   rw[j2]at hb;exact⟨zXt _ u (λx hx=>by
    obtain⟨s,hs,rfl⟩:=A2.1 hx
    have:=hcf s (Bm hs)
    exact zTj this.1 this.2) (λb hb=>(hune b hb).1) b hb,zQd _ u (λx hx=>by
    obtain⟨s,hs,rfl⟩:=A2.1 hx;exact zF4 s) (λb hb=>(hune b hb).2) b hb⟩
  have hs:=hcf (r.getD j 0) (zAc r 0 j j3);have hme:=wmem_c (r.getD j 0) (by omega);have hml:=zF4 (r.getD j 0);generalize memL (r.getD j 0)=l at*;generalize r.getD j 0=s at*;cases v with
  |none=>
   refine zB<|zA rfl<|v0s<|veT<|zB<|vT ((j:Int)<(Aa r:Int))<|zK<|zC<|zD<|zB<|zG<|zB<|zA rfl<|vr 1 (ix (j:Int) (Aa r:Int) (Ad u32D r≠[]))<|vp 29 (j) (Ad u32D r)<|vr 1 (0<Aa (Ah j<|Ad u32D r))<|vsh 30 hx<|veT<|zB<|zA rfl<|vrT 1<|vc (hme)<|veT<|zB<|zA rfl<|veT<|vt<|zA rfl<|vrT 2<|vnil<|zE<|zC<|zD<|zA rfl<|vr 2 (i6 ((j:Int)+(1:Int)))<|vnil<|zC<|⟨j+1,Av l,⟨by omega,hst.symm⟩,by omega,?_⟩;refine vk 3
  | some b=>
   obtain⟨b1,b2⟩:=hvne b rfl;have hcm:=scmp_cY l b l.length b.length rfl rfl (by omega) (by omega);have hst:((r.take (j+1)).map memL).foldl bstS u=if lcmp l b<0 then Av l else Av b:=hst
   generalize lcmp l b=z at*;by_cases hz:z<0
   ·rw[if_pos hz]at hst;refine zB<|zA rfl<|v0s<|veT<|zB<|vT ((j:Int)<(Aa r:Int))<|zK<|zC<|zD<|zB<|zG<|zB<|zA rfl<|vr 1 (ix (j:Int) (Aa r:Int) (Ad u32D r≠[]))<|vp 29 (j) (Ad u32D r)<|vr 1 (0<Aa (Ah j<|Ad u32D r))<|vsh 30 hx<|veT<|zB<|zA rfl<|vrT 1<|vc (hme)<|veT<|zB<|zA rfl<|vr 5 (0<Aa b)<|vc (hcm)<|veT<|vT (z<0)<|zA rfl<|vrT 2<|vnil<|zE<|zC<|zD<|zA rfl<|vr 2 (i6 ((j:Int)+(1:Int)))<|vnil<|zC<|⟨j+1,Av l,⟨by omega,hst.symm⟩,by omega,?_⟩;refine vk 3
   rw[if_neg hz]at hst;refine zB<|zA rfl<|v0s<|veT<|zB<|vT ((j:Int)<(Aa r:Int))<|zK<|zC<|zD<|zB<|zG<|zB<|zA rfl<|vr 1 (ix (j:Int) (Aa r:Int) (Ad u32D r≠[]))<|vp 29 (j) (Ad u32D r)<|vr 1 (0<Aa (Ah j<|Ad u32D r))<|vsh 30 hx<|veT<|zB<|zA rfl<|vrT 1<|vc (hme)<|veT<|zB<|zA rfl<|vr 5 (0<Aa b)<|vc (hcm)<|veT<|vF (z<0)<|zK<|zE<|zC<|zD<|zA rfl<|vr 2 (i6 ((j:Int)+(1:Int)))<|vnil<|zC<|⟨j+1,Av b,⟨by omega,hst.symm⟩,by omega,?_⟩;refine vk 3
 obtain rfl:j=r.length:=by omega
 rw[A0]at j2;refine zB<|zA rfl<|v0s<|veT<|zB<|vF ((Aa r:Int)<(Aa r:Int))<|zS<|zM<|zM<|zQ rfl<|zE<|zC<|zD<|zA rfl<|vr 2 (i6 ((i:Int)+(1:Int)))<|vnil<|zC<|⟨i+1,v,ks2,⟨by omega,by rw[j2,hsu]⟩,by omega,?_⟩;rcases v with _|b0
 ·refine vk 3
 refine vk 3
section
variable (n : Nat) (z1 : Int) (cs2 cs3 : List D) (m2 m3 : Nat) (A : List (List Nat × List Rw)) (r : Rw)
theorem wnYes_c(hck:Pure Ao 33 [.agg (inpA (iD (n:Nat)) (iD z1) (.row cs2 m2) (.row cs3 m3) A),rowV r] [] (iD 0))(hlv:Pure Ao 34 [.agg (inpA (iD (n:Nat)) (iD z1) (.row cs2 m2) (.row cs3 m3) A),rowV r] [] (iD z1)):Pure Ao 10 [.agg (inpA (iD (n:Nat)) (iD z1) (.row cs2 m2) (.row cs3 m3) A),rowV r] [] (.tup [.agg [iD 0, .row [] 0],iD 17]):=by
 refine zH zAg mixed Tryz.func10 rfl<|zB<|zA rfl<|v0s<|veT<|zB<|zB<|zA rfl<|vr 2 (5<=5)<|vc (hck)<|veT<|zB<|zA rfl<|veT<|vf<|zK<|zC<|zD<|zB<|zA rfl<|vr 2 (5<=5)<|vc (hlv)<|veT<|zB<|zB<|zA rfl<|ve (True/\0<4/\True)<|vEt (z1) (z1)<|zB<|zA rfl<|ve ((True/\Ab=Ab)/\Ac=Ac/\Ab=Ab/\2=2/\2<=2)<|zJ<|zF<|vret (2<=2)<|.inr rfl
set_option maxHeartbeats 4000000 in
theorem wn_c(h:AtOk n A)(hr:r.length<=n)(k:Nat)(hk:k<=r.length)(hz:(k:Int)-1≠z1)(hck:Pure Ao 33 [.agg (inpA (iD (n:Nat)) (iD z1) (.row cs2 m2) (.row cs3 m3) A),rowV r] [] (iD 0))(hlv:Pure Ao 34 [.agg (inpA (iD (n:Nat)) (iD z1) (.row cs2 m2) (.row cs3 m3) A),rowV r] [] (iD ((k:Int)-1))):Pure Ao 10 [.agg (inpA (iD (n:Nat)) (iD z1) (.row cs2 m2) (.row cs3 m3) A),rowV r] [] (.tup [.agg [iD ((k:Int)-1),resD (zJk (A.map (zAw (r.take k))))],iD 0]):=by
 have hl5:=h.l;have hn8:=h.n8;have hpl:(r.take k).length=k:=by rw[AH];omega
 have hre:=zEb A h.r (r.take k) (by omega);rw[show rowV (r.take k)= .row (zL (r.take k)) k by show Ae _ (r.take k).length=_;rw[hpl]]at hre;have hct:=zDp r k;have hcl:=zAe r;have hB:=(h.rest (p:=r.take k) (by omega)).w;have hBl:(A.map (zAw (r.take k))).length=A.length:=Az ..
 have hfc:=firstC_c hB;rw[hBl]at hfc;generalize A.map (zAw (r.take k))=B at*;have hk1:(k:Int)-1+1=(k:Nat):=by omega
 generalize zJk B=o at*;refine zH zAg mixed Tryz.func10 rfl<|zB<|zA rfl<|v0s<|veT<|zB<|zB<|zA rfl<|vr 2 (5<=5)<|vc (hck)<|veT<|zB<|zA rfl<|veT<|vf<|zK<|zC<|zD<|zB<|zA rfl<|vr 2 (5<=5)<|vc (hlv)<|veT<|zB<|zB<|zA rfl<|ve (True/\0<4/\True)<|vEf ((k:Int)-(1:Int)) (z1)<|zK<|zC<|zD<|zB<|vd [0,1,3,4,5,6,2,7,8,9,10,11]<|vr 5 (True/\i6 ((k:Int)-(1:Int)+(1:Int)))<|vs 28 (iD ((k:Int)-(1:Int)+(1:Int))) (iD (k:Int)) (hd:=by simp(disch:=omega) only[hk1])<|vr 1 (True/\(0:Int)<=(k:Int)/\True/\0<3/\0<=An (k:Int)/\An (k:Int)<=Aa r/\An (k:Int)=An (k:Int))<|vs 29 (Ae (Ax ((An (k:Int)-0)*3)<|Ah 0<|zL r) (An (k:Int)-0)) (Ae (zL<|Ax k r) k) (hd:=by simp(disch:=omega) only[Au,Bu,AD,hct])<|vr 1 (0<1)<|vc (hre)<|vc (hfc)<|ve (((1=1/\1<=2/\1=1/\2<=2/\True)/\Ab=Ab)/\Ac=Ac/\Ab=Ab/\2=2/\2<=2)<|zJ<|vret (2<=2)<|.inr rfl
end
theorem zJa(z:Int):Pure Ao 27 [iD z] [] (vaD (nuV z)):=by
 refine zH zAg mixed Tryz.func27 rfl<|vAu<|vA<|ve (((1=1/\1<=3/\1=1/\2<=3/\True)/\Ab=Ab)/\Ac=Ac/\Ab=Ab/\3=3/\3<=3)<|zJ<|vret (3<=3)<|.inr rfl
abbrev whD:D:= .agg (inpA (iD ((3:Nat):Int)) (iD 2) (.row ([Ac,Ac].map bD) 2) (.row ([(2:Int)].map λz=>iD z) 1) whA)
theorem ex_valid:Pure Ao 32 [.agg (csC whC)] [] (.tup [whD,bD Ab]):=by
 obtain⟨m,ok,h1,h2,h3,h4⟩:=valid_c whC whC_s;have hok:=h2.2 ⟨rfl,whC_e,whC_g.ck⟩;have hm:=h3 hok;rw[hok,hm,whC_g.inD,whC_A]at h4;exact h4
theorem ex_chk(r:Rw)(hr:r.length=2):Pure Ao 33 [whD,rowV r] [] (iD 0):=by
 have h:=zVw whC whC_s (AN _) r (by omega);rw[whC_g.inD,whC_A]at h;have e:wckE whC whC.V.length r=0:=by
  unfold wckE;rw[whC_g.ck,if_neg (by omega),hr];rfl
 rw[e]at h;exact h
theorem ex_why:Pure Ao 12 [whD,rowV [nuV 1,nuV 7]] [] (.tup [.row [iD 0,rowV [nuV 1,nuV 5],iD 1,rowV [nuV 7,nuV 5]] 2,iD 0]):=by
 obtain⟨y,h1,h2,h3⟩:=why_c 3 2 _ _ 2 1 whA [nuV 1,nuV 7] zFh (by decide) (zSv.1 ex_ans) (ex_chk _ rfl);obtain rfl:=ex_fir h1 h2;exact h3
theorem ex_not1:Pure Ao 10 [whD,rowV [nuV 2,nuV 7]] [] (.tup [.agg [iD 0, .row (itsD [0,1]) 2],iD 0]):=by
 have hl:=zPr 3 whA zFh 3 2 ([Ac,Ac].map bD) ([(2:Int)].map λz=>iD z) 2 1 [nuV 2,nuV 7] (by decide);rw[show[nuV 2,nuV 7].length=2 from rfl,ex_lvl1]at hl;have h:=wn_c 3 2 ([Ac,Ac].map bD) ([(2:Int)].map λz=>iD z) 2 1 whA [nuV 2,nuV 7] zFh (by decide) 1 (by decide) (by decide) (ex_chk _ rfl) hl;rw[ex_best1]at h;exact h
theorem ex_not2:Pure Ao 10 [whD,rowV [nuV 1,nuV 8]] [] (.tup [.agg [iD 1, .row (itsD [1]) 1],iD 0]):=by
 have hl:=zPr 3 whA zFh 3 2 ([Ac,Ac].map bD) ([(2:Int)].map λz=>iD z) 2 1 [nuV 1,nuV 8] (by decide);rw[show[nuV 1,nuV 8].length=2 from rfl,ex_lvl2]at hl;have h:=wn_c 3 2 ([Ac,Ac].map bD) ([(2:Int)].map λz=>iD z) 2 1 whA [nuV 1,nuV 8] zFh (by decide) 2 (by decide) (by decide) (ex_chk _ rfl) hl;rw[ex_best2]at h;exact h
theorem ex_eq1:Pure Ao 17 [.row [iD 0,iD 1] 2, .row [iD 0,iD 1] 2] [] (bD Ab):=zLc [0,1] [0,1] 2 2 rfl rfl (by decide) (by decide)
theorem ex_eq2:Pure Ao 17 [.row [iD 1] 1, .row [iD 1] 1] [] (bD Ab):=zLc [1] [1] 1 1 rfl rfl (by decide) (by decide)
set_option maxHeartbeats 4000000 in
theorem awake50_c:Pure Ao 9 [] [] (bD Ab):=by
 have h1:=ex_valid;have h2:=ex_why;have h3:=ex_not1;have h4:=ex_not2;have h5:=ex_eq1;have h6:=ex_eq2;obtain⟨X,hX⟩:∃X,X=Ae (whA.flatMap atN) 2:=⟨_,rfl⟩;refine zH zAg mixed Tryz.func9 rfl<|vAu<|vA<|vr 5 (((1=1/\1<=2/\1=1/\2<=2/\True)/\0<1/\1=1/\2<=16777216/\2<=9223372036854775807)/\((1=1/\1<=1/\True)/\0<1/\1=1/\1<=16777216/\1<=9223372036854775807)/\((1=1/\1<=2/\1=1/\2<=2/\True)/\0<1/\1=1/\2<=16777216/\2<=9223372036854775807)/\((1=1/\1<=2/\1=1/\2<=2/\True)/\0<1/\1=1/\2<=16777216/\2<=9223372036854775807)/\(1=1/\1<=2/\1=1/\2<=2/\True)/\0<1/\1=1/\2<=16777216/\2<=9223372036854775807)<|vca [iD 1] (by exact zJa _)<|vca [iD 5] (by exact zJa _)<|vr 1 ((3=3/\3<=6/\3=3/\6<=6/\True)/\0<3/\3=3/\6<=16777216/\2<=9223372036854775807)<|vca [iD 2] (by exact zJa _)<|vca [iD 6] (by exact zJa _)<|vr 2 (((3=3/\3<=6/\3=3/\6<=6/\True)/\0<3/\3=3/\6<=16777216/\2<=9223372036854775807)/\(1=1/\1<=2/\1=1/\2<=2/\True)/\0<1/\1=1/\2<=16777216/\2<=9223372036854775807)<|vca [iD 7] (by exact zJa _) ?_;refine vca [iD 5] (by exact zJa _)<|vr 4 (((3=3/\3<=6/\3=3/\6<=6/\True)/\0<3/\3=3/\6<=16777216/\2<=9223372036854775807)/\((1=1/\1<=1/\True)/\0<1/\1=1/\1<=16777216/\1<=9223372036854775807)/\((1=1/\1<=2/\1=1/\2<=2/\True)/\0<1/\1=1/\2<=16777216/\2<=9223372036854775807)/\(1=1/\1<=6/\1=1/\2<=6/\1=1/\3<=6/\1=1/\4<=6/\1=1/\5<=6/\1=1/\6<=6/\True)/\Ab=Ab)<|vc h1<|ve (0<2/\1<2/\Ac=Ac/\Ab=Ab/\5=5/\5<=5)<|zB<|vd [0,1,2,3,4,5,6,7,8,9]<|vr 1 (5<=5)<|vca [iD 1] (by exact zJa _)<|vca [iD 7] (by exact zJa _)<|vr 1 ((3=3/\3<=6/\3=3/\6<=6/\True)/\0<3/\3=3/\6<=16777216/\2<=9223372036854775807)<|vc h2<|ve (0<2/\1<2)<|zB<|vd [0,1,2,3,4,5,6,7,8,9,10]<|vr 1 (5<=5)<|vca [iD 2] (by exact zJa _)<|vca [iD 7] (by exact zJa _)<|vr 1 ((3=3/\3<=6/\3=3/\6<=6/\True)/\0<3/\3=3/\6<=16777216/\2<=9223372036854775807)<|vc h3<|ve (0<2/\1<2/\Ac=Ac/\Ab=Ab/\2=2/\2<=2)<|zB<|vd [0,1,2,3,4,5,6,7,8,9,10]<|vr 1 (5<=5)<|vca [iD 1] (by exact zJa _)<|vca [iD 8] (by exact zJa _)<|vr 1 ((3=3/\3<=6/\3=3/\6<=6/\True)/\0<3/\3=3/\6<=16777216/\2<=9223372036854775807)<|vc h4<|ve (0<2/\1<2/\Ac=Ac/\Ab=Ab/\2=2/\2<=2)<|zB<|vd [0,1,2,3,4,5,6,7,8,9,10,11,12,13,14,15,16,17,18,19,20,21,22,23,24,25,26,27,28,29,30,31,32,33,34,35,36,37,38,39,40,41,42,43,44,45,46,47,48,49,50,51,52,53,54,55,56,57,58,59,60,61,62,63,64,65]<|vr 40 (True/\True/\True/\True/\ix (1:Int) (↑(2:Nat):Int) ([iD 0,Ae [iD 1,iD 1,Aj<|AE<|bs [],iD 1,iD 5,Aj<|AE<|bs []] 2,iD 1,Ae [iD 1,iD 7,Aj<|AE<|bs [],iD 1,iD 5,Aj<|AE<|bs []] 2]≠[])/\True/\0<2/\True/\ix (1:Int) (↑(2:Nat):Int) ([iD 0,Ae [iD 1,iD 1,Aj<|AE<|bs [],iD 1,iD 5,Aj<|AE<|bs []] 2,iD 1,Ae [iD 1,iD 7,Aj<|AE<|bs [],iD 1,iD 5,Aj<|AE<|bs []] 2]≠[])/\True/\0<1/\True/\ix (1:Int) (↑(2:Nat):Int) ([iD 0,Ae [iD 1,iD 1,Aj<|AE<|bs [],iD 1,iD 5,Aj<|AE<|bs []] 2,iD 1,Ae [iD 1,iD 7,Aj<|AE<|bs [],iD 1,iD 5,Aj<|AE<|bs []] 2]≠[])/\True/\0<1/\ix (1:Int) (↑(2:Nat):Int) ([iD 1,iD 7,Aj<|AE<|bs [],iD 1,iD 5,Aj<|AE<|bs []]≠[])/\3<=3)<|vca [iD 5] (by exact zJa _)<|vr 11 (True/\True/\0<2/\True/\True/\0<1/\(1=1/\1<=2/\1=1/\2<=2/\True)/\0<1/\1=1/\2<=16777216/\2<=9223372036854775807)<|vc h5<|vr 10 (True/\0<2/\True/\True/\0<1/\(1=1/\1<=1/\True)/\0<1/\1=1/\1<=16777216/\1<=9223372036854775807)<|vc h6<|veT<|zJ<|vret (True)<|.inr rfl
theorem shr64(m:Nat){v:Nat}(h:v<64):AJ (m:Int) (2^(min v 64))=((m>>>v:Nat):Int):=by
 rw[AV (by omega),BF,Int.fdiv_eq_ediv_of_nonneg _ (by exact Int.pow_nonneg (by decide))];simp
theorem tmod2(m:Nat):Int.tmod ((m:Nat):Int) 2=((m%2:Nat):Int):=(Int.ofNat_tmod m 2).symm
theorem bit64(m v:Nat):((((m>>>v)%2:Nat):Int)==1)=m.testBit v:=by
 rw[Nat.testBit_eq_decide_div_mod_eq,BF,Bj,beq_iff_eq,decide_eq_true_eq];omega
theorem shl64{v:Nat}(h:v<62):AO.wrap (1*2^(min v 64))=((2^v:Nat):Int):=by
 have h2:2^v<2^62:=Nat.pow_lt_pow_right (by decide) h;have e:(1:Int)*2^(min v 64)=((2^v:Nat):Int):=by
  rw[AV (by omega),Int.one_mul];simp
 rw[e];clear e;generalize 2^v=q at*;exact zDf (k:= .i64) (by simp only[inK];omega)
section
variable {A : List (List Nat × List Rw)} (hA : RaOk A)
include hA
theorem levelR_c(n:Nat)(r:Rw)(hn:n<=8)(hr:r.length<=n)(hs:Sho r):Pure Ao 14 [iD (n:Nat), .row (A.flatMap raN) A.length,rowV r] [] (iD (lvlZ (λi=>decide (0<(zBz A (valF A) (n-i) (r.take i)).length)) r.length)):=by
 obtain⟨b,hb⟩:∃b:Nat->Bool,b=λi=>decide (0<(zBz A (valF A) (n-i) (r.take i)).length):=⟨_,rfl⟩;have hbi:∀i,b i=decide (0<(zBz A (valF A) (n-i) (r.take i)).length):=λi=>by rw[hb]
 rw[<-hb];refine zH zAg mixed Tryz.func14 rfl<|vAu<|vAe<|zB<|vAe<|zG<|zAl (λ(i:Nat)(z:Int)=>fr 25 [(0,iD (n:Int)),(1,Ae (Am raN A)<|Aa A),(2,rowV r),(6,iD 0),(7,iD z),(8,iD (i:Int))]) (λ(i:Nat)(z:Int)=>[]) (λi z=>r.length+1-i) (λ(i:Nat)(z:Int)=>i<=r.length+1/\z=if i=0 then-1 else lvlZ b (i-1)) 0 (-1) ?_ ?_ ?_
 ·exact⟨by omega,rfl⟩
 ·refine vk 0
 rintro i z ⟨i1,i2⟩;rcases Ay i (r.length+1)with i3|i3
 ·have hct:=zDp r i;have hcl:=zAe r;have htl:(r.take i).length=i:=by rw[AH];omega
  have hj:=joinR_c hA (n-i) (r.take i) (by omega) (by omega) ⟨by rw[htl];have:=hs.1;omega,λv hv=>hs.2 v (Bm hv)⟩;rw[show rowV (r.take i)= .row (zL (r.take i)) i by show Ae _ (r.take i).length=_;rw[htl],htl,show i+(n-i)=n by omega]at hj;have hbx:=hbi i;have hjl:=zKm (A:=A) (vf:=valF A) (zGx A hA.r) (n-i) (r.take i);have hpw:10^(n-i)<=10^8:=Bb (by omega) (by omega);generalize zBz A (valF A) (n-i) (r.take i)=J at*;have hst:∀w:Int,w=(if b i then((i:Nat):Int)else z)->w=if i+1=0 then-1 else lvlZ b (i+1-1):=λw hw=>by
   rw[if_neg (by omega),Nat.add_sub_cancel,hw,i2];cases i with
   |zero=>rfl
   |succ i=>rw[if_neg (show¬i+1=0 by omega)];rfl
  cases hc:b i
  ·rw[hc]at hbx hst;have hz:=of_decide_eq_false hbx.symm;refine zB<|vAu<|vT ((i:Int)<=↑(Aa r))<|vKB<|vA<|vr 4 (True/\(0:Int)<=(i:Int)/\True/\0<3/\0<=An (i:Int)/\An (i:Int)<=Aa r/\An (i:Int)=An (i:Int))<|vs 18 (Ae (Ax ((An (i:Int)-0)*3)<|Ah 0<|zL r) (An (i:Int)-0)) (Ae (zL<|Ax i r) i) (hd:=by simp(disch:=omega) only[Au,Bu,AD,hct])<|vrT 1<|vc hj<|veT<|vF ((Aa J:Int)>(0:Int))<|zK<|zE<|vN<|zA rfl<|vr 3 (i6 (↑i+1))<|vnil<|zC<|⟨i+1,z,⟨by omega,hst z rfl⟩,by omega,?_⟩;refine vk 0
  rw[hc]at hbx hst;have hz:=of_decide_eq_true hbx.symm;refine zB<|vAu<|vT ((i:Int)<=↑(Aa r))<|vKB<|vA<|vr 4 (True/\(0:Int)<=(i:Int)/\True/\0<3/\0<=An (i:Int)/\An (i:Int)<=Aa r/\An (i:Int)=An (i:Int))<|vs 18 (Ae (Ax ((An (i:Int)-0)*3)<|Ah 0<|zL r) (An (i:Int)-0)) (Ae (zL<|Ax i r) i) (hd:=by simp(disch:=omega) only[Au,Bu,AD,hct])<|vrT 1<|vc hj<|veT<|vT ((Aa J:Int)>(0:Int))<|zA rfl<|vrT 2<|vnil<|zE<|vN<|zA rfl<|vr 3 (i6 (↑i+1))<|vnil<|zC<|⟨i+1,((i:Nat):Int),⟨by omega,hst _ rfl⟩,by omega,?_⟩;refine vk 0
 obtain rfl:i=r.length+1:=by omega
 rw[if_neg (by omega),Nat.add_sub_cancel]at i2;subst i2;refine zB<|vAu<|vF ((↑(Aa r+1):Int)<=(Aa r:Int))<|vZ2<|vAe<|zJ<|vret (True)<|.inr rfl
end
def bA(g:Nat->Bool):List D:=(Aw 32).map λv=>bD (g v)
def iA(g:Nat->Nat):List D:=(Aw 32).map λv=>iD (g v:Nat)
abbrev bK(l:List D):Bk:=⟨l,136,0,Ac,Ac, .plain⟩
abbrev iK(l:List D):Bk:=⟨l,137,0,Ac,Ac, .plain⟩
abbrev raB(l:List D):Bk:=⟨l,94,2,Ab,Ac, .plain⟩
theorem r32_get{f:Nat->D}{u:Nat}:((Aw 32).map f)[u]?=if u<32 then Av (f u)else none:=by
 by_cases h:u<32
 ·rw[if_pos h,Ba,A_ h];rfl
 rw[if_neg h,Ba,Bn (by simpa using h)];rfl
theorem r32_set(f f':Nat->D)(i:Nat)(h:∀v,f' v=if v=i then f' i else f v):((Aw 32).map f).set i (f' i)=(Aw 32).map f':=by
 apply List.ext_getElem?;intro u;rw[List.getElem?_set,r32_get,r32_get,Az,A7];by_cases e:i=u
 ·subst e;rw[if_pos rfl]
 rw[if_neg e,h u];simp only[show¬u=i from λe2=>e e2.symm,if_false]
theorem bA_hd(g:Nat->Bool){i:Nat}(h:i<32):((bA g).drop i).headD .unk=bD (g i):=by
 unfold bA;rw[zA0 (λv=>bD (g v)) (Aw 32) 0 i (by simpa using h),AP,A_ h];rfl
theorem iA_hd(g:Nat->Nat){i:Nat}(h:i<32):((iA g).drop i).headD .unk=iD (g i:Nat):=by
 unfold iA;rw[zA0 (λv=>iD (g v:Nat)) (Aw 32) 0 i (by simpa using h),AP,A_ h];rfl
theorem bA_le(g:Nat->Bool){i:Nat}(h:i<32):1<=((bA g).drop i).length:=by
 rw[BB,show(bA g).length=32 by simp[bA]];omega
theorem iA_le(g:Nat->Nat){i:Nat}(h:i<32):1<=((iA g).drop i).length:=by
 rw[BB,show(iA g).length=32 by simp[iA]];omega
theorem bA_set(g g':Nat->Bool)(i:Nat)(h:∀v,g' v=if v=i then Ab else g v):(bA g).set i (bD Ab)=bA g':=by
 have:=r32_set (λv=>bD (g v)) (λv=>bD (g' v)) i λv=>by
  rw[h v,h i,if_pos rfl];split<;>rfl
 simp only[h i,if_true]at this;exact this
theorem iA_set(g g':Nat->Nat)(i x:Nat)(h:∀v,g' v=if v=i then x else g v):(iA g).set i (iD (x:Nat))=iA g':=by
 have:=r32_set (λv=>iD (g v:Nat)) (λv=>iD (g' v:Nat)) i λv=>by
  rw[h v,h i,if_pos rfl];split<;>rfl
 simp only[h i,if_true]at this;exact this
theorem zXx{g g':Nat->Bool}(h:∀v,g v=g' v):bA g=bA g':=by rw[funext h]
theorem zW9{g g':Nat->Nat}(h:∀v,g v=g' v):iA g=iA g':=by rw[funext h]
theorem snB_snoc(B:List (List Nat×List Rw))(a:List Nat×List Rw)(v:Nat):snB (B++[a]) v=(snB B v||decide (v∈a.1)):=by
 unfold snB;rw[List.any_append];simp
theorem knK_succ(f:Nat->Bool)(p:Rw)(v:Nat):knK f p (v+1)=if f v&&decide (v<p.length)then knK f p v++[p.getD v As]else knK f p v:=by
 unfold knK;by_cases h:v<p.length
 ·rw[AV (by omega),AV (by omega),A3,A8,AY,decide_eq_true h,Bool.and_true,A9];cases f v<;>simp
 rw[Nat.min_eq_right (by omega),Nat.min_eq_right (by omega),decide_eq_false h,Bool.and_false,if_neg (by decide)]
def rnL(f:Nat->Bool)(B:List (List Nat×List Rw))(i:Nat):List (List Nat×List Rw):=(B.take i).map (renR f)++B.drop i
theorem rnL_len(f:Nat->Bool)(B:List (List Nat×List Rw))(i:Nat):(rnL f B i).length=B.length:=by
 unfold rnL;rw[AU,Az,AH,BB];omega
theorem rnL_get(f:Nat->Bool)(B:List (List Nat×List Rw)){i:Nat}(h:i<B.length):(rnL f B i).getD i As=B.getD i default:=by
 unfold rnL;rw[AP,BE (by rw[Az,AH];omega),Az,AH,AV (by omega),Nat.sub_self,List.getElem?_drop,Nat.add_zero,AP]
theorem rnL_set(f:Nat->Bool)(B:List (List Nat×List Rw)){i:Nat}(h:i<B.length):((rnL f B i).flatMap raN).set (i*2) (.row (nsD ((B.getD i As).1.map (rkN f))) (B.getD i As).1.length)=(rnL f B (i+1)).flatMap raN:=by
 have e1:rnL f B i=(B.take i).map (renR f)++B.getD i As::B.drop (i+1):=by
  unfold rnL;rw[BD h,AP,Bg h];rfl
 have e2:rnL f B (i+1)=(B.take i).map (renR f)++renR f (B.getD i As)::B.drop (i+1):=by
  unfold rnL;rw[zAs B i h,AY,By];rfl
 have hl:(((B.take i).map (renR f)).flatMap raN).length=i*2:=by
  rw[zDc zBg,Az,AH,AV (by omega)]
 rw[e1,e2,Bq,Bq,List.set_append_right _ _ (by omega),hl,Nat.sub_self];congr 1;show Ae _ _::_=Ae _ _::_;rw[show(renR f (B.getD i As)).1.length=(B.getD i As).1.length from Az _];rfl
theorem chosA_ok{A:List (List Nat×List Rw)}(h:RaOk A)(s:Nat):RaOk (zC8 A s):=by
 have hs:=zMj A s;exact⟨Nat.le_trans (zMk A s) h.l,λa ha=>h.v a (hs a ha),λa ha=>h.r a (hs a ha),λa ha=>h.s a (hs a ha),λa ha=>h.e a (hs a ha)⟩
theorem RaOk.ren{B:List (List Nat×List Rw)}(h:RaOk B)(f:Nat->Bool):RaOk (B.map (renR f)):=by
 refine⟨by rw[Az];exact h.l,λa ha=>?_,λa ha=>?_,λa ha=>?_,λa ha=>?_⟩<;>obtain⟨b,hb,rfl⟩:=A2.1 ha
 ·show(b.1.map _).length<=_;rw[Az];exact h.v b hb
 ·exact h.r b hb
 ·exact h.s b hb
 show∀r∈b.2,r.length=(b.1.map _).length;rw[Az];exact h.e b hb
section
variable {A : List (List Nat × List Rw)} {n : Nat} {p : Rw} (hA : RaOk A) (hn : n ≤ 8) (hl5 : A.length ≤ 5) (hv8 : ∀ a ∈ A, a.1.length ≤ 32) (hlt : ∀ a ∈ A, ∀ v ∈ a.1, v < n) (hp : p.length ≤ n) (hs : Sho p)
include hA hn hl5 hv8 hlt hp hs
set_option maxHeartbeats 16000000 in
theorem allowsS_c(s:Nat)(hs32:s<4294967296):Pure Ao 46 [iD (n:Nat), .row (A.flatMap raN) A.length,iD (s:Nat),rowV p] [] (bD (decide (0<(alwS (zC8 A s) n p).length))):=by
 have hsub:=zMj A s;have hBl:=zMk A s;have hBo:=chosA_ok hA s;unfold alwS;obtain⟨B,hB⟩:∃B,B=zC8 A s:=⟨_,rfl⟩;rw[<-hB]at hsub hBl hBo⊢;obtain⟨f,hf⟩:∃f,f=snB B:=⟨_,rfl⟩;rw[<-hf];have hfB:∀a∈B,∀v∈a.1,f v=true:=λa ha v hv=>by rw[hf];exact List.any_eq_true.2 ⟨a,ha,decide_eq_true hv⟩
 refine zH zAg mixed Tryz.func46 rfl<|vAu<|vAe<|vAe<|zB<|vAe<|zG<|zAl (λ(i:Nat)(L:List (List Nat×List Rw))=>fr 121 [(0,iD (n:Int)),(1,Ae (Am raN A)<|Aa A),(2,iD (s:Int)),(3,rowV p),(8,bD Ac),(9,Ai 1 0 (Aa L) (Aa L*2) Ab),(10,Ak 0 0),(11,iD (i:Int))]) (λ(i:Nat)(L:List (List Nat×List Rw))=>[bK<|bA<|snB L,raB<|L.flatMap raN]) (λi L=>A.length-i) (λ(i:Nat)(L:List (List Nat×List Rw))=>i<=A.length/\L=((Aw i).filter λi=>s.testBit i).map λi=>A.getD i As) 0 [] ?_ ?_ ?_
 ·exact⟨by omega,rfl⟩
 ·refine vk 1
 rintro i L ⟨i1,i2⟩;have hL:L.length<=5:=by
  rw[i2,Az]
  have:=Bi (λi=>s.testBit i) (Aw i)
  rw[A7]at this;omega
 have hcl:(L.flatMap raN).length=L.length*2:=zDc zBg L;rcases Ay i A.length with i3|i3
 ·have hg:=zGq zBg A i i3;have hle:=zD2 zBg A i i3;have hne:=zD1 zBg (by decide) A;have hin:=zAc A As i i3;have hva:=hv8 _ hin;have hla:=hlt _ hin;have hsu:((Aw (i+1)).filter λi=>s.testBit i).map (λi=>A.getD i As)=if s.testBit i then L++[A.getD i As]else L:=by
   rw[A3,A8,AY,<-i2,A9];cases s.testBit i<;>simp
  have w1:=shr64 s (v:=i) (by omega);have w2:=tmod2 (s>>>i);have w3:=bit64 s i;generalize A.getD i As=a at*;obtain⟨V,R⟩:=a;simp only at hva hla;cases hb:s.testBit i
  ·rw[hb]at w3 hsu;rw[if_neg (by decide)]at hsu;refine zB<|vAu<|vT ((i:Int)<↑(Aa A))<|vKB<|vA<|vr 3 ((0:Int)<=(i:Int))<|vs 28 (iD<|AJ (s:Int) ((2:Int)^min (An (i:Int)) 64)) (iD ↑(s>>>i)) (hd:=by simp(disch:=omega) only[Au,w1])<|vr 2 ((2:Int)≠(0:Int)/\True)<|vs 30 (bD ((↑(s>>>i%2):Int)==(1:Int))) (bD Ac) (hd:=by simp(disch:=omega) only[w3])<|veT<|vf<|zK<|zE<|vN<|zA rfl<|vr 3 (i6 (↑i+1))<|vnil<|zC<|⟨i+1,L,⟨by omega,hsu.symm⟩,by omega,?_⟩;refine vk 2
  rw [hb]at w3 hsu;rw[if_pos rfl]at hsu;have hfa:(L++[(V,R)]).flatMap raN=L.flatMap raN++raN (V,R):=by simp
  have hla2:(L++[(V,R)]).length=L.length+1:=by simp
  have hsn:=snB_snoc L (V,R);refine zB<|vAu<|vT ((i:Int)<↑(Aa A))<|vKB<|vA<|vr 3 ((0:Int)<=(i:Int))<|vs 28 (iD<|AJ (s:Int) ((2:Int)^min (An (i:Int)) 64)) (iD ↑(s>>>i)) (hd:=by simp(disch:=omega) only[Au,w1])<|vr 2 ((2:Int)≠(0:Int)/\True)<|vs 30 (bD ((↑(s>>>i%2):Int)==(1:Int))) (bD Ab) (hd:=by simp(disch:=omega) only[w3])<|veT<|vt<|vA<|vr 4 (ix ↑i ↑(Aa A) (Am raN A≠[]))<|vs 34 (AF<|Ah (An (i:Int)*2)<|Am raN A) (AF (Ae (nsD V) (Aa V)::Ae (Ad rowV R) (Aa R)::Am raN (Ah (i+1) A))) (hd:=by simp(disch:=omega) only[Au,AW,AX,hg])<|ve (2<=Aa (Ae (nsD V) (Aa V)::Ae (Ad rowV R) (Aa R)::Am raN (Ah (i+1) A))/\((2=2/\2<=2/\True)/\0<2/\2=2/\2<=16777216/\1<=9223372036854775807)/\AQ (raB<|Am raN L)=Ab/\Aa (Ar<|raB<|Am raN L)=Aa L*2/\Aa L*2=Aa L*2/\AL (raB<|Am raN L)=94/\AM (raB<|Am raN L)=2/\2=2/\0<2/\0<48/\94=94/\(Aa L+1)*48<=140737488355328/\2=2/\AR (AC<|raB<|Am raN L)=Ac/\(Ac=Ac\/AS (AC<|raB<|Am raN L)=Ab))<|vAe<|zG<|zP (λ(k:Nat)=>fr 121 [(0,iD n),(1,Ae (Am raN A)<|Aa A),(2,iD s),(3,rowV p),(8,bD Ac),(9,Ai 1 0 (Aa L+1) ((Aa L+1)*2) Ab),(10,Ak 0 0),(11,iD i),(12,iD k)]) (λ(k:Nat)=>[bK<|bA<|λv=>snB L v||decide (v∈V.take k),raB (L.flatMap raN++raN (V,R))]) (λk=>V.length-k) (λ(k:Nat)=>k<=V.length) 0 ?_ ?_ ?_
  ·omega
  ·rw[zXx (g:=λv=>snB L v||decide (v∈V.take 0)) (g':=snB L) λv=>by simp];refine vk 2
  rintro k k1;rcases Ay k V.length with k2|k2
  ·have hx:=zAq V k k2;have hn1:nsD V≠[]:=zAa;have hvv:=hla _ (zAc V 0 k k2);have htk:V.take (k+1)=V.take k++[V.getD k 0]:=zCy V k k2;have hst:=bA_set (λv=>snB L v||decide (v∈V.take k)) (λv=>snB L v||decide (v∈V.take (k+1))) (V.getD k 0) λv=>by
    simp only[htk,List.mem_append,List.mem_singleton];by_cases e:v=V.getD k 0
    ·rw[if_pos e,decide_eq_true (.inr e),Bool.or_true]
    rw[if_neg e];congr 1;rw[Bj,decide_eq_true_eq,decide_eq_true_eq];exact⟨λh=>h.elim id λh=>absurd h e, .inl⟩
   generalize V.getD k 0=v at*;refine zB<|vAs<|vr 4 (ix ↑i ↑(Aa A) (Am raN A≠[]))<|vs 41 (AF<|Ah (An (i:Int)*2)<|Am raN A) (AF (Ae (nsD V) (Aa V)::Ae (Ad rowV R) (Aa R)::Am raN (Ah (i+1) A))) (hd:=by simp(disch:=omega) only[Au,AW,AX,hg])<|ve (True/\0<Aa (Ae (nsD V) (Aa V)::Ae (Ad rowV R) (Aa R)::Am raN (Ah (i+1) A)))<|vT ((k:Int)<↑(Aa V))<|vKB<|zA rfl<|vr 3 (ix ↑i ↑(Aa A) (Am raN A≠[]))<|vs 50 (AF<|Ah (An (i:Int)*2)<|Am raN A) (AF (Ae (nsD V) (Aa V)::Ae (Ad rowV R) (Aa R)::Am raN (Ah (i+1) A))) (hd:=by simp(disch:=omega) only[Au,AW,AX,hg])<|vr 4 (True/\0<Aa (Ae (nsD V) (Aa V)::Ae (Ad rowV R) (Aa R)::Am raN (Ah (i+1) A))/\ix ↑k ↑(Aa V) (nsD V≠[]))<|vp 54 k (nsD V)<|vr 1 (0<Aa (Ah k<|nsD V))<|vsh 55 hx<|vr 1 ((0:Int)<=(v:Int)/\(v:Int)<↑(32:Nat))<|vo 56 0 v<|vr 1 (Bk.fz (bK (bA λ(v:Nat)=>snB L v||decide (v∈Ax k V)))=Ac/\Ab=Ab/\1=1/\v+1<=32)<|vnil<|zE<|vN<|zA rfl<|vr 3 (i6 (↑k+1))<|vnil<|zC<|⟨k+1,by omega,by omega,?_⟩;rw[<-hst];refine vk 2
  obtain rfl:k=V.length:=by omega
  refine zB<|vAs<|vr 4 (ix ↑i ↑(Aa A) (Am raN A≠[]))<|vs 41 (AF<|Ah (An (i:Int)*2)<|Am raN A) (AF (Ae (nsD V) (Aa V)::Ae (Ad rowV R) (Aa R)::Am raN (Ah (i+1) A))) (hd:=by simp(disch:=omega) only[Au,AW,AX,hg])<|ve (True/\0<Aa (Ae (nsD V) (Aa V)::Ae (Ad rowV R) (Aa R)::Am raN (Ah (i+1) A)))<|vF ((Aa V:Int)<↑(Aa V))<|vY2<|zE<|vN<|zA rfl<|vr 3 (i6 (↑i+1))<|vnil<|zC<|⟨i+1,L++[(V,R)],⟨by omega,hsu.symm⟩,by omega,?_⟩;rw[hfa,hla2,zXx (g:=snB (L++[(V,R)])) (g':=λv=>snB L v||decide (v∈V.take V.length)) λv=>by rw[A0];exact hsn v];refine vk 2
 obtain rfl:i=A.length:=by omega
 have i2:L=B:=by rw[i2,hB];rfl
 subst i2;rw[<-hf];clear hB;refine zB<|vAu<|vF ((Aa A:Int)<↑(Aa A))<|vZ2<|vAe<|vAe<|vAe<|zB<|vAe<|zG<|zP (λ(v:Nat)=>fr 121 [(0,iD n),(3,rowV p),(8,bD Ac),(9,Ai 1 0 (Aa L) (Aa L*2) Ab),(10,Ak 0 0),(13,Ak 2 0),(14,Ai 3 0 (Aa<|knK f p v) (Aa (knK f p v)*3) Ab),(15,iD ↑(rkN f v)),(16,iD v)]) (λ(v:Nat)=>[bK<|bA f,raB<|L.flatMap raN,iK (iA λw=>if w<v/\f w=Ab then rkN f w else 0),rvK<|zL<|knK f p v]) (λv=>n-v) (λ(v:Nat)=>v<=n) 0 ?_ ?_ ?_
 ·omega
 ·rw[zW9 (g:=λw=>if w<0/\f w=Ab then rkN f w else 0) (g':=λ_=>0) λw=>if_neg (λh=>Nat.not_lt_zero w h.1)];refine vk 3
 rintro v v1;have hkc:=zAe (knK f p v);have hkl:(knK f p v).length<=v:=by
  rw[zTl];exact Nat.le_trans (rkN_le f _) (Nat.min_le_left _ _)
 have hrk:=rkN_le f v;rcases Ay v n with v2|v2
 ·have hbd:=bA_hd f (i:=v) (by omega);have hbl:=bA_le f (i:=v) (by omega);have hrs:=zKh f v;have hks:=knK_succ f p v;cases hfv:f v
  ·rw[hfv]at hbd hrs hks;rw[if_neg (by decide),Nat.add_zero]at hrs;rw[BA,if_neg (by decide)]at hks;have hcg:=zW9 (g:=λw=>if w<v+1/\f w=Ab then rkN f w else 0) (g':=λw=>if w<v/\f w=Ab then rkN f w else 0) λw=>by
    by_cases e:w=v
    ·subst e;simp[hfv]
    simp[show w<v+1↔w<v by omega]
   refine zB<|vAu<|vT ((v:Int)<↑n)<|vKB<|vA<|vr 2 ((0:Int)<=(v:Int)/\(v:Int)<↑(32:Nat))<|vo 63 0 v<|vr 1 (0<Aa (Ah v<|Ar<|bK<|bA f))<|vsh 64 hbd<|veT<|vf<|zK<|zE<|vN<|zA rfl<|vr 3 (i6 (↑v+1))<|vnil<|zC<|⟨v+1,by omega,by omega,?_⟩;rw[hrs,hks,hcg];refine vk 4
  rw[hfv]at hbd hrs hks;rw[if_pos rfl]at hrs;rw[Bs]at hks;have hst:=iA_set (λw=>if w<v/\f w=Ab then rkN f w else 0) (λw=>if w<v+1/\f w=Ab then rkN f w else 0) v (rkN f v) λw=>by
   by_cases e:w=v
   ·subst e;simp[hfv]
   simp[show w<v+1↔w<v by omega,e]
  by_cases hvp:v<p.length
  ·rw[decide_eq_true hvp,if_pos rfl]at hks;have htv:=zBe p v hvp;have hva:=zCj p;have hv3:=zB1 p v (h:=hvp);have hcs:zL (knK f p v++[p.getD v As])=zL (knK f p v)++vaC (p.getD v As):=by
    rw[zCq];simp[zL]
   have hls:(knK f p v++[p.getD v As]).length=(knK f p v).length+1:=by simp
   generalize knK f p v=K at*;generalize p.getD v As=y at*;obtain⟨ka,ia,sa⟩:=y;refine zB<|vAu<|vT ((v:Int)<↑n)<|vKB<|vA<|vr 2 ((0:Int)<=(v:Int)/\(v:Int)<↑(32:Nat))<|vo 63 0 v<|vr 1 (0<Aa (Ah v<|Ar<|bK<|bA f))<|vsh 64 hbd<|veT<|vt<|vA<|vr 3 ((0:Int)<=(v:Int)/\(v:Int)<↑(32:Nat))<|vo 67 2 v<|ve (Bk.fz (iK (iA λ(w:Nat)=>if w<v/\f w=Ab then rkN f w else 0))=Ac/\Ab=Ab/\1=1/\v+1<=32)<|vA<|ve (i6 (↑(rkN f v)+1))<|vAe<|vT ((v:Int)<↑(Aa p))<|zA rfl<|vr 5 (ix ↑v ↑(Aa p) (zL p≠[])/\3<=Aa (Ah (v*3)<|zL p))<|vs 78 (D.agg<|Ax 3<|Ah (v*3)<|zL p) (D.agg<|vaC<|Va.mk ka ia sa) (hd:=by simp(disch:=omega) only[htv])<|vr 3 (((3=3/\3<=3/\True)/\0<3/\3=3/\3<=16777216/\1<=9223372036854775807)/\AQ (rvK<|zL K)=Ab/\Aa (Ar<|rvK<|zL K)=Aa K*3/\Aa K*3=Aa K*3/\AL (rvK<|zL K)=95/\AM (rvK<|zL K)=3/\3=3/\0<3/\0<32/\95=95/\(Aa K+1)*32<=140737488355328/\3=3/\AR (AC<|rvK<|zL K)=Ac/\(Ac=Ac\/AS (AC<|rvK<|zL K)=Ab))<|vnil<|zE<|vN<|zA rfl<|vr 3 (i6 (↑v+1))<|vnil<|zC<|⟨v+1,by omega,by omega,?_⟩;rw[hrs,hks,hcs,hls];refine wkn (fr 121 [(0,iD n),(3,rowV p),(8,bD Ac),(9,Ai 1 0 (Aa L) (Aa L*2) Ab),(10,Ak 0 0),(13,Ak 2 0),(14,Ai 3 0 (Aa K+1) ((Aa K+1)*3) Ab),(15,iD ↑(rkN f v+1)),(16,iD ↑(v+1)),(60,iD v),(61,iD ↑(v+1)),(73,bD (decide ((v:Int)<↑(Aa p)))),(75,(q3_ p)),(76,iD v),(77,AF (Ah (v*3) (zL p))),(78,D.agg (vaC (Va.mk ka ia sa))),(79,Ai 4 0 1 3 Ab),(80,Ai 3 0 (Aa K+1) ((Aa K+1)*3) Ab)]) [AA [(λ(v:Nat)=>bD (f v)) (nat_lit 0),(λ(v:Nat)=>bD (f v)) (nat_lit 1),(λ(v:Nat)=>bD (f v)) (nat_lit 2),(λ(v:Nat)=>bD (f v)) (nat_lit 3),(λ(v:Nat)=>bD (f v)) (nat_lit 4),(λ(v:Nat)=>bD (f v)) (nat_lit 5),(λ(v:Nat)=>bD (f v)) (nat_lit 6),(λ(v:Nat)=>bD (f v)) (nat_lit 7),(λ(v:Nat)=>bD (f v)) (nat_lit 8),(λ(v:Nat)=>bD (f v)) (nat_lit 9),(λ(v:Nat)=>bD (f v)) (nat_lit 10),(λ(v:Nat)=>bD (f v)) (nat_lit 11),(λ(v:Nat)=>bD (f v)) (nat_lit 12),(λ(v:Nat)=>bD (f v)) (nat_lit 13),(λ(v:Nat)=>bD (f v)) (nat_lit 14),(λ(v:Nat)=>bD (f v)) (nat_lit 15),(λ(v:Nat)=>bD (f v)) (nat_lit 16),(λ(v:Nat)=>bD (f v)) (nat_lit 17),(λ(v:Nat)=>bD (f v)) (nat_lit 18),(λ(v:Nat)=>bD (f v)) (nat_lit 19),(λ(v:Nat)=>bD (f v)) (nat_lit 20),(λ(v:Nat)=>bD (f v)) (nat_lit 21),(λ(v:Nat)=>bD (f v)) (nat_lit 22),(λ(v:Nat)=>bD (f v)) (nat_lit 23),(λ(v:Nat)=>bD (f v)) (nat_lit 24),(λ(v:Nat)=>bD (f v)) (nat_lit 25),(λ(v:Nat)=>bD (f v)) (nat_lit 26),(λ(v:Nat)=>bD (f v)) (nat_lit 27),(λ(v:Nat)=>bD (f v)) (nat_lit 28),(λ(v:Nat)=>bD (f v)) (nat_lit 29),(λ(v:Nat)=>bD (f v)) (nat_lit 30),(λ(v:Nat)=>bD (f v)) (nat_lit 31)] (136:TypeId) 0 Ac Ac AB,AA (Am raN L) (94:TypeId) 2 Ab Ac AB,AA (Ad (zA5 3) (A6 (iA λ(w:Nat)=>if w<v/\f w=Ab then rkN f w else 0) v (iD ↑(rkN f v)))) (137:TypeId) 0 Ac Ac AB,AA (zL K++[iD ka,iD ia,Aj (AE (bs sa))]) (95:TypeId) 3 Ab Ac AB,AA [iD ka,iD ia,Aj (AE (bs sa))] 95 3 Ab Ac AB] ?_;rw[show(iA λw=>if w<v/\f w=Ab then rkN f w else 0).set v (iD (rkN f v:Nat))=iA λw=>if w<v+1/\f w=Ab then rkN f w else 0 from hst];refine vk 4
  rw[decide_eq_false hvp,if_neg (by decide)]at hks;refine zB<|vAu<|vT ((v:Int)<↑n)<|vKB<|vA<|vr 2 ((0:Int)<=(v:Int)/\(v:Int)<↑(32:Nat))<|vo 63 0 v<|vr 1 (0<Aa (Ah v<|Ar<|bK<|bA f))<|vsh 64 hbd<|veT<|vt<|vA<|vr 3 ((0:Int)<=(v:Int)/\(v:Int)<↑(32:Nat))<|vo 67 2 v<|ve (Bk.fz (iK (iA λ(w:Nat)=>if w<v/\f w=Ab then rkN f w else 0))=Ac/\Ab=Ab/\1=1/\v+1<=32)<|vA<|ve (i6 (↑(rkN f v)+1))<|vAe<|vF ((v:Int)<↑(Aa p))<|zK<|zE<|vN<|zA rfl<|vr 3 (i6 (↑v+1))<|vnil<|zC<|⟨v+1,by omega,by omega,?_⟩;rw[hrs,hks,<-hst];refine vk 4
 obtain rfl:v=n:=by omega
 have hK8:(knK f p v).length<=rkN f v:=by
  rw[zTl];exact zN9 f (Nat.min_le_left _ _)
 have hKs:Sho (knK f p v):=⟨by omega,λx hx=>by
  obtain⟨w,hw,rfl⟩:=A2.1 hx
  have:=Br.1 (Bx.1 hw).1
  exact hs.at (by omega)⟩
 have hjn:=joinR_c (hBo.ren f) (rkN f v-(knK f p v).length) (knK f p v) (by omega) (by omega) hKs;rw[show(knK f p v).length+(rkN f v-(knK f p v).length)=rkN f v by omega,Az]at hjn;have hjl:=zKm (A:=L.map (renR f)) (vf:=valF (L.map (renR f))) (zGx _ (hBo.ren f).r) (rkN f v-(knK f p v).length) (knK f p v);have hpw:10^(rkN f v-(knK f p v).length)<=10^8:=Bb (by omega) (by omega);have hkt:(zL (knK f p v)).take ((knK f p v).length*3)=zL (knK f p v):=AI (by omega);generalize zBz (L.map (renR f)) (valF (L.map (renR f))) (rkN f v-(knK f p v).length) (knK f p v)=J at*;generalize knK f p v=K at*;refine zB<|vAu<|vF ((v:Int)<↑v)<|vZ2<|zB<|vAe<|zG<|zP (λ(i:Nat)=>fr 121 [(8,bD Ac),(9,Ai 1 0 (Aa L) (Aa L*2) Ab),(13,Ak 2 0),(14,Ai 3 0 (Aa K) (Aa K*3) Ab),(15,iD ↑(rkN f v)),(17,iD i)]) (λ(i:Nat)=>[bK<|bA f,raB<|(rnL f L i).flatMap raN,iK (iA λw=>if w<v/\f w=Ab then rkN f w else 0),rvK<|zL K]) (λi=>L.length-i) (λ(i:Nat)=>i<=L.length) 0 ?_ ?_ ?_
 ·omega
 ·rw[show rnL f L 0=L by simp[rnL]];refine vk 4
 rintro i q1;have hrl:=rnL_len f L i;rcases Ay i L.length with q2|q2
 ·have hg:=zGq zBg (rnL f L i) i (by omega);have hle:=zD2 zBg (rnL f L i) i (by omega);have hne:=zD1 zBg (by decide) (rnL f L i);have hgl:=zDc zBg (rnL f L i);rw[rnL_get f L q2]at hg;have hst:=rnL_set f L q2;have hin:=zAc L As i q2;have hva:=hv8 _ (hsub _ hin);have hla:=hlt _ (hsub _ hin);have hfa:=hfB _ hin;rw[hrl]at hgl;generalize L.getD i As=a at*;obtain⟨V,R⟩:=a;simp only at hva hla hfa hst;generalize (rnL f L i).drop (i+1)=T at*;generalize (rnL f L i).flatMap raN=C at*;refine zB<|vAu<|vT ((i:Int)<↑(Aa L))<|vKB<|vAe<|zB<|vAe<|zG<|zP (λ(k:Nat)=>fr 121 [(8,bD Ac),(9,Ai 1 0 (Aa L) (Aa L*2) Ab),(13,Ak 2 0),(14,Ai 3 0 (Aa K) (Aa K*3) Ab),(15,iD ↑(rkN f v)),(17,iD i),(18,Ai 4 0 k k Ab),(19,iD k)]) (λ(k:Nat)=>[bK<|bA f,raB C,iK (iA λw=>if w<v/\f w=Ab then rkN f w else 0),rvK<|zL K,iaK<|nsD<|(V.take k).map<|rkN f]) (λk=>V.length-k) (λ(k:Nat)=>k<=V.length) 0 ?_ ?_ ?_
  ·omega
  ·refine vk 4
  rintro k k1;have hnl:(nsD ((V.take k).map (rkN f))).length=k:=by rw[Az,Az,AH,AV k1]
  rcases Ay k V.length with k2|k2
  ·have hx:=zAq V k k2;have hn1:nsD V≠[]:=zAa;have hmem:=zAc V 0 k k2;have hvv:=hla _ hmem;have hfv:=hfa _ hmem;have hia:=iA_hd (λw=>if w<v/\f w=Ab then rkN f w else 0) (i:=V.getD k 0) (by omega);simp only[hvv,hfv,and_self,if_true]at hia;have hil:=iA_le (λw=>if w<v/\f w=Ab then rkN f w else 0) (i:=V.getD k 0) (by omega);have hsn:nsD ((V.take (k+1)).map (rkN f))=nsD ((V.take k).map (rkN f))++[iD (rkN f (V.getD k 0):Nat)]:=by
    rw[zCy V k k2];simp
   generalize nsD ((V.take k).map (rkN f))=N at*;generalize V.getD k 0=u at*;generalize rkN f u=x at*;refine zB<|vAs<|vr 4 ((0:Int)<=(i:Int)/\(i:Int)<↑(Aa L))<|vo0 90 1 (i*2)<|vr 2 (True/\0<Aa (Ah (i*2)<|Ar<|raB C))<|vs 92 (List.headD (Ah (i*2)<|Ar<|raB C) Uk) (Ae (nsD V)<|Aa V) (hd:=by simp(disch:=omega) only[AW,AX,BC,hg])<|veT<|vT ((k:Int)<↑(Aa V))<|vKB<|zA rfl<|vr 4 ((0:Int)<=(i:Int)/\(i:Int)<↑(Aa L))<|vo0 100 1 (i*2)<|vr 2 (True/\0<Aa (Ah (i*2)<|Ar<|raB C))<|vs 102 (List.headD (Ah (i*2)<|Ar<|raB C) Uk) (Ae (nsD V)<|Aa V) (hd:=by simp(disch:=omega) only[AW,AX,BC,hg])<|vr 2 (ix ↑k ↑(Aa V) (nsD V≠[]))<|vp 104 k (nsD V)<|vr 1 (0<Aa (Ah k<|nsD V))<|vsh 105 hx<|vr 1 ((0:Int)<=(u:Int)/\(u:Int)<↑(32:Nat))<|vo 106 2 u<|vr 1 (0<Aa (Ah u<|Ar<|iK (iA λ(w:Nat)=>if w<v/\f w=Ab then rkN f w else 0)))<|vsh 107 hia<|vr 3 (((1=1/\1<=1/\True)/\0<1/\1=1/\1<=16777216/\1<=9223372036854775807)/\AQ (iaK N)=Ab/\Aa (Ar<|iaK N)=k*1/\k=k*1/\AL (iaK N)=3/\AM (iaK N)=1/\1=1/\0<1/\0<8/\3=3/\(k+1)*8<=140737488355328/\1=1/\AR (AC<|iaK N)=Ac/\(Ac=Ac\/AS (AC<|iaK N)=Ab))<|vs 18 (Ai 4 0 (k+1) ((k+1)*1) Ab) (Ai 4 0 (k+1) (k+1) Ab) (hd:=by simp(disch:=omega) only[A1])<|vnil<|zE<|vN<|zA rfl<|vr 3 (i6 (↑k+1))<|vnil<|zC<|⟨k+1,by omega,by omega,?_⟩;rw[hsn];refine vk 5
  obtain rfl:k=V.length:=by omega
  rw[A0]at hnl⊢;have hnt:(nsD (V.map (rkN f))).take V.length=nsD (V.map (rkN f)):=AI (by omega);refine zB<|vAs<|vr 4 ((0:Int)<=(i:Int)/\(i:Int)<↑(Aa L))<|vo0 90 1 (i*2)<|vr 2 (True/\0<Aa (Ah (i*2)<|Ar<|raB C))<|vs 92 (List.headD (Ah (i*2)<|Ar<|raB C) Uk) (Ae (nsD V)<|Aa V) (hd:=by simp(disch:=omega) only[AW,AX,BC,hg])<|veT<|vF ((Aa V:Int)<↑(Aa V))<|vZ2<|zA rfl<|vr 4 ((0:Int)<=(i:Int)/\(i:Int)<↑(Aa L))<|vo0 113 1 (i*2)<|vr 2 (True/\Bk.fz (raB C)=Ac/\Ab=Ab/\1=1/\i*2+1<=Aa (Ar<|raB C)/\¬1∈[4])<|vb 1 (AA (setAt (Ar<|raB C) (i*2)<|cellsOf<|Ae (Ax (Aa V)<|Ah 0<|Ar<|iaK<|nsD<|Ad (rkN f) V)<|Aa V) (AL<|raB C) (AM<|raB C) Ab Ac<|AC<|raB C) (AA (A6 C (i*2)<|Ae (nsD<|Ad (rkN f) V)<|Aa V) (94:TypeId) 2 Ab Ac AB) (hd:=by simp(disch:=omega) only[cellsOf,AD,setAt,hnt])<|vnil<|zE<|vN<|zA rfl<|vr 3 (i6 (↑i+1))<|vnil<|zC<|⟨i+1,by omega,by omega,?_⟩;rw[<-hst];refine wkn (fr 121 [(8,bD Ac),(9,Ai 1 0 (Aa L) (Aa L*2) Ab),(13,Ak 2 0),(14,Ai 3 0 (Aa K) (Aa K*3) Ab),(15,iD ↑(rkN f v)),(17,iD ↑(i+1)),(18,Ai 4 0 (Aa V) (Aa V) Ab),(19,iD (Aa V)),(85,iD i),(86,iD ↑(i+1)),(94,bD (decide ((Aa V:Int)<(Aa V:Int)))),(110,Ai 1 0 (Aa L) (Aa L*2) Ab),(111,iD i),(112,Ai 4 0 (Aa V) (Aa V) Ab),(113,Ak 1 (i*2)),(114,Ak 1 (i*2))]) [bK (bA f),AA (A6 C (i*2) (Ae (nsD (Ad (rkN f) V)) (Aa V))) (94:TypeId) 2 Ab Ac AB,iK (iA λ(w:Nat)=>if w<v/\f w=Ab then rkN f w else 0),rvK (zL K),AA (nsD (Ad (rkN f) V)) (3:TypeId) 1 Ab Ab AB] ?_;refine vk 4
 obtain rfl:i=L.length:=by omega
 have hall:rnL f L L.length=L.map (renR f):=by simp[rnL]
 rw[hall]at hrl⊢;have hft:=zEm zBg (L.map (renR f)) L.length hrl;by_cases hz:0<J.length
 ·rw[decide_eq_true hz];refine zB<|vAu<|vF ((Aa L:Int)<↑(Aa L))<|vZ2<|vA<|vrT 3<|vcl [iD ↑(rkN f v),Ae (Ax (Aa K*3)<|Ah 0<|Ar<|rvK<|zL K)<|Aa K,Ae (Ax (Aa L*2)<|Ah 0<|Ar<|raB<|Am raN<|Ad (renR f) L)<|Aa L] [iD ↑(rkN f v),Ae (zL K)<|Aa K,Ae (Am raN<|Ad (renR f) L)<|Aa L] (A5 (by simp(disch:=omega) only[AD,hft,hkt])) (by exact hjn)<|veT<|zJ<|vre (True) (Aj<|Bt<|decide ((Aa J:Int)>(0:Int))) (.inr rfl) ?_;rw[decide_eq_true (by omega)]
 rw[decide_eq_false hz];refine zB<|vAu<|vF ((Aa L:Int)<↑(Aa L))<|vZ2<|vA<|vrT 3<|vcl [iD ↑(rkN f v),Ae (Ax (Aa K*3)<|Ah 0<|Ar<|rvK<|zL K)<|Aa K,Ae (Ax (Aa L*2)<|Ah 0<|Ar<|raB<|Am raN<|Ad (renR f) L)<|Aa L] [iD ↑(rkN f v),Ae (zL K)<|Aa K,Ae (Am raN<|Ad (renR f) L)<|Aa L] (A5 (by simp(disch:=omega) only[AD,hft,hkt])) (by exact hjn)<|veT<|zJ<|vre (True) (Aj<|Bt<|decide ((Aa J:Int)>(0:Int))) (.inr rfl) ?_;rw[decide_eq_false (by omega)]
theorem allows_al(s:Nat)(hs32:s<4294967296):Pure Ao 46 [iD (n:Nat), .row (A.flatMap raN) A.length,iD (s:Nat),rowV p] [] (bD (alB (A.map (zAw p)) s)):=by
 have h:=allowsS_c hA hn hl5 hv8 hlt hp hs s hs32;have h2:=zNt (A:=A) (n:=n) (p:=p) s hlt hp hA.e;rwa[show decide (0<(alwS (zC8 A s) n p).length)=alB (A.map (zAw p)) s by
  rw[Bj,<-h2,decide_eq_true_eq];exact List.length_pos_iff]at h
end
section
variable {A : List (List Nat × List Rw)} {n : Nat} {p : Rw} (hA : RaOk A) (hn : n ≤ 8) (hl5 : A.length ≤ 5) (hv8 : ∀ a ∈ A, a.1.length ≤ 32) (hlt : ∀ a ∈ A, ∀ v ∈ a.1, v < n) (hp : p.length ≤ n) (hs : Sho p)
include hA hn hl5 hv8 hlt hp hs
set_option maxHeartbeats 4000000 in
theorem minimal_c(s:Nat)(hs32:s<4294967296):Pure Ao 19 [iD (n:Nat), .row (A.flatMap raN) A.length,iD (s:Nat),rowV p] [] (bD (minB (alB (A.map (zAw p))) A.length s)):=by
 have hal:=λt ht=>allows_al hA hn hl5 hv8 hlt hp hs t ht;generalize alB (A.map (zAw p))=al at*;have h0:=hal s hs32;cases hb:al s;case true=>
  have e:minB al A.length s=false:=by unfold minB;rw[hb];rfl
  rw[hb]at h0;rw[e];refine zH zAg mixed Tryz.func19 rfl<|vAu<|zB<|vA<|vrT 4<|vc (h0)<|veT<|vt<|vAe<|zJ<|zF<|vret (True)<|.inr rfl
 rw[hb]at h0;have e:minB al A.length s=(Aw A.length).all λi=>!s.testBit i||al (dif s (2^i)):=by unfold minB;rw[hb];rfl
 rw[e];refine zH zAg mixed Tryz.func19 rfl<|vAu<|zB<|vA<|vrT 4<|vc (h0)<|veT<|vf<|vK<|zB<|vAe<|zG<|zP (λ(i:Nat)=>fr 37 [(0,iD (n:Int)),(1,Ae (Am raN A)<|Aa A),(2,iD (s:Int)),(3,rowV p),(9,iD (i:Int))]) (λ(i:Nat)=>[]) (λi=>A.length-i) (λ(i:Nat)=>i<=A.length/\(Aw i).all (λi=>!s.testBit i||al (dif s (2^i)))=Ab) 0 ?_ ?_ ?_
 ·exact⟨by omega,rfl⟩
 ·refine vk 0
 rintro i ⟨i1,i2⟩;rcases Ay i A.length with i3|i3
 ·have w1:=shr64 s (v:=i) (by omega);have w2:=tmod2 (s>>>i);have w3:=bit64 s i;have hst:(Aw (i+1)).all (λi=>!s.testBit i||al (dif s (2^i)))=(!s.testBit i||al (dif s (2^i))):=by
   rw[A3,List.all_append,i2,Bs];simp
  cases hbi:s.testBit i
  ·rw[hbi]at w3 hst;refine zB<|vAu<|vT ((i:Int)<↑(Aa A))<|vKB<|vA<|vr 3 ((0:Int)<=(i:Int))<|vs 23 (iD<|AJ (s:Int) ((2:Int)^min (An (i:Int)) 64)) (iD ↑(s>>>i)) (hd:=by simp(disch:=omega) only[Au,w1])<|vr 2 ((2:Int)≠(0:Int)/\True)<|vs 25 (bD ((↑(s>>>i%2):Int)==(1:Int))) (bD Ac) (hd:=by simp(disch:=omega) only[w3])<|veT<|vf<|zK<|zE<|vN<|zA rfl<|vr 3 (i6 (↑i+1))<|vnil<|zC<|⟨i+1,⟨by omega,hst⟩,by omega,?_⟩;refine vk 0
  have hda:=dif_add hbi;have hdl:=zSd s (2^i);have v1:=shl64 (v:=i) (by omega);have v2:((s:Nat):Int)-((2^i:Nat):Int)=((dif s (2^i):Nat):Int):=by omega
  have h1:=hal (dif s (2^i)) (by omega);rw[hbi]at w3 hst;cases hd:al (dif s (2^i))
  ·rw[hd]at h1;have hno:(Aw A.length).all (λi=>!s.testBit i||al (dif s (2^i)))=false:=List.all_eq_false.2 ⟨i,Br.2 i3,by rw[hbi,hd];decide⟩;rw[hno];generalize dif s (2^i)=d at*;refine zB<|vAu<|vT ((i:Int)<↑(Aa A))<|vKB<|vA<|vr 3 ((0:Int)<=(i:Int))<|vs 23 (iD<|AJ (s:Int) ((2:Int)^min (An (i:Int)) 64)) (iD ↑(s>>>i)) (hd:=by simp(disch:=omega) only[Au,w1])<|vr 2 ((2:Int)≠(0:Int)/\True)<|vs 25 (bD ((↑(s>>>i%2):Int)==(1:Int))) (bD Ab) (hd:=by simp(disch:=omega) only[w3])<|vr 6 ((0:Int)<=(i:Int))<|vs 31 (iD<|Ap AO ((1:Int)*(2:Int)^min (An (i:Int)) 64)) (iD (↑((2:Nat)^i):Int)) (hd:=by simp(disch:=omega) only[Au,v1])<|vr 1 (i6 ((s:Int)-(↑((2:Nat)^i):Int)))<|vs 32 (iD ((s:Int)-(↑((2:Nat)^i):Int))) (iD d) (hd:=by simp(disch:=omega) only[v2])<|vrT 1<|vc h1<|veT<|vt<|vAe<|zJ<|zN<|zF<|zF<|zN<|zF<|vret (True)<|.inr rfl
  rw[hd]at h1 hst;generalize dif s (2^i)=d at*;refine zB<|vAu<|vT ((i:Int)<↑(Aa A))<|vKB<|vA<|vr 3 ((0:Int)<=(i:Int))<|vs 23 (iD<|AJ (s:Int) ((2:Int)^min (An (i:Int)) 64)) (iD ↑(s>>>i)) (hd:=by simp(disch:=omega) only[Au,w1])<|vr 2 ((2:Int)≠(0:Int)/\True)<|vs 25 (bD ((↑(s>>>i%2):Int)==(1:Int))) (bD Ab) (hd:=by simp(disch:=omega) only[w3])<|vr 6 ((0:Int)<=(i:Int))<|vs 31 (iD<|Ap AO ((1:Int)*(2:Int)^min (An (i:Int)) 64)) (iD (↑((2:Nat)^i):Int)) (hd:=by simp(disch:=omega) only[Au,v1])<|vr 1 (i6 ((s:Int)-(↑((2:Nat)^i):Int)))<|vs 32 (iD ((s:Int)-(↑((2:Nat)^i):Int))) (iD d) (hd:=by simp(disch:=omega) only[v2])<|vrT 1<|vc h1<|veT<|vf<|zK<|zE<|vN<|zA rfl<|vr 3 (i6 (↑i+1))<|vnil<|zC<|⟨i+1,⟨by omega,hst⟩,by omega,?_⟩;refine vk 0
 obtain rfl:i=A.length:=by omega
 rw[i2];refine zB<|vAu<|vF ((Aa A:Int)<↑(Aa A))<|vZ2<|vAe<|zJ<|vret (True)<|.inr rfl
end
theorem grt_sho{r:Rw}(h:grtR r=Ac):r.length<=8/\Sho r:=by
 unfold grtR at h;rw[Bh,decide_eq_false_iff_not,List.any_eq_false]at h;refine⟨by omega,by omega,λv hv=>?_⟩
 have:=h.2 v hv
 simp only[decide_eq_true_eq]at this;omega
def crRes(lv f:Int)(m:Nat)(al:Nat->Bool)(lev:Int)(xs:List Int):Bool:=if lv=f then Ac else if lev≠lv then Ac else okX m xs&&minB al m (setX xs)
theorem cr_c{c:Cs}(hg:c.Good)(r:Rw)(hr:(r.length:Int)=c.f)(lev:Int)(xs:List Int)(hx:xs.length<=1000):Pure Ao 18 [inpD c.n c.f c.desc c.P (c.ats c.V.length),rowV r,reaD lev xs] [] (bD (crRes (lvlZ (λi=>ansB c.n.toNat c.A (r.take i)) r.length) c.f c.V.length (alB (c.A.map (zAw (r.take (lvlZ (λi=>ansB c.n.toNat c.A (r.take i)) r.length+1).toNat)))) lev xs)):=by
 obtain⟨i1,i2,i3,i4,_⟩:=Cs.ic hg.ck;have hA:=hg.ok;have hrn:r.length<=c.n.toNat:=by omega
 have hck:=zVw c hg.s (AN _) r (by have:=hA.n8;omega);have e:wckE c c.V.length r=0:=by
  unfold wckE;rw[hg.ck,if_neg (by omega),if_neg (by omega)]
 rw[e,hg.inD]at hck;rw[hg.inD];have hlv:=zPr c.n.toNat c.A hA (c.n.toNat:Nat) (c.f.toNat:Nat) (c.desc.map bD) (c.P.map λz=>iD z) c.desc.length c.P.length r hrn;have hle:=zPq (λi=>ansB c.n.toNat c.A (r.take i)) r.length;generalize lvlZ (λi=>ansB c.n.toNat c.A (r.take i)) r.length=lv at*;unfold crRes;by_cases h1:lv=c.f
 ·rw[if_pos h1];exact crLvl_c (c.n.toNat:Nat) (c.f.toNat:Nat) _ _ _ _ c.A r lev xs lv (.inl (by omega)) hck hlv
 rw[if_neg h1];by_cases h2:lev=lv
 ·subst h2;rw[if_neg (by omega)];obtain⟨k,hk⟩:∃k:Nat,lev=(k:Int)-1:=⟨(lev+1).toNat,by omega⟩;have hk2:(lev+1).toNat=k:=by omega
  rw[hk2];subst hk;have h:=creason_c c.n.toNat c.A hA (c.n.toNat:Nat) (c.f.toNat:Nat) (c.desc.map bD) (c.P.map λz=>iD z) c.desc.length c.P.length r hrn k (by omega) (by omega) xs hx hck hlv;rw[Cs.A_len]at h;cases ho:okX c.V.length xs
  ·rw[ho,BA]at h;exact h
  rw[ho,Bs]at h;rw[minB_list _ ho];exact h
 rw[if_pos h2];exact crLvl_c (c.n.toNat:Nat) (c.f.toNat:Nat) _ _ _ _ c.A r lev xs lv (.inr h2) hck hlv
theorem listR_c(s:Nat)(hs:s<4294967296):Pure Ao 44 [iD (s:Nat)] [] (.row (itsD (memL s)) (memL s).length):=by
 refine zH zAg mixed Tryz.func44 rfl<|vAu<|vAe<|zB<|vAe<|zG<|zAl (λ(i:Nat)(l:List Int)=>fr 19 [(0,iD (s:Int)),(2,nl),(3,Ai 0 0 (Aa l) (Aa l) Ab),(4,iD (i:Int))]) (λ(i:Nat)(l:List Int)=>[intB<|itsD l]) (λi l=>32-i) (λ(i:Nat)(l:List Int)=>i<=32/\l=((Aw i).filter λi=>s.testBit i).map λi:Nat=>(i:Int)) 0 [] ?_ ?_ ?_
 ·exact⟨by omega,rfl⟩
 ·refine vk 0
 rintro i l ⟨h1,h2⟩;have hl:l.length<=32:=by
  rw[h2,Az]
  have:=Bi (λi=>s.testBit i) (Aw i)
  rw[A7]at this;omega
 have hcl:(itsD l).length=l.length:=Az ..
 rcases Ay i 32 with h3|h3
 ·have hsu:((Aw (i+1)).filter λi=>s.testBit i).map (λi:Nat=>(i:Int))=if s.testBit i then l++[(i:Int)]else l:=by
   rw[A3,A8,AY,<-h2,A9];cases s.testBit i<;>simp
  have w1:=shr64 s (v:=i) (by omega);have w2:=tmod2 (s>>>i);have w3:=bit64 s i;cases hb:s.testBit i
  ·rw[hb]at w3 hsu;rw[if_neg (by decide)]at hsu;refine zB<|vAu<|vT ((i:Int)<(32:Int))<|vKB<|vA<|vr 3 ((0:Int)<=(i:Int))<|vs 11 (iD<|AJ (s:Int) ((2:Int)^min (An (i:Int)) 64)) (iD ↑(s>>>i)) (hd:=by simp(disch:=omega) only[Au,w1])<|vr 2 ((2:Int)≠(0:Int)/\True)<|vs 13 (bD ((↑(s>>>i%2):Int)==(1:Int))) (bD Ac) (hd:=by simp(disch:=omega) only[w3])<|veT<|vf<|zK<|zE<|vN<|zA rfl<|vr 3 (i6 (↑i+1))<|vnil<|zC<|⟨i+1,l,⟨by omega,hsu.symm⟩,by omega,?_⟩;refine vk 1
  rw[hb]at w3 hsu;rw[if_pos rfl]at hsu;refine zB<|vAu<|vT ((i:Int)<(32:Int))<|vKB<|vA<|vr 3 ((0:Int)<=(i:Int))<|vs 11 (iD<|AJ (s:Int) ((2:Int)^min (An (i:Int)) 64)) (iD ↑(s>>>i)) (hd:=by simp(disch:=omega) only[Au,w1])<|vr 2 ((2:Int)≠(0:Int)/\True)<|vs 13 (bD ((↑(s>>>i%2):Int)==(1:Int))) (bD Ab) (hd:=by simp(disch:=omega) only[w3])<|veT<|vt<|zA rfl<|vr 5 (((1=1/\1<=1/\True)/\0<1/\1=1/\1<=16777216/\1<=9223372036854775807)/\AQ (intB<|itsD l)=Ab/\Aa (Ar<|intB<|itsD l)=Aa l*1/\Aa l=Aa l*1/\AL (intB<|itsD l)=3/\AM (intB<|itsD l)=1/\1=1/\0<1/\0<8/\3=3/\(Aa l+1)*8<=140737488355328/\1=1/\AR (AC<|intB<|itsD l)=Ac/\(Ac=Ac\/AS (AC<|intB<|itsD l)=Ab))<|vs 3 (Ai 0 0 (Aa l+1) ((Aa l+1)*1) Ab) (Ai 0 0 (Aa l+1) (Aa l+1) Ab) (hd:=by simp(disch:=omega) only[A1])<|vnil<|zE<|vN<|zA rfl<|vr 3 (i6 (↑i+1))<|vnil<|zC<|⟨i+1,l++[(i:Int)],⟨by omega,hsu.symm⟩,by omega,?_⟩;rw[show itsD (l++[(i:Int)])=itsD l++[iD (i:Nat)] by simp,AU,A4];refine vk 1
 obtain rfl:i=32:=by omega
 have h2:l=memL s:=h2;subst h2;have ht:(itsD (memL s)).take (memL s).length=itsD (memL s):=AI (by rw[Az];exact AN _);refine zB<|vAu<|vf<|vZ2<|vAe<|zJ<|zAu (True) (Ae (Ax (Aa<|memL s)<|Ah 0<|Ar<|intB<|itsD<|memL s)<|Aa<|memL s) (Ae (itsD<|memL s)<|Aa<|memL s) (.inr rfl) (by simp(disch:=omega) only[AD,ht]) rfl
theorem lessR_c(a b:List Int)(n m:Nat)(hn:a.length=n)(hm:b.length=m)(ha:n<=1000000000)(hb:m<=1000000000):Pure Ao 43 [.row (itsD a) n, .row (itsD b) m] [] (bD (decide (lcmp a b<0))):=by
 subst hn hm;refine zH zAg mixed Tryz.func43 rfl<|vAu<|zB<|vAe<|zG<|zP (λ(i:Nat)=>fr 41 [(0,Ae (itsD a)<|Aa a),(1,Ae (itsD b)<|Aa b),(5,iD (i:Int))]) (λi=>[]) (λi=>a.length-i) (λi=>i<=a.length/\i<=b.length/\lcmp (a.drop i) (b.drop i)=lcmp a b) 0 ?_ ?_ ?_
 ·exact⟨by omega,by omega,by rw[AD,AD]⟩
 ·refine vk 0
 rintro i ⟨k1,k2,k3⟩;rcases Ay i a.length with h1|h1
 ·rcases Ay i b.length with h2|h2
  ·have x1:=zBq a i h1;have n1:(a.map λz=>iD z)≠[]:=zAa;have x2:=zBq b i h2;have n2:(b.map λz=>iD z)≠[]:=zAa;have hl:=zRw h1 h2;rw[k3]at hl;generalize a.getD i 0=x at*;generalize b.getD i 0=y at*;rcases Int.lt_trichotomy x y with h3|h3|h3
   ·rw[if_pos h3]at hl;have e1:(x !=y)=true:=bne_iff_ne.2 (by omega);have e2:decide (x<y)=true:=decide_eq_true h3;rw[hl];refine zB<|vAs<|vew [] [(4,Ab)] (decide ((i:Int)<↑(Aa a))=Ab)<|vT ((i:Int)<↑(Aa b))<|vKB<|zB<|vd [0,1,2,4,5,6,3,7,8]<|vr 3 (ix ↑i ↑(Aa a) (itsD a≠[]))<|vp 20 i (itsD a)<|vr 3 (ix ↑i ↑(Aa b) (itsD b≠[]))<|vp 24 i (itsD b)<|vr 1 (0<Aa (Ah i<|itsD a))<|vsh 21 x1<|vr 1 (0<Aa (Ah i<|itsD b))<|vsh 25 x2<|vrT 1<|vs 26 (bD (x !=y)) (bD Ab) (hd:=by simp(disch:=omega) only[e1])<|veT<|vt<|zB<|vd [0,1,2,4,5,6,3,7,8,9]<|vr 3 (ix ↑i ↑(Aa a) (itsD a≠[]))<|vp 29 i (itsD a)<|vr 3 (ix ↑i ↑(Aa b) (itsD b≠[]))<|vp 33 i (itsD b)<|vr 1 (0<Aa (Ah i<|itsD a))<|vsh 30 x1<|vr 1 (0<Aa (Ah i<|itsD b))<|vsh 34 x2<|vrT 1<|vs 35 (bD<|decide (x<y)) (bD Ab) (hd:=by simp(disch:=omega) only[e2])<|veT<|zJ<|zN<|zF<|zF<|zN<|zF<|vret (True)<|.inr rfl
   ·subst h3;rw[if_neg (by omega),if_neg (by omega)]at hl;have e1:(x !=x)=false:=bne_self_eq_false _;refine zB<|vAs<|vew [] [(4,Ab)] (decide ((i:Int)<↑(Aa a))=Ab)<|vT ((i:Int)<↑(Aa b))<|vKB<|zB<|vd [0,1,2,4,5,6,3,7,8]<|vr 3 (ix ↑i ↑(Aa a) (itsD a≠[]))<|vp 20 i (itsD a)<|vr 3 (ix ↑i ↑(Aa b) (itsD b≠[]))<|vp 24 i (itsD b)<|vr 1 (0<Aa (Ah i<|itsD a))<|vsh 21 x1<|vr 1 (0<Aa (Ah i<|itsD b))<|vsh 25 x2<|vrT 1<|vs 26 (bD (x !=x)) (bD Ac) (hd:=by simp(disch:=omega) only[e1])<|veT<|vf<|zK<|zE<|vN<|zA rfl<|vr 3 (i6 (↑i+1))<|vnil<|zC<|⟨i+1,⟨by omega,by omega,hl.symm⟩,by omega,?_⟩;refine vk 0
   rw[if_neg (by omega),if_pos h3]at hl;have e1:(x !=y)=true:=bne_iff_ne.2 (by omega);have e2:decide (x<y)=false:=decide_eq_false (by omega);rw[hl];refine zB<|vAs<|vew [] [(4,Ab)] (decide ((i:Int)<↑(Aa a))=Ab)<|vT ((i:Int)<↑(Aa b))<|vKB<|zB<|vd [0,1,2,4,5,6,3,7,8]<|vr 3 (ix ↑i ↑(Aa a) (itsD a≠[]))<|vp 20 i (itsD a)<|vr 3 (ix ↑i ↑(Aa b) (itsD b≠[]))<|vp 24 i (itsD b)<|vr 1 (0<Aa (Ah i<|itsD a))<|vsh 21 x1<|vr 1 (0<Aa (Ah i<|itsD b))<|vsh 25 x2<|vrT 1<|vs 26 (bD (x !=y)) (bD Ab) (hd:=by simp(disch:=omega) only[e1])<|veT<|vt<|zB<|vd [0,1,2,4,5,6,3,7,8,9]<|vr 3 (ix ↑i ↑(Aa a) (itsD a≠[]))<|vp 29 i (itsD a)<|vr 3 (ix ↑i ↑(Aa b) (itsD b≠[]))<|vp 33 i (itsD b)<|vr 1 (0<Aa (Ah i<|itsD a))<|vsh 30 x1<|vr 1 (0<Aa (Ah i<|itsD b))<|vsh 34 x2<|vrT 1<|vs 35 (bD<|decide (x<y)) (bD Ac) (hd:=by simp(disch:=omega) only[e2])<|veT<|zJ<|zN<|zF<|zF<|zN<|zF<|vret (True)<|.inr rfl
  have hl:=zKk (a:=a) (b:=b) (i:=i) (.inr (by omega)) k1 k2;rw[k3,if_neg (by omega),if_pos (by omega)]at hl;have e2:decide (((a.length:Nat):Int)<(b.length:Nat))=false:=decide_eq_false (by omega);rw[hl];refine zB<|vAs<|vew [] [(4,Ab)] (decide ((i:Int)<↑(Aa a))=Ab)<|vF ((i:Int)<↑(Aa b))<|vZ2<|vA<|vrT 5<|vs 40 (bD<|decide ((Aa a:Int)<(Aa b:Int))) (bD Ac) (hd:=by simp(disch:=omega) only[e2])<|veT<|zJ<|vret (True)<|.inr rfl
 have hl:=zKk (a:=a) (b:=b) (i:=i) (.inl (by omega)) k1 k2;rw[k3]at hl;rcases Ay a.length b.length with h2|h2
 ·rw[if_pos h2]at hl;have e2:decide (((a.length:Nat):Int)<(b.length:Nat))=true:=decide_eq_true (by omega);rw[hl];refine zB<|vAs<|vew [] [(4,Ac)] (decide ((i:Int)<↑(Aa a))=Ac)<|vf<|vZ2<|vA<|vrT 5<|vs 40 (bD<|decide ((Aa a:Int)<(Aa b:Int))) (bD Ab) (hd:=by simp(disch:=omega) only[e2])<|veT<|zJ<|vret (True)<|.inr rfl
 rw[if_neg (by omega),if_neg (by omega)]at hl;have e2:decide (((a.length:Nat):Int)<(b.length:Nat))=false:=decide_eq_false (by omega);rw[hl];refine zB<|vAs<|vew [] [(4,Ac)] (decide ((i:Int)<↑(Aa a))=Ac)<|vf<|vZ2<|vA<|vrT 5<|vs 40 (bD<|decide ((Aa a:Int)<(Aa b:Int))) (bD Ac) (hd:=by simp(disch:=omega) only[e2])<|veT<|zJ<|vret (True)<|.inr rfl
theorem rbst_len(al:Nat->Bool)(m k:Nat):∀l,rbst al m k=Av l->l.length<=32:=λl hl=>zQd _ AG (λx hx=>by
 obtain⟨s,_,rfl⟩:=A2.1 hx;exact zF4 _) (λb hb=>by cases hb) l hl
theorem rbst_ne(al:Nat->Bool)(m k:Nat)(hk:k<2^32):∀l,rbst al m k=Av l->0<l.length:=λl hl=>zXt _ AG (λx hx=>by
 obtain⟨s,hs,rfl⟩:=A2.1 hx
 have:=Br.1 (Bx.1 hs).1
 exact zTj (by omega) (by omega)) (λb hb=>by cases hb) l hl
section
variable {A : List (List Nat × List Rw)} {n : Nat} {p : Rw} (hA : RaOk A) (hn : n ≤ 8) (hl5 : A.length ≤ 5) (hv8 : ∀ a ∈ A, a.1.length ≤ 32) (hlt : ∀ a ∈ A, ∀ v ∈ a.1, v < n) (hp : p.length ≤ n) (hs : Sho p)
include hA hn hl5 hv8 hlt hp hs
set_option maxHeartbeats 4000000 in
theorem reasonR_c:Pure Ao 16 [iD (n:Nat), .row (A.flatMap raN) A.length,rowV p] [] (resD (rbst (alB (A.map (zAw p))) A.length (2^A.length-1))):=by
 have hmn:=λs hs32=>minimal_c hA hn hl5 hv8 hlt hp hs s hs32;have hpw:2^A.length<=2^5:=Bb (by omega) hl5;have hpp:=Nat.two_pow_pos A.length;have v1:=shl64 (v:=A.length) (by omega);generalize alB (A.map (zAw p))=al at*;refine zH zAg mixed Tryz.func16 rfl<|vAu<|vAe<|zB<|vAe<|zG<|zAl (λ(k:Nat)(o:Option (List Int))=>fr 35 [(0,iD (n:Int)),(1,Ae (Am raN A)<|Aa A),(2,rowV p),(6,nl),(7,resD o),(8,iD (↑(k+1):Int))]) (λ(k:Nat)(o:Option (List Int))=>[]) (λk o=>2^A.length-k) (λ(k:Nat)(o:Option (List Int))=>k+1<=2^A.length/\o=rbst al A.length k) 0 AG ?_ ?_ ?_
 ·exact⟨by omega,rfl⟩
 ·refine vk 0
 rintro k o ⟨k1,k2⟩;rcases Ay (k+1) (2^A.length)with k3|k3
 ·have hm:=hmn (k+1) (by omega);have hst:=rbst_succ al A.length k;rw[<-k2]at hst;have hol:=rbst_len al A.length k;have hon:=rbst_ne al A.length k (by omega);rw[<-k2]at hol hon;have hli:=listR_c (k+1) (by omega);have hml:=zF4 (k+1);generalize memL (k+1)=l at*;generalize 2^A.length=q at*;cases hb:minB al A.length (k+1)
  ·rw[hb]at hm hst;rw[if_neg (by decide)]at hst;refine zB<|vAs<|vr 4 ((0:Int)<=(Aa A:Int))<|vs 12 (iD<|Ap AO ((1:Int)*(2:Int)^min (An (Aa A:Int)) 64)) (iD q) (hd:=by simp(disch:=omega) only[Au,v1])<|veT<|vT ((↑(k+1):Int)<↑q)<|vKB<|vA<|vrT 4<|vc hm<|veT<|vf<|zK<|zE<|vN<|zA rfl<|vr 3 (i6 (↑(k+1)+1))<|vnil<|zC<|⟨k+1,o,⟨by omega,hst.symm⟩,by omega,?_⟩;refine vk 0
  rw[hb]at hm hst;rw[if_pos rfl]at hst;cases o with
  |none=>
   refine zB<|vAs<|vr 4 ((0:Int)<=(Aa A:Int))<|vs 12 (iD<|Ap AO ((1:Int)*(2:Int)^min (An (Aa A:Int)) 64)) (iD q) (hd:=by simp(disch:=omega) only[Au,v1])<|veT<|vT ((↑(k+1):Int)<↑q)<|vKB<|vA<|vrT 4<|vc hm<|veT<|vt<|zA rfl<|vrT 1<|vc hli<|vrT 1<|vnil<|zE<|vN<|zA rfl<|vr 3 (i6 (↑(k+1)+1))<|vnil<|zC<|⟨k+1,Av l,⟨by omega,hst.symm⟩,by omega,?_⟩;refine vk 0
  | some c=>
   have hcl:=hol c rfl;have hcn:=hon c rfl;have hls:=lessR_c l c _ _ rfl rfl (by omega) (by omega);have hst:rbst al A.length (k+1)=if lcmp l c<0 then Av l else Av c:=hst
   have hz:(((c.length:Nat):Int)==0)=false:=beq_eq_false_iff_ne.2 (by omega);by_cases hlc:lcmp l c<0
   ·rw[decide_eq_true hlc]at hls;rw[if_pos hlc]at hst;refine zB<|vAs<|vr 4 ((0:Int)<=(Aa A:Int))<|vs 12 (iD<|Ap AO ((1:Int)*(2:Int)^min (An (Aa A:Int)) 64)) (iD q) (hd:=by simp(disch:=omega) only[Au,v1])<|veT<|vT ((↑(k+1):Int)<↑q)<|vKB<|vA<|vrT 4<|vc hm<|vw 6 [] [(9,Ac)] (True/\((Aa (Option.getD (Av c) []):Int)==(0:Int))=Ac)<|vc hli<|vrT 1<|vc hls<|veT<|vt<|zA rfl<|vrT 1<|vc hli<|vrT 1<|vnil<|zE<|vN<|zA rfl<|vr 3 (i6 (↑(k+1)+1))<|vnil<|zC<|⟨k+1,Av l,⟨by omega,hst.symm⟩,by omega,?_⟩;refine vk 0
   rw[decide_eq_false hlc]at hls;rw[if_neg hlc]at hst;refine zB<|vAs<|vr 4 ((0:Int)<=(Aa A:Int))<|vs 12 (iD<|Ap AO ((1:Int)*(2:Int)^min (An (Aa A:Int)) 64)) (iD q) (hd:=by simp(disch:=omega) only[Au,v1])<|veT<|vT ((↑(k+1):Int)<↑q)<|vKB<|vA<|vrT 4<|vc hm<|vw 6 [] [(9,Ac)] (True/\((Aa (Option.getD (Av c) []):Int)==(0:Int))=Ac)<|vc hli<|vrT 1<|vc hls<|veT<|vf<|zK<|zE<|vN<|zA rfl<|vr 3 (i6 (↑(k+1)+1))<|vnil<|zC<|⟨k+1,Av c,⟨by omega,hst.symm⟩,by omega,?_⟩;refine vk 0
 have e:2^A.length-1=k:=by omega
 rw[e,<-k2];have e2:decide (((k+1:Nat):Int)<((2^A.length:Nat):Int))=false:=decide_eq_false (by omega);refine zB<|vAs<|vr 4 ((0:Int)<=(Aa A:Int))<|vs 12 (iD<|Ap AO ((1:Int)*(2:Int)^min (An (Aa A:Int)) 64)) (iD (↑((2:Nat)^Aa A):Int)) (hd:=by simp(disch:=omega) only[Au,v1])<|vrT 1<|vs 13 (bD<|decide ((↑(k+1):Int)<(↑((2:Nat)^Aa A):Int))) (bD Ac) (hd:=by simp(disch:=omega) only[e2])<|veT<|vf<|vZ2<|vAe<|zJ<|vret (True)<|.inr rfl
end
theorem wnBad2_c(n f:Int)(desc:List Bool)(P:List Int)(ats:List At)(r:Rw)(e:Int)(he:e≠0)(hck:Pure Ao 33 [inpD n f desc P ats,rowV r] [] (iD e)):Pure Ao 10 [inpD n f desc P ats,rowV r] [] (.tup [.agg [iD 0, .row [] 0],iD e]):=by
 refine zH zAg mixed Tryz.func10 rfl<|vAu<|zB<|vA<|vr 2 (5<=5)<|vc (hck)<|veT<|vAe<|zDo (t:=e !=(0:Int)) (by kernel_rfl) (by simpa using by omega) ?_;refine vA<|ve ((True/\Ab=Ab)/\Ac=Ac/\Ab=Ab/\2=2/\2<=2)<|zJ<|zF<|vret (2<=2)<|.inr rfl
theorem wnot_c{c:Cs}(hg:c.Good)(r:Rw)(hr:(r.length:Int)=c.f):Pure Ao 10 [inpD c.n c.f c.desc c.P (c.ats c.V.length),rowV r] [] (if lvlZ (λi=>ansB c.n.toNat c.A (r.take i)) r.length=c.f then .tup [.agg [iD 0, .row [] 0],iD 17]else .tup [.agg [iD (lvlZ (λi=>ansB c.n.toNat c.A (r.take i)) r.length),resD (zJk (c.A.map (zAw (r.take (lvlZ (λi=>ansB c.n.toNat c.A (r.take i)) r.length+1).toNat))))],iD 0]):=by
 obtain⟨i1,i2,i3,i4,_⟩:=Cs.ic hg.ck;have hA:=hg.ok;have hrn:r.length<=c.n.toNat:=by omega
 have hck:=zVw c hg.s (AN _) r (by have:=hA.n8;omega);have e:wckE c c.V.length r=0:=by
  unfold wckE;rw[hg.ck,if_neg (by omega),if_neg (by omega)]
 rw[e,hg.inD]at hck;rw[hg.inD];have hlv:=zPr c.n.toNat c.A hA (c.n.toNat:Nat) (c.f.toNat:Nat) (c.desc.map bD) (c.P.map λz=>iD z) c.desc.length c.P.length r hrn;have hle:=zPq (λi=>ansB c.n.toNat c.A (r.take i)) r.length;generalize lvlZ (λi=>ansB c.n.toNat c.A (r.take i)) r.length=lv at*;by_cases h1:lv=c.f
 ·rw[if_pos h1];have h2:lv=(c.f.toNat:Nat):=by omega
  rw[h2]at hlv;exact wnYes_c c.n.toNat (c.f.toNat:Nat) _ _ _ _ c.A r hck hlv
 rw[if_neg h1];obtain⟨k,hk⟩:∃k:Nat,lv=(k:Int)-1:=⟨(lv+1).toNat,by omega⟩;have hk2:(lv+1).toNat=k:=by omega
 rw[hk2];subst hk;exact wn_c c.n.toNat (c.f.toNat:Nat) (c.desc.map bD) (c.P.map λz=>iD z) c.desc.length c.P.length c.A r hA hrn k (by omega) (by omega) hck hlv
set_option maxHeartbeats 16000000 in
theorem zR7(c:Cs)(h:c.Small)(ht:c.Typ)(r:Rw)(hr:r.length<=2000000)(hs:∀v∈r,v.str.length<=2000000):Pure Ao 4 [.agg (csC c),rowV r] [] (bD Ab):=by
 obtain⟨m,ok,e,hm,hok,hw⟩:=wrong_c c h r hr hs;have haw:=awake50_c;cases ok;case false=>
  generalize c.ats m=ats at*;refine zH zAg mixed Bv rfl<|vAu<|vA<|vr 2 (6<=6)<|vc (hw)<|ve (0<3/\1<3/\2<3/\Ac=Ac/\Ab=Ab/\5=5/\5<=5)<|zB<|vAe<|vt<|vA<|vc (haw)<|veT<|zJ<|zF<|vret (True)<|.inr rfl
 obtain⟨rfl,q2,q3,q4,q5,q6⟩:=hok rfl;obtain⟨hr8,hsh⟩:=grt_sho q5;have hml:c.V.length<=5:=q4.V;have hck:=zVw c h (AN _) r hr;rw[<-q6]at hck;have hlen:=Cs.ats_len c c.V.length;by_cases he:e=0;case neg=>
  have hwn:=wnBad2_c c.n c.f c.desc c.P (c.ats c.V.length) r e he hck;generalize c.ats c.V.length=ats at*;have e1:(e !=0)=true:=bne_iff_ne.2 he;have e2:(e==e)=true:=beq_self_eq_true _;refine zH zAg mixed Bv rfl<|vAu<|vA<|vr 2 (6<=6)<|vc (hw)<|ve (0<3/\1<3/\2<3/\Ac=Ac/\Ab=Ab/\5=5/\5<=5)<|zB<|vAe<|vf<|vK<|vA<|vr 2 (5<=5)<|vc (hwn)<|ve (0<2/\1<2/\Ac=Ac/\Ab=Ab/\2=2/\2<=2)<|zB<|vA<|vrT 2<|vs 30 (bD (e !=(0:Int))) (bD Ab) (hd:=by simp(disch:=omega) only[e1])<|veT<|vt<|vA<|vrT 3<|vs 33 (bD (e==e)) (bD Ab) (hd:=by simp(disch:=omega) only[e2])<|vr 12 (True/\0<2/\True/\True/\0<1/\True)<|vc (haw)<|veT<|zJ<|zF<|vret (True)<|.inr rfl
 subst he;have q6:=q6.symm;unfold wckE at q6;have h1:icE c.n c.f c.desc.length c.P (c.ats c.V.length)=0:=by
  apply BG;intro hh;rw[if_pos hh]at q6;exact hh q6
 have hf:(r.length:Int)=c.f:=by
  rw[h1,if_neg (by omega)]at q6;apply BG;intro hh;rw[if_pos hh]at q6;cases q6
 have hg:c.Good:=⟨h,q2,q3,h1,q4,ht⟩;have hwn:=wnot_c hg r hf;have hcr:=λlev xs hx=>cr_c hg r hf lev xs hx;have hA:=hg.ok;obtain⟨g1,g2,g3,g4,_⟩:=Cs.ic hg.ck;have hrn:r.length<=c.n.toNat:=by omega
 have hcn:c.n=(c.n.toNat:Nat):=by omega
 have hatD:=hg.atD;have hra:=hA.ra;have hn8:=hA.n8;have hAl0:=Cs.A_len c;generalize hats:c.ats c.V.length=ats at*;have hAl:c.A.length=ats.length:=hAl0.trans hlen.symm;have hatm:Pure Ao 13 [.agg [iD c.n,iD c.f, .row (c.desc.map bD) c.desc.length, .row (c.P.map λz=>iD z) c.P.length, .row (c.A.flatMap atN) c.A.length]] [] (.row (c.A.flatMap raN) c.A.length):=atoms_c c.n c.f (c.desc.map bD) (c.P.map λz=>iD z) c.desc.length c.P.length c.A (by omega) λa ha=>⟨by have:=hA.few a ha;omega,λx hx=>by have:=hra.s a ha x hx;have:=this.1;omega⟩;rw[hAl]at hatm;rw[hatD]at hatm;have hrl:=rowL_c r _ rfl hr;have hlv:=levelR_c hra c.n.toNat r hn8 hrn hsh;rw[zPp hA hrn,hAl]at hlv;have hle:=zPq (λi=>ansB c.n.toNat c.A (r.take i)) r.length;have hrs:=λk=>reasonR_c hra (n:=c.n.toNat) (p:=r.take k) hn8 (by omega) hA.v32 hA.lt (by rw[AH];omega) ⟨by rw[AH];omega,λv hv=>hsh.2 v (Bm hv)⟩;have hno:=λ(i:Nat)=>lvlZ_no (b:=λi=>ansB c.n.toNat c.A (r.take i)) (n:=r.length) (i:=i);have hbr:=λk (hk:k<=r.length)=>best_rest hA (p:=r.take k) (by rw[AH];omega);have href:=λk=>zXu (c.A.map (zAw (r.take k))) (by rw[Az];omega);generalize lvlZ (λi=>ansB c.n.toNat c.A (r.take i)) r.length=lv at*;rw[<-hcn]at hlv;by_cases h2:lv=c.f
 ·rw[if_pos h2]at hwn;have hb1:(lv==(r.length:Nat))=true:=beq_iff_eq.2 (by omega);refine zH zAg mixed Bv rfl<|vAu<|vA<|vr 2 (6<=6)<|vc (hw)<|ve (0<3/\1<3/\2<3/\Ac=Ac/\Ab=Ab/\5=5/\5<=5)<|zB<|vAe<|vf<|vK<|vA<|vr 2 (5<=5)<|vc (hwn)<|ve (0<2/\1<2/\Ac=Ac/\Ab=Ab/\2=2/\2<=2)<|zB<|vAe<|vf<|vK<|vA<|vr 1 (5<=5)<|vc (hatm)<|veT<|zB<|vd [0,2,3,1,4,5,6]<|vr 4 (True/\0<5)<|vc (hrl)<|vc (hlv)<|veT<|zB<|vA<|vrT 4<|vs 59 (bD (lv==(Aa r:Int))) (bD Ab) (hd:=by simp(disch:=omega) only[hb1])<|veT<|vt<|vA<|vr 14 (True/\True/\0<2/\True/\True/\0<1/\True)<|vc (haw)<|veT<|zJ<|zF<|vret (True)<|.inr rfl
 rw[if_neg h2]at hwn;have hb1:(lv==(r.length:Nat))=false:=beq_eq_false_iff_ne.2 (by omega);obtain⟨k,hk⟩:∃k:Nat,lv=(k:Int)-1:=⟨(lv+1).toNat,by omega⟩;have hk2:(lv+1).toNat=k:=by omega
 rw[hk2]at hwn hcr;have hkr:k<=r.length:=by omega
 obtain⟨s,s1,s2,s3⟩:=hbr k hkr (hno k (by omega) hkr);have hrk:=hrs k;have hrf:=href k;rw[Az]at hrf;rw[<-hrf,s1]at hrk;rw[s1]at hwn;have hs32:s<2^32:=Nat.lt_of_lt_of_le s2 (Bb (by omega) (by omega));have hmx:=zF4 s;have hcr2:=hcr lv (memL s) (by omega);have hq:crRes lv c.f c.V.length (alB (c.A.map (zAw (r.take k)))) lv (memL s)=true:=by
  unfold crRes;rw[if_neg h2,if_neg (by omega),<-hAl0,okX_memL s2,zZ8 hs32,s3];rfl
 rw[hq]at hcr2;rw[hAl,<-hcn]at hrk;have hpl:(r.take k).length=k:=by rw[AH];omega
 have hct:=zDp r k;have hcl:=zAe r;have hk1:lv+1=(k:Nat):=by omega
 have hr2:=rowL_c (r.take k) k hpl (by omega);rw[show rowV (r.take k)= .row (zL (r.take k)) k by show Ae _ (r.take k).length=_;rw[hpl]]at hrk;have heq:=zLc (memL s) (memL s) _ _ rfl rfl (by omega) (by omega);rw[decide_eq_true rfl]at heq;have hb2:(lv==lv)=true:=beq_self_eq_true _;have hwn:Pure Ao 10 [inpD c.n c.f c.desc c.P ats,rowV r] [] (.tup [.agg [iD lv, .row (itsD (memL s)) (memL s).length],iD 0]):=hwn;have hrk:Pure Ao 16 [iD c.n, .row (c.A.flatMap raN) ats.length, .row (zL (r.take k)) k] [] (.row (itsD (memL s)) (memL s).length):=hrk;generalize memL s=l at*;refine zH zAg mixed Bv rfl<|vAu<|vA<|vr 2 (6<=6)<|vc (hw)<|ve (0<3/\1<3/\2<3/\Ac=Ac/\Ab=Ab/\5=5/\5<=5)<|zB<|vAe<|vf<|vK<|vA<|vr 2 (5<=5)<|vc (hwn)<|ve (0<2/\1<2/\Ac=Ac/\Ab=Ab/\2=2/\2<=2)<|zB<|vAe<|vf<|vK<|vA<|vr 1 (5<=5)<|vc (hatm)<|veT<|zB<|vd [0,2,3,1,4,5,6]<|vr 4 (True/\0<5)<|vc (hrl)<|vc (hlv)<|veT<|zB<|vA<|vrT 4<|vs 59 (bD (lv==(Aa r:Int))) (bD Ac) (hd:=by simp(disch:=omega) only[hb1])<|veT<|vf<|vK<|zB<|vd [0,2,3,4,5,6,1,7,8,9]<|vr 5 (True/\i6 (lv+(1:Int)))<|vs 81 (iD (lv+(1:Int))) (iD (k:Int)) (hd:=by simp(disch:=omega) only[hk1])<|vr 1 (True/\(0:Int)<=(k:Int)/\True/\0<3/\0<=An (k:Int)/\An (k:Int)<=Aa r/\An (k:Int)=An (k:Int))<|vs 82 (Ae (Ax ((An (k:Int)-0)*3)<|Ah 0<|zL r) (An (k:Int)-0)) (Ae (zL<|Ax k r) k) (hd:=by simp(disch:=omega) only[Au,Bu,AD,hct])<|vr 1 (0<5)<|vc (hr2)<|vc (hrk)<|veT<|vA<|vr 7 (True/\True/\0<2/\True)<|vs 91 (bD (lv==lv)) (bD Ab) (hd:=by simp(disch:=omega) only[hb2])<|vr 5 (True/\0<1)<|vc (heq)<|vr 5 (5<=5/\2<=2)<|vc (hcr2)<|vrT 2<|vc (haw)<|veT<|zJ<|vret (True)<|.inr rfl
end
end Go.Proofs.YthmfohpkimflhaaGreatDoor
