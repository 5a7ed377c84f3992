/- Texts of this claim, joined. -/
import Derived.Test.YthmfohpkimflhaaGreatDoorT04
set_option linter.unusedVariables false
set_option linter.unusedSimpArgs false
namespace Go.Proofs.YthmfohpkimflhaaGreatDoor
open _root_.List renaming length->Aa,map->Ad,flatMap->Ai,drop->Al,take->Ax,take_of_length_le->AI,getD_eq_getElem?_getD->AK,length_map->AL,range->AM,cons_append->AP,nil_append->AQ,take_length->AR,getD->AT,all->AU,getElem?_eq_getElem->AV,drop_zero->AW,getElem?_map->AX,length_take->AZ,mem_map->A0,map_append->A2,mem_cons->A6,mem_flatMap->A_,length_append->Ba,getElem?_range->Bb,Pairwise->Bc,getElem?_eq_none->Bd,mem_of_mem_take->Bf,idxOf_lt_length_iff->Bh,getElem_idxOf->Bi,eq_nil_of_length_eq_zero->Bj
open _root_.Bool renaming true->Ab,false->Ac,or_eq_false_iff->A7
open D renaming row->Ae,val->Ak,own->Am,osl->Ao,agg->Ay,ptr->AA
open IntKind renaming u32->Af,i64->Aq,wrap->Au
open _root_.BitVec renaming ofInt->Ag,toNat->Ar
open Value renaming int->Ah,string->AC
open _root_.Go.Proofs.Tryz renaming prog->Aj,func8->A1,func6->A3
open _root_.Inhabited renaming default->An
open _root_.Option renaming some->Ap
open _root_.Int renaming toNat->As,toNat_natCast->Av,fdiv->A9
open Bk renaming mk->Aw,cells->AB,kd->AO
open _root_.Nat renaming lt_or_ge->Az,le_refl->AY,min_eq_left->A5,pow_le_pow_right->Bg
open _root_.Prod renaming fst->AD
open Kd renaming plain->AE,isMap->A8
open TypeInfo renaming desc->AF,mk->AG
open TypeDesc renaming int->AH
open LeL renaming refl->AJ,cons->A4
open Va renaming mk->AN
open Cs renaming desc->AS
open _root_.Classical renaming byContradiction->Bl
open Go.RowKit
theorem rcmp_one(a b:Va):rcmp [a] [b]=vcmp a b:=by
 unfold rcmp;split
 ·rename_i h;rw[h];rfl
 rfl
theorem valF_asc(A:List (List Nat×List Rw))(v:Nat):(valF A v).Pairwise λa b=>vcmp a b<0:=by
 unfold valF;split
 ·exact Bc.nil
 rename_i b hf;obtain⟨h1,_,_,h4⟩:=zM2 [b.1.idxOf v] b.2;refine List.pairwise_map.2 (h1.imp_of_mem λ{x y} hx hy h=>?_);have lx:=h4 x hx;have ly:=h4 y hy;match x,y,lx,ly with
 |[p],[q],_,_=>rw[rcmp_one]at h;exact h
theorem zLu{A:List (List Nat×List Rw)}{vf:Nat->List Va}:∀(m:Nat)(known z:Rw),z∈zA4 A vf m known->z.take known.length=known
 |0,known,z,h=>by
  unfold zA4 at h;split at h
  ·rw[List.mem_singleton.1 h];exact AR
  cases h
 | m+1,known,z,h=>by
  unfold zA4 at h;split at h
  ·obtain⟨v,_,hz⟩:=A_.1 h
   have:=zLu m (known++[v]) z hz
   have h2:=congrArg (Ax known.length) this;rw[List.take_take,List.take_append_of_le_length (AY _),AR,Ba,A5 (by simp)]at h2;exact h2
  cases h
theorem zLv{A:List (List Nat×List Rw)}{vf:Nat->List Va}:∀(m:Nat)(known z:Rw),z∈zA4 A vf m known->z.length=known.length+m
 |0,known,z,h=>by
  unfold zA4 at h;split at h
  ·rw[List.mem_singleton.1 h];rfl
  cases h
 | m+1,known,z,h=>by
  unfold zA4 at h;split at h
  ·obtain⟨v,_,hz⟩:=A_.1 h
   have:=zLv m (known++[v]) z hz
   rw[this,Ba];simp;omega
  cases h
theorem zRl{A:List (List Nat×List Rw)}:∀(m:Nat)(known:Rw),Rsc (zA4 A (valF A) m known)
 |0,known=>by
  unfold zA4 Rsc;split
  ·exact List.pairwise_singleton _ _
  exact Bc.nil
 | m+1,known=>by
  unfold zA4 Rsc;split
  ·refine List.pairwise_flatMap.2 ⟨λv _=>zRl m _,(valF_asc A known.length).imp λ{a b} h x hx y hy=>?_⟩;have hx1:=zLu m (known++[a]) x hx;have hy1:=zLu m (known++[b]) y hy;have lx:=zLv m (known++[a]) x hx;have ly:=zLv m (known++[b]) y hy;have hl:∀w:Va,(known++[w]).length=known.length+1:=λw=>by simp
   rw[hl]at hx1 hy1 lx ly;have key:∀(x:Rw)(a:Va),known.length<x.length->x.take (known.length+1)=known++[a]->x.take known.length=known/\x.getD known.length An=a:=λx a hlt e=>by
    rw[List.take_succ_eq_append_getElem hlt]at e;obtain⟨e1,e2⟩:=List.append_inj e (by rw[AZ];omega);refine⟨e1,?_⟩;rw[AK,AV hlt];simpa using e2
   obtain⟨p1,p2⟩:=key x a (by omega) hx1;obtain⟨q1,q2⟩:=key y b (by omega) hy1;rw[rcmp_at known.length x y (by omega) (by omega) (by rw[p1,q1]) (by rw[p2,q2];omega),p2,q2];exact h
  exact Bc.nil
theorem join_head{n:Nat}{A:List (List Nat×List Rw)}(h:AtOk n A){r y:Rw}(hr:r.length<=n)(hy:FirB n A r y)(hn:y.length=n):∃J,zA4 A (valF A) (n-r.length) r=y::J:=by
 obtain⟨z,z1,z2,z3⟩:=hy.a;have e:z=y:=by
  rw[<-z2,AI (by omega)]
 subst e;have hmem:=(zGc h hr z).2 ⟨z1,hy.t,z3⟩;have hs:=zRl (A:=A) (n-r.length) r;have hall:=λx=>zGc h hr x;generalize zA4 A (valF A) (n-r.length) r=J at*;match J,hmem,hs,hall with
 | x::J,hmem,hs,hall=>
  obtain⟨x1,x2,x3⟩:=(hall x).1 (List.mem_cons_self ..);rcases A6.1 hmem with e|hm
  ·exact⟨J,by rw[e]⟩
  have h1:=(List.pairwise_cons.1 hs).1 z hm;have h2:=hy.m x x1 x3 x2;rw[AI (by omega)]at h2;rcases h2 with h2|h2
  ·exact⟨J,by rw[h2]⟩
  have:=(zA3 x z).2.2
  omega
theorem join_none{n:Nat}{A:List (List Nat×List Rw)}(h:AtOk n A){r:Rw}(hr:r.length<=n)(hy:¬Ans n A r):zA4 A (valF A) (n-r.length) r=[]:=by
 cases hj:zA4 A (valF A) (n-r.length) r with
 |nil=>rfl
 |cons x J=>
  have:=(zGc h hr x).1 (by rw[hj];exact List.mem_cons_self ..)
  exact absurd ⟨x,this⟩ hy
section
attribute [local irreducible] seqW awp zW zY zR Weak updS zZ retL Pure Acts rP setP setQ cP nP fr
set_option maxRecDepth 4096
theorem lfAll_c(n:Int)(ats:List At)(h0:0<=n)(hn:n<=32)(hl:∀a∈ats,a.V.length<=2000000):Pure Aj 37 [iD n, .row (ats.flatMap atC) ats.length] [] (iD (lfE n ats)):=by
 obtain⟨k,rfl⟩:∃k:Nat,n=(k:Int):=⟨n.toNat,by omega⟩;grind [lfE,ats,lfMany_c,Av,lfCheck_c]
theorem Cs.ats_v{c:Cs}(h:c.Small){m:Nat}(hm:m<=c.V.length):∀a∈c.ats m,a.V.length<=2000000:=λa ha=>by
 obtain⟨i,hi,rfl⟩:=A0.1 ha;have hi:=List.mem_range.1 hi;refine h.v _ ?_;show c.V.getD i []∈c.V;rw[AK,AV (by omega)];exact List.getElem_mem _
theorem zJk(c:Cs)(h:c.Small){m:Nat}(hm:m<=c.V.length):Pure Aj 11 [inpD c.n c.f c.desc c.P (c.ats m)] [] (iD (icE c.n c.f c.desc.length c.P (c.ats m))):=by
 have hv:=Cs.ats_v h hm;have hV:=h.V;exact icheck_c c.n c.f c.desc c.P (c.ats m) h.d h.P (by rw[Cs.ats_len];omega) hv λh0 h1=>lfAll_c c.n _ h0 h1 hv
theorem valid_c(c:Cs)(h:c.Small):∃(m:Nat)(ok:Bool),m<=c.V.length/\(ok=Ab↔c.V.length=c.R.length/\(∀i,i<c.V.length->c.err i=0)/\icE c.n c.f c.desc.length c.P (c.ats c.V.length)=0)/\(ok=Ab->m=c.V.length)/\
  Pure Aj 32 [.agg (csC c)] [] (.tup [inpD c.n c.f c.desc c.P (c.ats m),bD ok]):=by
 obtain⟨m,ok,h1,h2,h3,h4,h5⟩:=make_c c h;have hck:=zJk c h h1;cases ok
 ·refine⟨m,Ac,h1,⟨λhh=>(by cases hh),λhh=>?_⟩,λhh=>(by cases hh),?_⟩
  ·grind
  generalize c.ats m=ats at*;refine zH zBx mixed Tryz.func32 rfl<|vAu<|vA<|vr 1 (6<=6)<|vc (h5)<|ve (0<2/\1<2/\Ac=Ac/\Ab=Ab/\5=5/\5<=5)<|zB<|vd [1,2,0,3,4,5,6,7,8]<|ve (5<=5/\Ac=Ac/\Ab=Ab/\5=5/\5<=5)<|zJ<|vret (5<=5)<|.inr rfl
 have hm:=h4 rfl;obtain⟨q1,q2⟩:=h3.1 rfl;by_cases hz:icE c.n c.f c.desc.length c.P (c.ats m)=0
 ·refine⟨m,Ab,h1,⟨λ_=>⟨q1,q2,hm▸hz⟩,λ_=>rfl⟩,λ_=>hm,?_⟩;rw[hz]at hck;generalize c.ats m=ats at*;refine zH zBx mixed Tryz.func32 rfl<|vAu<|vA<|vr 1 (6<=6)<|vca [Ay [iD<|Cs.n c,iD<|Cs.f c,Ae (Ad bD<|AS c)<|Aa<|AS c,Ae (Ad (λ(z:Int)=>iD z)<|Cs.P c)<|Aa<|Cs.P c,Ae (Ad zBj<|Cs.V c)<|Aa<|Cs.V c,Ae (Ad zB7<|Cs.R c)<|Aa<|Cs.R c]] (by(first|exact h5|exact hck))<|ve (0<2/\1<2/\Ac=Ac/\Ab=Ab/\5=5/\5<=5)<|zB<|vd [1,2,0,3,4,5,6,7,8]<|vr 4 (5<=5/\5<=5)<|vca [Ay [iD<|Cs.n c,iD<|Cs.f c,Ae (Ad bD<|AS c)<|Aa<|AS c,Ae (Ad (λ(z:Int)=>iD z)<|Cs.P c)<|Aa<|Cs.P c,Ae (Ai atC ats)<|Aa ats]] (by(first|exact h5|exact hck))<|ve (True/\Ac=Ac/\Ab=Ab/\5=5/\5<=5)<|zJ<|vret (5<=5)<|.inr rfl
 refine⟨m,Ac,h1,⟨λhh=>(by cases hh),λhh=>absurd (hm▸hh.2.2) hz⟩,λhh=>(by cases hh),?_⟩;generalize icE c.n c.f c.desc.length c.P (c.ats m)=e at*;generalize c.ats m=ats at*;have hze:(e==0)=false:=by simpa using hz
 refine zH zBx mixed Tryz.func32 rfl<|vAu<|vA<|vr 1 (6<=6)<|vca [Ay [iD<|Cs.n c,iD<|Cs.f c,Ae (Ad bD<|AS c)<|Aa<|AS c,Ae (Ad (λ(z:Int)=>iD z)<|Cs.P c)<|Aa<|Cs.P c,Ae (Ad zBj<|Cs.V c)<|Aa<|Cs.V c,Ae (Ad zB7<|Cs.R c)<|Aa<|Cs.R c]] (by(first|exact h5|exact hck))<|ve (0<2/\1<2/\Ac=Ac/\Ab=Ab/\5=5/\5<=5)<|zB<|vd [1,2,0,3,4,5,6,7,8]<|vr 4 (5<=5/\5<=5)<|vca [Ay [iD<|Cs.n c,iD<|Cs.f c,Ae (Ad bD<|AS c)<|Aa<|AS c,Ae (Ad (λ(z:Int)=>iD z)<|Cs.P c)<|Aa<|Cs.P c,Ae (Ai atC ats)<|Aa ats]] (by(first|exact h5|exact hck))<|vrT 1<|vs 16 (bD (e==(0:Int))) (bD Ac)<|ve (Ac=Ac/\Ab=Ab/\5=5/\5<=5)<|zJ<|vret (5<=5)<|.inr rfl
def wckE(c:Cs)(m:Nat)(r:Rw):Int:=if icE c.n c.f c.desc.length c.P (c.ats m)≠0 then icE c.n c.f c.desc.length c.P (c.ats m)else if(r.length:Int)≠c.f then 6 else 0
theorem wchk_c(c:Cs)(h:c.Small){m:Nat}(hm:m<=c.V.length)(r:Rw)(hr:r.length<=2000000):Pure Aj 33 [inpD c.n c.f c.desc c.P (c.ats m),rowV r] [] (iD (wckE c m r)):=by
 have hck:=zJk c h hm;unfold wckE;generalize icE c.n c.f c.desc.length c.P (c.ats m)=e at*;generalize c.ats m=ats at*;by_cases he:e=0
 ·subst he;rw[if_neg (by omega)];by_cases hf:(r.length:Int)=c.f
  ·rw[if_neg (by omega)];have h2:(((r.length:Nat):Int)!=c.f)=false:=by rw[hf];exact bne_self_eq_false _
   refine zH zBx mixed Tryz.func33 rfl<|vAu<|zB<|vA<|vr 1 (5<=5)<|vc (hck)<|veT<|vAe<|vf<|vK<|zB<|vA<|vr 5 (True/\0<4/\True)<|vs 15 (bD ((Aa r:Int)!=Cs.f c)) (bD Ac) (hd:=by simp(disch:=omega) only[h2])<|veT<|vf<|vK<|vAe<|zJ<|vret (True)<|.inr rfl
  rw[if_pos hf];have h2:(((r.length:Nat):Int)!=c.f)=true:=bne_iff_ne.2 hf;refine zH zBx mixed Tryz.func33 rfl<|vAu<|zB<|vA<|vr 1 (5<=5)<|vc (hck)<|veT<|vAe<|vf<|vK<|zB<|vA<|vr 5 (True/\0<4/\True)<|vs 15 (bD ((Aa r:Int)!=Cs.f c)) (bD Ab) (hd:=by simp(disch:=omega) only[h2])<|veT<|vt<|vAe<|zJ<|zG<|vret (True)<|.inr rfl
 rw[if_pos he];have h2:(e !=0)=true:=bne_iff_ne.2 he;refine zH zBx mixed Tryz.func33 rfl<|vAu<|zB<|vA<|vr 1 (5<=5)<|vc (hck)<|veT<|vA<|vrT 2<|vs 9 (bD (e !=(0:Int))) (bD Ab) (hd:=by simp(disch:=omega) only[h2])<|veT<|vt<|vAe<|zJ<|zG<|vret (True)<|.inr rfl
section
variable (n f : Int) (desc : List Bool) (P : List Int) (ats : List At) (cs : D) (r : Rw)
abbrev cs6(n f:Int)(a:List D)(b:Nat)(d:List D)(e:Nat)(g:List D)(h:Nat)(i:List D)(j:Nat):D:= .agg [iD n,iD f, .row a b, .row d e, .row g h, .row i j]
variable {a d g i : List D} {b e h j : Nat}
theorem wrong1_c(hm:Pure Aj 29 [cs6 n f a b d e g h i j] [] (.tup [inpD n f desc P ats,bD Ac])):Pure Aj 8 [cs6 n f a b d e g h i j,rowV r] [] (.tup [inpD n f desc P ats,iD 0,bD Ac]):=by
 refine zH zBx mixed A1 rfl<|vAu<|vA<|vr 1 (6<=6)<|vc (hm)<|ve (0<2/\1<2/\Ac=Ac/\Ab=Ab/\5=5/\5<=5)<|zB<|vAe<|vt<|vA<|ve (5<=5/\Ac=Ac/\Ab=Ab/\5=5/\5<=5)<|zJ<|zG<|vret (5<=5)<|.inr rfl
theorem wrong2_c(hm:Pure Aj 29 [cs6 n f a b d e g h i j] [] (.tup [inpD n f desc P ats,bD Ab]))(hfw:Pure Aj 30 [cs6 n f a b d e g h i j] [] (bD Ac)):Pure Aj 8 [cs6 n f a b d e g h i j,rowV r] [] (.tup [inpD n f desc P ats,iD 0,bD Ac]):=by
 refine zH zBx mixed A1 rfl<|vAu<|vA<|vr 1 (6<=6)<|vc (hm)<|ve (0<2/\1<2/\Ac=Ac/\Ab=Ab/\5=5/\5<=5)<|zB<|vA<|vr 4 (6<=6)<|vc (hfw)<|veT<|vt<|vA<|ve (5<=5/\Ac=Ac/\Ab=Ab/\5=5/\5<=5)<|zJ<|zG<|vret (5<=5)<|.inr rfl
theorem wrong3_c(hm:Pure Aj 29 [cs6 n f a b d e g h i j] [] (.tup [inpD n f desc P ats,bD Ab]))(hfw:Pure Aj 30 [cs6 n f a b d e g h i j] [] (bD Ab))(hgr:Pure Aj 31 [.row [rowV r] 1] [] (bD Ab)):Pure Aj 8 [cs6 n f a b d e g h i j,rowV r] [] (.tup [inpD n f desc P ats,iD 0,bD Ac]):=by
 refine zH zBx mixed A1 rfl<|vAu<|vA<|vr 1 (6<=6)<|vc (hm)<|ve (0<2/\1<2/\Ac=Ac/\Ab=Ab/\5=5/\5<=5)<|zB<|vA<|vr 4 (6<=6)<|vc (hfw)<|vr 5 ((1=1/\1<=1/\True)/\0<1/\1=1/\1<=16777216/\1<=9223372036854775807)<|vc (hgr)<|veT<|vt<|vA<|ve (5<=5/\Ac=Ac/\Ab=Ab/\5=5/\5<=5)<|zJ<|zG<|vret (5<=5)<|.inr rfl
theorem wrong4_c(k:Int)(hk:((r.length:Nat):Int)<=2000000)(hm:Pure Aj 29 [cs6 n f a b d e g h i j] [] (.tup [inpD n f desc P ats,bD Ab]))(hfw:Pure Aj 30 [cs6 n f a b d e g h i j] [] (bD Ab))(hgr:Pure Aj 31 [.row [rowV r] 1] [] (bD Ac))(hck:Pure Aj 11 [inpD n f desc P ats] [] (iD k)):Pure Aj 8 [cs6 n f a b d e g h i j,rowV r] [] (.tup [inpD n f desc P ats,iD (if k≠0 then k else if(r.length:Int)≠f then 6 else 0),bD Ab]):=by
 by_cases he:k=0
 ·subst he;rw[if_neg (by omega)];by_cases hf:(r.length:Int)=f
  ·rw[if_neg (by omega)];have h2:(((r.length:Nat):Int)!=f)=false:=by rw[hf];exact bne_self_eq_false _
   refine zH zBx mixed A1 rfl<|vAu<|vA<|vr 1 (6<=6)<|vc (hm)<|ve (0<2/\1<2/\Ac=Ac/\Ab=Ab/\5=5/\5<=5)<|zB<|vA<|vr 4 (6<=6)<|vc (hfw)<|vr 5 ((1=1/\1<=1/\True)/\0<1/\1=1/\1<=16777216/\1<=9223372036854775807)<|vc (hgr)<|veT<|vf<|vK<|vA<|vr 1 (5<=5)<|vc (hck)<|veT<|zB<|vA<|vr 8 (True/\True/\0<4/\True)<|vs 37 (bD ((Aa r:Int)!=f)) (bD Ac) (hd:=by simp(disch:=omega) only[h2])<|veT<|vf<|vK<|vA<|ve (5<=5/\Ac=Ac/\Ab=Ab/\5=5/\5<=5)<|zJ<|vret (5<=5)<|.inr rfl
  rw[if_pos hf];have h2:(((r.length:Nat):Int)!=f)=true:=bne_iff_ne.2 hf;refine zH zBx mixed A1 rfl<|vAu<|vA<|vr 1 (6<=6)<|vc (hm)<|ve (0<2/\1<2/\Ac=Ac/\Ab=Ab/\5=5/\5<=5)<|zB<|vA<|vr 4 (6<=6)<|vc (hfw)<|vr 5 ((1=1/\1<=1/\True)/\0<1/\1=1/\1<=16777216/\1<=9223372036854775807)<|vc (hgr)<|veT<|vf<|vK<|vA<|vr 1 (5<=5)<|vc (hck)<|veT<|zB<|vA<|vr 8 (True/\True/\0<4/\True)<|vs 37 (bD ((Aa r:Int)!=f)) (bD Ab) (hd:=by simp(disch:=omega) only[h2])<|veT<|vt<|zA rfl<|veT<|vA<|ve (5<=5/\Ac=Ac/\Ab=Ab/\5=5/\5<=5)<|zJ<|vret (5<=5)<|.inr rfl
 rw[if_pos he];have h2:(k==0)=false:=beq_eq_false_iff_ne.2 he;refine zH zBx mixed A1 rfl<|vAu<|vA<|vr 1 (6<=6)<|vc (hm)<|ve (0<2/\1<2/\Ac=Ac/\Ab=Ab/\5=5/\5<=5)<|zB<|vA<|vr 4 (6<=6)<|vc (hfw)<|vr 5 ((1=1/\1<=1/\True)/\0<1/\1=1/\1<=16777216/\1<=9223372036854775807)<|vc (hgr)<|veT<|vf<|vK<|vA<|vr 1 (5<=5)<|vc (hck)<|veT<|zB<|vA<|vrT 2<|vs 31 (bD (k==(0:Int))) (bD Ac) (hd:=by simp(disch:=omega) only[h2])<|veT<|vf<|vK<|vA<|ve (5<=5/\Ac=Ac/\Ab=Ab/\5=5/\5<=5)<|zJ<|vret (5<=5)<|.inr rfl
end
theorem wrong_c(c:Cs)(h:c.Small)(r:Rw)(hr:r.length<=2000000)(hs:∀v∈r,v.str.length<=2000000):∃(m:Nat)(ok:Bool)(e:Int),m<=c.V.length/\(ok=Ab->m=c.V.length/\c.V.length=c.R.length/\(∀i,i<c.V.length->c.err i=0)/\c.Few/\grtR r=Ac/\e=wckE c m r)/\Pure Aj 8 [.agg (csC c),rowV r] [] (.tup [inpD c.n c.f c.desc c.P (c.ats m),iD e,bD ok]):=by
 obtain⟨m,ok,h1,_,h3,h4,h5⟩:=make_c c h;obtain⟨b,hb,hfw⟩:=few_c c h;have hgr:=great_c r hr hs;have hck:=zJk c h h1;cases ok
 ·exact⟨m,Ac,0,h1,λhh=>(by cases hh),wrong1_c _ _ _ _ _ r h5⟩
 cases b
 ·exact⟨m,Ac,0,h1,λhh=>(by cases hh),wrong2_c _ _ _ _ _ r h5 hfw⟩
 cases hg:grtR r;case true=>
  rw[hg]at hgr;exact⟨m,Ac,0,h1,λhh=>(by cases hh),wrong3_c _ _ _ _ _ r h5 hfw hgr⟩
 rw[hg]at hgr;exact⟨m,Ab,wckE c m r,h1,λ_=>⟨h4 rfl,(h3.1 rfl).1,(h3.1 rfl).2,hb rfl,rfl,rfl⟩,wrong4_c _ _ _ _ _ r _ (by omega) h5 hfw hgr hck⟩
abbrev witC(w:Nat×Rw):List D:=[iD (w.1:Nat),rowV w.2]
theorem zBw(w:Nat×Rw):(witC w).length=2:=rfl
abbrev zWi:List D:=[iD 0, .val (.slice none 0 0)]
abbrev wiK(l:List D):Bk:=⟨l,68,2,Ab,Ac, .sh⟩
abbrev vaK(l:List D)(z:Bool):Bk:=⟨l,73,3,Ab,z, .plain⟩
abbrev ipK(x0 x1 x2 x3:D)(A:List (List Nat×List Rw)):Bk:=⟨inpA x0 x1 x2 x3 A,32,0,Ac,Ac, .plain⟩
def Twy:Par:=⟨λ_=>Ac,λ_ _=>none,λ_=>Ac,λ_=>Ac,λt=>t==68⟩
theorem Twy_ok:zBl Aj Twy:=by intro t n f h;cases h
theorem filW_kill(L:List (Nat×Rw))(n k:Nat):(filG witC zWi L n).map (zA9 k)=filG witC zWi L n:=by
 have key:∀d∈filG witC zWi L n,zA9 k d=d:=λd hd=>by
  unfold filG at hd;rcases List.mem_append.1 hd with h|h
  ·obtain⟨w,_,hw⟩:=A_.1 h;have hw:d=iD (w.1:Nat)\/d=rowV w.2:=by simpa using hw
   rcases hw with rfl|rfl<;>rfl
  obtain⟨l,hl,hd⟩:=List.mem_flatten.1 h
  have:=List.eq_of_mem_replicate hl
  subst this;have hd:d=iD 0\/d=nl0:=by simpa using hd
  rcases hd with rfl|rfl<;>rfl
 conv=>rhs;rw[<-List.map_id (filG witC zWi L n)]
 exact List.map_congr_left key
def wiC(C:List D)(i:Nat)(d:D):List D:=(C.set (i*2) (iD (i:Nat))).set (i*2+1) d
theorem wiC_kill{C:List D}{k:Nat}(h:C.map (zA9 k)=C)(i:Nat)(d:D):(wiC C i d).map (zA9 k)=wiC C i (zA9 k d):=by
 unfold wiC;rw[List.map_set,List.map_set,h];rfl
theorem zY4(C:List D)(i:Nat)(d e:D):(wiC C i d).set (i*2+1) e=wiC C i e:=by
 unfold wiC;rw[List.set_set]
theorem zY5{C:List D}{i:Nat}(h:i*2+1<C.length)(d:D):(wiC C i d)[i*2+1]?=Ap d:=by
 unfold wiC;rw[List.getElem?_set_self (by rw[List.length_set];exact h)]
theorem wiC_hd{C:List D}{i:Nat}(h:i*2+1<C.length)(d:D):((wiC C i d).drop (i*2+1)).headD .unk=d:=by
 have h1:=zY5 h d;have h2:i*2+1<(wiC C i d).length:=by
  rcases Az (i*2+1) (wiC C i d).length with h2|h2
  ·exact h2
  rw[Bd h2]at h1;cases h1
 rw[AV h2]at h1;injection h1 with h1;rw[List.drop_eq_getElem_cons h2,h1];rfl
theorem wiC_len(C:List D)(i:Nat)(d:D):(wiC C i d).length=C.length:=by simp[wiC]
theorem filW_nil{L:List (Nat×Rw)}{n:Nat}(h:L.length<n):(filG witC zWi L n)[L.length*2+1]?=Ap nl0:=by
 obtain⟨m,hm⟩:∃m,n-L.length=m+1:=⟨n-L.length-1,by omega⟩;have e:(L.flatMap witC).length=L.length*2:=zEl zBw L;unfold filG;rw[hm,zEb,List.getElem?_append_right (by omega),e,show L.length*2+1-L.length*2=1 by omega];rfl
theorem wit_refs(L:List (Nat×Rw))(j:Nat):zBh j (L.flatMap witC)=false:=by
 induction L with
 |nil=>rfl
 |cons w L ih=>exact ih
theorem filW_refs(L:List (Nat×Rw))(n j:Nat):zBh j (filG witC zWi L n)=false:=by
 have h1:∀m,zBh j (repL m zWi)=false:=λm=>by
  induction m with
  |zero=>rfl
  |succ m ih=>rw[zEb];exact ih
 unfold filG;induction L with
 |nil=>exact h1 _
 | cons w L ih=>
  have ih:zBh j (L.flatMap witC++repL (n-(w::L).length) zWi)=false:=by
   have key:∀(X:List (Nat×Rw))(m:Nat),zBh j (X.flatMap witC++repL m zWi)=false:=λX m=>by
    induction X with
    |nil=>exact h1 m
    |cons x X ihx=>exact ihx
   exact key L _
  exact ih
theorem zLc{j:Nat}:∀{C:List D}(i:Nat){d:D},zBh j C=Ac->refs j d=Ac->zBh j (C.set i d)=Ac
 |[],i,d,_,_=>rfl
 |c::C,0,d,h,hd=>by
  simp only[zBh,A7]at h;simp only[List.set_cons_zero,zBh,A7];exact⟨hd,h.2⟩
 |c::C,i+1,d,h,hd=>by
  simp only[zBh,A7]at h;simp only[List.set_cons_succ,zBh,A7];exact⟨h.1,zLc i h.2 hd⟩
theorem zVm{C:List D}{j:Nat}(h:zBh j C=Ac)(i:Nat){d:D}(hd:refs j d=Ac):zBh j (wiC C i d)=false:=zLc _ (zLc _ h rfl) hd
section
variable (n : Nat) (z1 : Int) (cs2 cs3 : List D) (m2 m3 : Nat) (A : List (List Nat × List Rw)) (r : Rw)
theorem whyNo_c(h:AtOk n A)(hr:r.length<=n)(ha:¬Ans n A r)(hck:Pure Aj 33 [.agg (inpA (iD (n:Nat)) (iD z1) (.row cs2 m2) (.row cs3 m3) A),rowV r] [] (iD 0)):Pure Aj 12 [.agg (inpA (iD (n:Nat)) (iD z1) (.row cs2 m2) (.row cs3 m3) A),rowV r] [] (.tup [.row [] 0,iD 9]):=by
 have hn8:=h.n8;have hre:=zEa A h.r r (by omega);have hsa:=sat_c h hr;rw[show ansB n A r=Ac by rw[Bool.eq_false_iff];exact λhh=>ha (zSh.1 hh)]at hsa;refine zH Twy_ok mixed Tryz.func12 rfl<|zB<|zA rfl<|v0s<|veT<|zB<|zB<|zA rfl<|vr 2 (5<=5)<|vc (hck)<|veT<|zB<|zA rfl<|veT<|vf<|zL<|zC<|zD<|zB<|zB<|zA rfl<|vr 3 (True/\0<1)<|vc (hre)<|vc (hsa)<|veT<|vt<|zB<|zA rfl<|veT<|zJ<|zG<|vret (True)<|.inr rfl
set_option maxHeartbeats 8000000 in
theorem why_c(h:AtOk n A)(hr:r.length<=n)(ha:Ans n A r)(hck:Pure Aj 33 [.agg (inpA (iD (n:Nat)) (iD z1) (.row cs2 m2) (.row cs3 m3) A),rowV r] [] (iD 0)):∃y,FirB n A r y/\y.length=n/\Pure Aj 12 [.agg (inpA (iD (n:Nat)) (iD z1) (.row cs2 m2) (.row cs3 m3) A),rowV r] [] (.tup [.row ((witL A y).flatMap witC) A.length,iD 0]):=by
 have hn8:=h.n8;have hl5:=h.l;obtain⟨y,hy,hyn⟩:∃y,FirB n A r y/\y.length=n:=by
  have key:∀k p,FirB n A r p->n-p.length=k->∃y,FirB n A r y/\y.length=n:=λk=>by
   induction k with
   |zero=>intro p hp hk;exact⟨p,hp,by have:=hp.l2;omega⟩
   |succ k ih=>
    intro p hp hk;have hB:=h.rest hp.l2;obtain⟨x,hx,_⟩|⟨hx,_⟩:=least_c (n-p.length) (A.map (zBe p)) hB (by omega)
    ·exact ih (p++[x]) (hp.step h (by omega) hx) (by rw[Ba,List.length_singleton];omega)
    exact absurd (hp.none h) hx
  exact key _ r (FirB.nil hr ha) rfl
 refine⟨y,hy,hyn,?_⟩;have huq:∀p,FirB n A r p->p.length=n->p=y:=λp hp hpn=>by
  have h1:=hp.m y hyn (by
   obtain⟨z,z1,z2,z3⟩:=hy.a;rw[hyn]at z2;rw[<-z2,AI (by omega)];exact z3) hy.t
  have h2:=hy.m p hpn (by
   obtain⟨z,z1,z2,z3⟩:=hp.a;rw[hpn]at z2;rw[<-z2,AI (by omega)];exact z3) hp.t
  rw[AI (by omega)]at h1 h2;rcases h1 with h1|h1
  ·exact h1.symm
  rcases h2 with h2|h2
  ·exact h2
  have:=(zA3 p y).2.2
  omega
 have hre0:=zEa A h.r r (by omega);have hsa0:=sat_c h hr;rw[zSh.2 ha]at hsa0;have hcl:=zNk (zK r) r.length (zAj r) (by omega);have r0:repL A.length zWi=filG witC zWi [] A.length:=zW9 A.length;refine zH Twy_ok mixed Tryz.func12 rfl<|zB<|zA rfl<|v0s<|veT<|zB<|zB<|zA rfl<|vr 2 (5<=5)<|vc (hck)<|veT<|zB<|zA rfl<|veT<|vf<|zL<|zC<|zD<|zB<|zB<|zA rfl<|vr 3 (True/\0<1)<|vc (hre0)<|vc (hsa0)<|veT<|vf<|zL<|zC<|zD<|zB<|zA rfl<|vrT 1<|vn (hcl)<|veT<|zB<|zF<|zBg (λ(k:Nat)(p:Rw)(z:Bool)=>fr 95 [(2,Am 0 0),(7,Ao 1 0 (Aa p) (Aa p*3) Ab)]) (λ(k:Nat)(p:Rw)(z:Bool)=>[ipK (iD (n:Nat)) (iD z1) (.row cs2 m2) (.row cs3 m3) A,vaK (zK p) z]) (λk p z=>n-p.length) (λ(k:Nat)(p:Rw)(z:Bool)=>FirB n A r p) 0 r Ac ?_ ?_ ?_
 ·exact FirB.nil hr ha
 ·refine vk 2
 rintro k p z hp;have hpl:=hp.l2;have hpc:=zAj p;have hpt:(zK p).take (p.length*3)=zK p:=AI (by omega);rcases Az p.length n with hpn|hpn
 ·have hB:=h.rest hp.l2;have hre:=zEa A h.r p (by omega);have hls:=least_c (n-p.length) (A.map (zBe p)) hB (by omega);rw[AL]at hls;have hsb:((n:Nat):Int)-(p.length:Nat)=((n-p.length:Nat):Int):=by omega
  obtain⟨x,hx,hlc⟩|⟨hx,_⟩:=hls
  ·have hst:=hp.step h hpn hx;have hap:zK (p++[x])=zK p++vaC x:=by simp[zK]
   have hal:(p++[x]).length=p.length+1:=by simp
   obtain⟨xk,xi,xs⟩:=x;refine zB<|zB<|zA rfl<|v0s<|ve (True/\0<5)<|vT ((Aa p:Int)<(n:Int))<|zL<|zC<|zD<|zF<|zB<|vd [0,2,3,5,7,1,4,6,8,9,10,11,12,13,14,15]<|vr 7 (True/\True/\0<5/\i6 ((n:Int)-(Aa p:Int)))<|vs 39 (iD ((n:Int)-(Aa p:Int))) (iD (↑(n-Aa p):Int)) (hd:=by simp(disch:=omega) only[hsb])<|vr 1 (0<1)<|vcl [Ae (Ai atN A)<|Aa A,Ae (Ax (Aa p*3)<|Al 0<|AB<|vaK (zK p) z)<|Aa p] [Ae (Ai atN A)<|Aa A,Ae (zK p)<|Aa p] (LeL.of_eq (by simp(disch:=omega) only[AW,hpt])) (by exact hre)<|vc (hlc)<|ve (0<2/\1<2/\Ac=Ac/\Ab=Ab/\3=3/\3<=3)<|zB<|zB<|zA rfl<|veT<|vf<|zL<|zC<|zD<|zA rfl<|vr 5 (3<=3/\((3=3/\3<=3/\True)/\0<3/\3=3/\3<=16777216/\1<=9223372036854775807)/\Bk.arr (Aw (zK p) 73 3 Ab Ab AE)=Ab/\Aa (zK p)=Aa p*3/\Aa p*3=Aa p*3/\Bk.ty (Aw (zK p) 73 3 Ab Ab AE)=73/\Bk.sz (Aw (zK p) 73 3 Ab Ab AE)=3/\3=3/\0<3/\0<32/\73=73/\(Aa p+1)*32<=140737488355328/\3=3/\A8 (AO<|Aw (zK p) 73 3 Ab Ab AE)=Ac/\(Ac=Ac\/Kd.isSh (AO<|Aw (zK p) 73 3 Ab Ab AE)=Ab))<|vnil<|zE<|zC<|⟨0,p++[⟨xk,xi,xs⟩],Ab,hst,by omega,?_⟩;rw[hap,hal];refine vk 2
  exact absurd (hp.none h) hx
 obtain rfl:=huq p hp (by omega);refine zB<|zB<|zA rfl<|v0s<|ve (True/\0<5)<|vF ((Aa p:Int)<(n:Int))<|zV<|zM<|zM<|zS rfl<|zC<|zD<|zB<|zA rfl<|ve (True/\0<1/\(0:Int)<=(Aa A:Int)/\(Aa A:Int)<=(Aa A:Int)/\(↑(32:Nat):Int)*(Aa A:Int)<=(281474976710656:Int)/\(Aa A:Int)<=(281474976710656:Int)/\0<2/\2=2)<|zB<|zB<|zA rfl<|ve (True/\0<1)<|zF<|zQ (λ(i:Nat)=>fr 95 [(7,Ao 1 0 (Aa p) (Aa p*3) Ab),(10,Ao 2 0 (Aa A) (Aa A*2) Ab),(58,Ae (Ai atN A)<|Aa A),(59,iD (Aa A:Int)),(60,iD (i:Int))]) (λ(i:Nat)=>[ipK (iD (n:Nat)) (iD z1) (.row cs2 m2) (.row cs3 m3) A,vaK (zK p) z,wiK<|filG witC zWi ((witL A p).take i) A.length]) (λi=>A.length-i) (λ(i:Nat)=>i<=A.length) 0 ?_ ?_ ?_
 ·omega
 ·refine vk 3
 rintro i h1;have hWl:((witL A p).take i).length=min i A.length:=by rw[AZ,zEq]
 rcases Az i A.length with h2|h2
 ·rw [A5 (by omega)]at hWl;have hg:=zFi zAk A i h2;have hle:=zDd zAk A i h2;have hne:=zDc zAk (by decide) A;have hin:=zAc A An i h2;have hla:=h.lt _ hin;have hvn:=zB0 (A:=(A.getD i An).1) ⟨h.asc _ hin,λv hv=>by have:=hla v hv;omega⟩;have hsu:=zY3 A p i h2;have hset:=zKi (z:=zWi) zBw rfl ((witL A p).take i) A.length (i,zP p (A.getD i An).1) (by omega);have hkill:=filW_kill ((witL A p).take i) A.length;have hnil:=filW_nil (L:=(witL A p).take i) (n:=A.length) (by omega);have hfl:=zKj (L:=(witL A p).take i) (z:=zWi) (n:=A.length) zBw rfl (by omega);rw[hWl,<-hsu]at hset;rw[hWl]at hnil;clear hsu;have hset2:wiC (filG witC zWi ((witL A p).take i) A.length) i (rowV (zP p (A.getD i An).1))=filG witC zWi ((witL A p).take (i+1)) A.length:=hset;clear hset;generalize A.getD i An=a at*;obtain⟨V,R⟩:=a;simp only at hla hvn;have hrf:=filW_refs ((witL A p).take i) A.length;generalize filG witC zWi ((witL A p).take i) A.length=C at*;have hC1:i*2+1<C.length:=by omega
  refine zB<|zA rfl<|v0s<|veT<|zB<|vT ((i:Int)<(Aa A:Int))<|zL<|zC<|zD<|zB<|zF<|zB<|zA rfl<|vr 2 (ix (i:Int) (Aa A:Int) (Ai atN A≠[]))<|vs 63 (AA<|Al (As (i:Int)*3)<|Ai atN A) (AA (Ae (Ad (λ(v:Nat)=>iD (v:Int)) V) (Aa V)::iD (Aa V:Int)::Ae (Ad rowV R) (Aa R)::Ai atN (Al (i+1) A))) (hd:=by simp(disch:=omega) only[Av,AP,AQ,hg])<|ve (3<=Aa (Ae (Ad (λ(v:Nat)=>iD (v:Int)) V) (Aa V)::iD (Aa V:Int)::Ae (Ad rowV R) (Aa R)::Ai atN (Al (i+1) A))/\Ac=Ac/\Ab=Ab/\3=3/\3<=3)<|zB<|zA rfl<|vr 4 ((0:Int)<=(i:Int)/\(i:Int)<(Aa A:Int))<|vo0 68 2 (i*2)<|ve (True/\Bk.fz (wiK C)=Ac/\Ab=Ab/\1=1/\i*2+1<=Aa (AB<|wiK C))<|zB<|zA rfl<|ve (True/\0<3)<|zF<|zQ (λ(j:Nat)=>fr 95 [(7,Ao 1 0 (Aa p) (Aa p*3) Ab),(10,Ao 2 0 (Aa A) (Aa A*2) Ab),(11,iD (i:Int)),(58,Ae (Ai atN A)<|Aa A),(59,iD (Aa A:Int)),(60,iD (i:Int)),(71,Ae (Ad (λ(v:Nat)=>iD (v:Int)) V)<|Aa V),(72,iD (Aa V:Int)),(73,iD (j:Int))]) (λ(j:Nat)=>[ipK (iD (n:Nat)) (iD z1) (.row cs2 m2) (.row cs3 m3) A,vaK (zK p) z,wiK<|wiC C i<|.osl 4 0 j (j*3) Ab,at1 (.row (nsD V) V.length) (.row (R.map rowV) R.length) (V.length:Nat),vaK (zK<|zP p<|V.take j) Ac]) (λj=>V.length-j) (λ(j:Nat)=>j<=V.length) 0 ?_ ?_ ?_
  ·omega
  ·refine wkn (fr 95 [(7,Ao 1 0 (Aa p) (Aa p*3) Ab),(10,Ao 2 0 (Aa A) (Aa A*2) Ab),(11,iD (i:Int)),(58,Ae (Ai atN A) (Aa A)),(59,iD (Aa A:Int)),(60,iD (i:Int)),(71,Ae (Ad (λ(v:Nat)=>iD (v:Int)) V) (Aa V)),(72,iD (Aa V:Int)),(73,iD 0)]) [ipK (iD (n:Int)) (iD z1) (Ae cs2 m2) (Ae cs3 m3) A,vaK (zK p) z,Aw (List.set C (i*2) (iD (i:Int))) (68:TypeId) 2 Ab Ac Kd.sh,Aw [Ae (Ad (λ(v:Nat)=>iD (v:Int)) V) (Aa V),iD (Aa V:Int),Ae (Ad rowV R) (Aa R)] 45 0 Ac Ac AE] ?_;refine(Weak.nilC (j:=2) (i:=i*2+1) (ej:=wiK (C.set (i*2) (iD (i:Nat)))) (vaK [] Ac) rfl rfl rfl (by rw[List.getElem?_set_ne (by omega)];exact hnil)).trans ?_;refine vk 5
  rintro j j1;rcases Az j V.length with j2|j2
  ·have hx:=zAp V j j2;have hn1:nsD V≠[]:=zAb;have hvl:=hla _ (zAc V 0 j j2);have hpk:zP p (V.take (j+1))=zP p (V.take j)++[p.getD (V.getD j 0) An]:=by
    rw[zAr V j j2];unfold zP;rw[A2];rfl
   have hcl2:zK (zP p (V.take (j+1)))=zK (zP p (V.take j))++vaC (p.getD (V.getD j 0) An):=by
    rw[hpk,zCr];simp[zK]
   have hl3:(zK (zP p (V.take j))).length=j*3:=by
    unfold zP;rw[zAj,AL,AZ,A5 (by omega)]
   generalize zP p (V.take j)=q at*;generalize V.getD j 0=v at*;have htv:=zA2 p v (by omega);have hva:=zB8 p (by omega);have hv3:=zBt p v (by omega);have hhd:=wiC_hd hC1 (.osl 4 0 j (j*3) Ab);have hwl:=wiC_len C i (.osl 4 0 j (j*3) Ab);refine zB<|zA rfl<|v0s<|veT<|zB<|vT ((j:Int)<(Aa V:Int))<|zL<|zC<|zD<|zB<|zF<|zB<|zA rfl<|vr 1 (ix (j:Int) (Aa V:Int) (Ad (λ(v:Nat)=>iD (v:Int)) V≠[]))<|vp 75 (j) (Ad (λ(v:Nat)=>iD (v:Int)) V)<|vr 1 (0<Aa (Al j<|Ad (λ(v:Nat)=>iD (v:Int)) V))<|vsh 76 hx<|veT<|vd [0,1,2,3,4,5,7,8,9,6,10,11,12,13,14,15]<|vr 5 ((0:Int)<=(i:Int)/\(i:Int)<(Aa A:Int))<|vo0 81 2 (i*2)<|vr 4 (True/\(0:Int)<=(v:Int)/\(v:Int)<(Aa p:Int))<|vo0 86 1 (v*3)<|vr 1 (0<Aa (Al (i*2+1)<|AB<|wiK<|wiC C i<|Ao 4 0 j (j*3) Ab))<|vsh 83 hhd<|vr 1 (3<=Aa (Al (v*3)<|AB<|vaK (zK p) z))<|vs 87 (Ay<|Ax 3<|Al (v*3)<|AB<|vaK (zK p) z) (Ay<|vaC<|AT p v An) (hd:=by simp(disch:=omega) only[htv])<|vr 3 (((3=3/\3<=3/\True)/\0<3/\3=3/\3<=16777216/\1<=9223372036854775807)/\(Bk.arr (vaK (zK q) Ac)=Ab/\Aa (AB<|vaK (zK q) Ac)=j*3/\j*3=j*3/\Bk.ty (vaK (zK q) Ac)=73/\Bk.sz (vaK (zK q) Ac)=3/\3=3/\0<3/\0<32/\73=73/\(j+1)*32<=140737488355328/\3=3/\A8 (AO<|vaK (zK q) Ac)=Ac/\(Ac=Ac\/Kd.isSh (AO<|vaK (zK q) Ac)=Ab))/\(0:Int)<=(i:Int)/\(i:Int)<(Aa A:Int))<|vo0 90 2 (i*2)<|vr 2 (True/\Bk.fz (Aw (Ad (zA9 4)<|wiC C i<|Ao 4 0 j (j*3) Ab) 68 2 Ab Ac Kd.sh)=Ac/\Ab=Ab/\1=1/\i*2+1+1<=Aa (Ad (zA9 4)<|wiC C i<|Ao 4 0 j (j*3) Ab))<|vnil<|zE<|zC<|zD<|zA rfl<|vr 2 (i6 ((j:Int)+(1:Int)))<|vnil<|zC<|⟨j+1,by omega,by omega,?_⟩;refine wkn (fr 95 [(7,Ao 1 0 (Aa p) (Aa p*3) Ab),(10,Ao 2 0 (Aa A) (Aa A*2) Ab),(11,iD (i:Int)),(14,iD (v:Int)),(58,Ae (Ai atN A) (Aa A)),(59,iD (Aa A:Int)),(60,iD (i:Int)),(71,Ae (Ad (λ(v:Nat)=>iD (v:Int)) V) (Aa V)),(72,iD (Aa V:Int)),(73,iD (↑(j+1):Int)),(77,Ao 2 0 (Aa A) (Aa A*2) Ab),(78,iD (i:Int)),(79,Ao 2 0 (Aa A) (Aa A*2) Ab),(80,iD (i:Int)),(81,Am 2 (i*2)),(82,Am 2 (i*2+1)),(84,Ao 1 0 (Aa p) (Aa p*3) Ab),(85,iD (v:Int)),(86,Am 1 (v*3)),(87,Ay (vaC (AT p v An))),(88,Ao 5 0 1 3 Ab),(89,Ao 4 0 (j+1) ((j+1)*3) Ab),(90,Am 2 (i*2)),(91,Am 2 (i*2+1)),(92,iD (↑(j+1):Int))]) [Aw [iD (n:Int),iD z1,Ae cs2 m2,Ae cs3 m3,Ae (Ai atN A) (Aa A)] (32:TypeId) 0 Ac Ac AE,Aw (zK p) (73:TypeId) 3 Ab z AE,Aw (List.set (Ad (zA9 4) (wiC C i (Ao 4 0 j (j*3) Ab))) (i*2+1) (Ao 4 0 (j+1) ((j+1)*3) Ab)) 68 2 Ab Ac Kd.sh,Aw [Ae (nsD V) (Aa V),iD (Aa V:Int),Ae (Ad rowV R) (Aa R)] (45:TypeId) 0 Ac Ac AE,Aw (zK q++[iD (Va.kind (AT p v An)),iD (Va.int (AT p v An)),Ak (AC (bs (Va.str (AT p v An))))]) (73:TypeId) 3 Ab Ac AE,Aw [iD (Va.kind (AT p v An)),iD (Va.int (AT p v An)),Ak (AC (bs (Va.str (AT p v An))))] 73 3 Ab Ac AE] ?_;rw[wiC_kill (hkill 4),zY4,hcl2];refine zQf (N:=5) (st:=[ipK (iD (n:Nat)) (iD z1) (.row cs2 m2) (.row cs3 m3) A,vaK (zK p) z,wiK (wiC C i (.osl 4 0 (j+1) ((j+1)*3) Ab)),at1 (.row (nsD V) V.length) (.row (R.map rowV) R.length) (V.length:Nat),vaK (zK q++vaC (p.getD v An)) Ac]) (bs:=[vaK (vaC (p.getD v An)) Ac]) (1<5/\2<5/\True) rfl (λb hb=>?_) (λ_ _=>rfl) ?_ (by kernel_rfl) ⟨by decide,by decide,trivial⟩
   ·simp only[A6,List.not_mem_nil,or_false]at hb;rcases hb with rfl|rfl|rfl|rfl|rfl
    ·exact .inr λj _=>rfl
    ·exact .inl rfl
    ·refine .inr λk hk=>zVm (hrf k) i ?_;show(4==k)=Ac;rw[beq_eq_false_iff_ne];omega
    ·exact .inr λj _=>rfl
    exact .inl rfl
   refine vk 6
  obtain rfl:j=V.length:=by omega
  rw[AR];refine zB<|zA rfl<|v0s<|veT<|zB<|vF ((Aa V:Int)<(Aa V:Int))<|zV<|zM<|zM<|zS rfl<|zE<|zC<|zD<|zA rfl<|vr 2 (i6 ((i:Int)+(1:Int)))<|vnil<|zC<|⟨i+1,by omega,by omega,?_⟩;rw[<-hset2];refine wkn (fr 95 [(7,Ao 1 0 (Aa p) (Aa p*3) Ab),(10,Ao 2 0 (Aa A) (Aa A*2) Ab),(11,iD (i:Int)),(58,Ae (Ai atN A) (Aa A)),(59,iD (Aa A:Int)),(60,iD (↑(i+1):Int)),(71,Ae (Ad (λ(v:Nat)=>iD (v:Int)) V) (Aa V)),(72,iD (Aa V:Int)),(73,iD (Aa V:Int)),(74,bD (decide ((Aa V:Int)<(Aa V:Int)))),(93,iD (↑(i+1):Int))]) [ipK (iD (n:Int)) (iD z1) (Ae cs2 m2) (Ae cs3 m3) A,vaK (zK p) z,wiK (wiC C i (Ao 4 0 (Aa V) (Aa V*3) Ab)),at1 (Ae (nsD V) (Aa V)) (Ae (Ad rowV R) (Aa R)) (Aa V:Int),vaK (zK (zP p V)) Ac] ?_;have hpl2:(zP p V).length=V.length:=AL _;have hfz:frz Ab [ipK (iD (n:Nat)) (iD z1) (.row cs2 m2) (.row cs3 m3) A,vaK (zK p) z,wiK (wiC C i (.osl 4 0 V.length (V.length*3) Ab)),at1 (.row (nsD V) V.length) (.row (R.map rowV) R.length) (V.length:Nat),vaK (zK (zP p V)) Ac] zAy (.osl 4 0 V.length (V.length*3) Ab)=Ap (rowV (zP p V),[4]):=by
   rw[show zAy=8+1 from rfl,frz_osl (e:=vaK (zK (zP p V)) Ac) rfl rfl rfl];show Ap (Ae (((zK (zP p V)).drop 0).take (V.length*3)) V.length,[4])=Ap (Ae _ (zP p V).length,_);rw[AW,AI (by rw[zAj,hpl2];exact AY _),hpl2]
  refine(Weak.fzCell (j:=2) (i:=i*2+1) (ej:=wiK (wiC C i (.osl 4 0 V.length (V.length*3) Ab))) (d:= .osl 4 0 V.length (V.length*3) Ab) (x:=rowV (zP p V)) (ks:=[4]) rfl rfl rfl (zY5 hC1 _) hfz (by decide)).trans ?_;show Weak Twy _ [ipK (iD (n:Nat)) (iD z1) (.row cs2 m2) (.row cs3 m3) A,vaK (zK p) z,wiK ((wiC C i (.osl 4 0 V.length (V.length*3) Ab)).set (i*2+1) (rowV (zP p V))),at1 (.row (nsD V) V.length) (.row (R.map rowV) R.length) (V.length:Nat),vaK (zK (zP p V)) Ab] _ _;rw[zY4];refine zQf (N:=3) (st:=[ipK (iD (n:Nat)) (iD z1) (.row cs2 m2) (.row cs3 m3) A,vaK (zK p) z,wiK (wiC C i (rowV (zP p V)))]) (bs:=[at1 (.row (nsD V) V.length) (.row (R.map rowV) R.length) (V.length:Nat),vaK (zK (zP p V)) Ab]) (1<3/\2<3/\True) rfl (λb hb=>?_) (λ_ _=>rfl) ?_ (by kernel_rfl) ⟨by decide,by decide,trivial⟩
  ·simp only[A6,List.not_mem_nil,or_false]at hb;rcases hb with rfl|rfl|rfl
   ·exact .inr λj _=>rfl
   ·exact .inl rfl
   exact .inr λk hk=>zVm (hrf k) i rfl
  refine vk 5
 obtain rfl:i=A.length:=by omega
 rw[AI (by rw[zEq];exact AY _)];have ha:=zKk (g:=witC) (z:=zWi) (witL A p);rw[zEq]at ha;have ht:((witL A p).flatMap witC).take (A.length*2)=(witL A p).flatMap witC:=zFg zBw (witL A p) A.length (zEq A p);rw[ha];refine zB<|zA rfl<|v0s<|veT<|zB<|vF ((Aa A:Int)<(Aa A:Int))<|zV<|zM<|zM<|zS rfl<|zC<|vnn (fr 95 [(7,Ao 1 0 (Aa p) (Aa p*3) Ab),(10,Ao 2 0 (Aa A) (Aa A*2) Ab),(58,Ae (Ai atN A)<|Aa A),(59,iD (Aa A:Int)),(60,iD (Aa A:Int)),(61,bD<|decide ((Aa A:Int)<(Aa A:Int)))]) [ipK (iD (n:Int)) (iD z1) (Ae cs2 m2) (Ae cs3 m3) A,vaK (zK p) z,wiK<|Ai witC<|witL A p]<|zCd (Weak.unsh (k:=2) (e:=wiK ((witL A p).flatMap witC)) rfl rfl rfl<|wit_refs _) ?_;refine zB<|zA rfl<|v0s<|veT<|zJ<|zAs (True) (D.tup [Ae (Ax (Aa A*2)<|Al 0<|AB<|wiK<|Ai witC<|witL A p)<|Aa A,iD 0]) (D.tup [Ae (Ai witC<|witL A p)<|Aa A,Ak<|Ah Aq (0:Int)]) (.inr rfl) (by simp(disch:=omega) only[AW,ht]) rfl
end
def vsD(g:Nat->Nat)(n:Nat):List D:=(AM n).map λv=>u32D (g v)
theorem zY9(g:Nat->Nat)(n:Nat):(vsD g n).length=n:=by simp[vsD]
theorem zZa{g:Nat->Nat}{n i:Nat}(h:i<n):((vsD g n).drop i).headD .unk=u32D (g i):=by
 unfold vsD;rw[zA5 (λv=>u32D (g v)) (AM n) 0 i (by simpa using h),AK,Bb h];rfl
theorem vsD_ne{g:Nat->Nat}{n:Nat}(h:0<n):vsD g n≠[]:=zAb (h:=by simpa using h)
theorem zFk{g g':Nat->Nat}{n:Nat}(h:∀v,v<n->g v=g' v):vsD g n=vsD g' n:=List.map_congr_left λv hv=>by rw[h v (List.mem_range.1 hv)]
theorem vsD_set(g:Nat->Nat)(n i x:Nat):(vsD g n).set i (u32D x)=vsD (λv=>if v=i then x else g v) n:=by
 unfold vsD;apply List.ext_getElem?;intro u;rw[List.getElem?_set,AL,List.length_range];by_cases hu:u<n
 ·rw[AX,Bb hu,AX,Bb hu];by_cases e:i=u
  ·subst e;rw[if_pos rfl,if_pos hu];simp
  have e':¬u=i:=λh=>e h.symm;rw[if_neg e];simp[e']
 have h1:(AM n)[u]?=none:=Bd (by simpa using hu);rw[AX,h1,AX,h1];by_cases e:i=u
 ·rw[if_pos e,if_neg (by omega)];rfl
 rw[if_neg e];rfl
theorem vsD_0(n:Nat):repL n [.val (.int .u32 0)]=vsD (λ_=>0) n:=by
 rw[repL_oneY];unfold vsD;apply List.ext_getElem (by simp);intro i h1 h2;simp
theorem zY8{m:Nat}(hm:m<4294967296)(v:Nat):((((Ag 32 ((m>>>v:Nat):Int)&&&Ag 32 1).toNat:Nat):Int)==0)=!m.testBit v:=by
 have h1:=zSb hm v;have h2:=Nat.and_le_right (n:=(Ag 32 ((m>>>v:Nat):Int)).toNat) (m:=1);have h3:(Ag 32 ((m>>>v:Nat):Int)&&&Ag 32 1).toNat<=1:=by
  rw[BitVec.toNat_and];exact h2
 generalize (Ag 32 ((m>>>v:Nat):Int)&&&Ag 32 1).toNat=b at*;rw[<-h1];have:b=0\/b=1:=by omega
 rcases this with rfl|rfl<;>rfl
theorem wbit_w0{m:Nat}(hm:m<4294967296)(v:Nat):(Af.wrap (((Ag 32 ((m>>>v:Nat):Int)&&&Ag 32 1).toNat:Nat):Int)==0)=!m.testBit v:=by
 rw[zAx (BitVec.isLt _)];exact zY8 hm v
set_option maxHeartbeats 8000000 in
theorem comps_c(A:List (List Nat×List Rw))(h:AtW A):Pure Aj 56 [.row (A.flatMap atN) A.length] [] (.row ((zDs A).map u32D) (zDs A).length):=by
 have hl5:=h.l;obtain⟨vmk,hvr⟩:∃vmk:Nat->Nat,vmk=λi=>msk (A.getD i An).1:=⟨_,rfl⟩;have hvi:∀i,vmk i=msk (A.getD i An).1:=λi=>by rw[hvr]
 have hv8:∀i b,(vmk i).testBit b=Ab->b<32:=λi b hb=>by
  rw[hvi,zBz,decide_eq_true_eq]at hb;rcases Az i A.length with hi|hi
  ·have:=h.lt _ (zAc A An i hi) b hb
   omega
  rw[AK,Bd hi]at hb;cases hb
 have hvl:∀i,vmk i<4294967296:=λi=>zM9 (n:=32) (hv8 i);obtain⟨ps,hps⟩:∃ps,ps=zDs A:=⟨_,rfl⟩;have hpe:(cmps vmk A.length A.length).2=ps:=by rw[hps,hvr];rfl
 rw[<-hps];have r0:repL A.length [.val (.int .u32 0)]=vsD (λ_=>0) A.length:=vsD_0 A.length;refine zH zAf mixed Tryz.func56 rfl<|zB<|zA rfl<|v0s<|veT<|zB<|zA rfl<|vr 3 ((0:Int)<=(Aa A:Int)/\(Aa A:Int)<=(Aa A:Int)/\(↑(4:Nat):Int)*(Aa A:Int)<=(281474976710656:Int)/\(Aa A:Int)<=(281474976710656:Int)/\0<1/\1=1)<|vb 0 (Aw (repL (As (Aa A:Int)) [Ak<|Ah Af (0:Int)]) 97 1 Ab Ac<|kdOf Ac) (Aw (vsD (λ(x:Nat)=>0)<|Aa A) 97 1 Ab Ac<|kdOf Ac) (hd:=by simp(disch:=omega) only[Av,r0])<|vrT 1<|vs 3 (Ao 0 0 (As (Aa A:Int)) (As (Aa A:Int)*1) Ab) (Ao 0 0 (Aa A) (Aa A) Ab) (hd:=by simp(disch:=omega) only[Av,Nat.mul_one])<|veT<|zB<|zB<|zA rfl<|veT<|zF<|zQ (λ(i:Nat)=>fr 99 [(0,Ae (Ai atN A)<|Aa A),(2,nl),(3,Ao 0 0 (Aa A) (Aa A) Ab),(18,Ae (Ai atN A)<|Aa A),(19,iD (Aa A:Int)),(20,iD (i:Int))]) (λ(i:Nat)=>[u32K<|vsD (λv=>if v<i then vmk v else 0) A.length]) (λi=>A.length-i) (λ(i:Nat)=>i<=A.length) 0 ?_ ?_ ?_
 ·omega
 ·rw[zFk (g':=λv=>if v<0 then vmk v else 0) λv _=>(if_neg (Nat.not_lt_zero v)).symm];refine vk 1
 rintro i i1;rcases Az i A.length with i2|i2
 ·have hg:=zFi zAk A i i2;have hle:=zDd zAk A i i2;have hne:=zDc zAk (by decide) A;have hin:=zAc A An i i2;have hla:=h.lt _ hin;have hva:=hvi i;have hvn:=zB0 (A:=(A.getD i An).1) ⟨h.asc _ hin,λv hv=>by have:=hla v hv;omega⟩;generalize A.getD i An=a at*;obtain⟨V,R⟩:=a;simp only at hla hva hvn;refine zB<|zA rfl<|v0s<|veT<|zB<|vT ((i:Int)<(Aa A:Int))<|zL<|zC<|zD<|zB<|zF<|zB<|zA rfl<|vr 2 (ix (i:Int) (Aa A:Int) (Ai atN A≠[]))<|vs 23 (AA<|Al (As (i:Int)*3)<|Ai atN A) (AA (Ae (Ad (λ(v:Nat)=>iD (v:Int)) V) (Aa V)::iD (Aa V:Int)::Ae (Ad rowV R) (Aa R)::Ai atN (Al (i+1) A))) (hd:=by simp(disch:=omega) only[Av,AP,AQ,hg])<|ve (3<=Aa (Ae (Ad (λ(v:Nat)=>iD (v:Int)) V) (Aa V)::iD (Aa V:Int)::Ae (Ad rowV R) (Aa R)::Ai atN (Al (i+1) A))/\Ac=Ac/\Ab=Ab/\3=3/\3<=3)<|zB<|zA rfl<|ve (True/\0<3)<|zF<|zQ (λ(k:Nat)=>fr 99 [(0,Ae (Ai atN A)<|Aa A),(2,nl),(3,Ao 0 0 (Aa A) (Aa A) Ab),(4,iD (i:Int)),(18,Ae (Ai atN A)<|Aa A),(19,iD (Aa A:Int)),(20,iD (i:Int)),(26,Ae (Ad (λ(v:Nat)=>iD (v:Int)) V)<|Aa V),(27,iD (Aa V:Int)),(28,iD (k:Int))]) (λ(k:Nat)=>[u32K<|vsD (λv=>if v<i then vmk v else if v=i then msk (V.take k)else 0) A.length,at1 (.row (nsD V) V.length) (.row (R.map rowV) R.length) (V.length:Nat)]) (λk=>V.length-k) (λ(k:Nat)=>k<=V.length) 0 ?_ ?_ ?_
  ·omega
  ·rw[zFk (g':=λv=>if v<i then vmk v else if v=i then msk (V.take 0)else 0) λv _=>by
    split
    ·rfl
    split<;>rfl]
   refine vk 2
  rintro k k1;rcases Az k V.length with k2|k2
  ·have hx:=zAp V k k2;have hn1:nsD V≠[]:=zAb;have hv:=hla _ (zAc V 0 k k2);have hm:=zWm V k k2;have hhd:=zZa (g:=λv=>if v<i then vmk v else if v=i then msk (V.take k)else 0) i2;simp only[Nat.lt_irrefl,if_false,if_true]at hhd;have hlt:msk (V.take k)<4294967296:=zDl λv hv=>by have:=hla v (Bf hv);omega
   have hln:=zY9 (λv=>if v<i then vmk v else if v=i then msk (V.take k)else 0) A.length;have hvne:=vsD_ne (g:=λv=>if v<i then vmk v else if v=i then msk (V.take k)else 0) (n:=A.length) (by omega);have hst:=vsD_set (λv=>if v<i then vmk v else if v=i then msk (V.take k)else 0) A.length i (msk (V.take (k+1)));have hcg:=zFk (g:=λv=>if v=i then msk (V.take (k+1))else if v<i then vmk v else if v=i then msk (V.take k)else 0) (g':=λv=>if v<i then vmk v else if v=i then msk (V.take (k+1))else 0) (n:=A.length) λv _=>by
    by_cases e:v=i
    ·subst e;simp
    simp[e]
   rw[hcg]at hst;generalize (λv=>if v<i then vmk v else if v=i then msk (V.take k)else 0)=g at*;generalize V.getD k 0=v at*;have hp:=zF8 (v:=v) (by omega);have v1:=zEv (v:=v) (by omega);have v2:=zMv hlt hp;have v3:=zAx (zLi hlt hp);rw[hm]at hst;refine zB<|zA rfl<|v0s<|veT<|zB<|vT ((k:Int)<(Aa V:Int))<|zL<|zC<|zD<|zB<|zF<|zB<|zA rfl<|vr 1 (ix (k:Int) (Aa V:Int) (Ad (λ(v:Nat)=>iD (v:Int)) V≠[]))<|vp 30 (k) (Ad (λ(v:Nat)=>iD (v:Int)) V)<|vr 1 (0<Aa (Al k<|Ad (λ(v:Nat)=>iD (v:Int)) V))<|vsh 31 hx<|veT<|vd [0,1,2,4,5,3,6,7,8]<|vr 3 ((0:Int)<=(i:Int)/\(i:Int)<(Aa A:Int))<|vo 34 0 (i)<|vr 2 ((0:Int)<=(v:Int))<|vs 37 (Ak<|Ah Af<|Au Af ((1:Int)*(2:Int)^min (As (v:Int)) 32)) (dig ((2:Nat)^v)) (hd:=by simp(disch:=omega) only[Av,v1])<|vr 1 (0<Aa (Al i<|AB<|u32K<|vsD g<|Aa A))<|vsh 35 hhd<|vrT 1<|vs 38 (Ak<|Ah Af<|Au Af (↑(Ar (Ag 32 (↑(msk<|Ax k V):Int)|||Ag 32 (↑((2:Nat)^v):Int))):Int)) (dig (msk (Ax k V)|||(2:Nat)^v)) (hd:=by simp(disch:=omega) only[v2,v3])<|vr 1 ((0:Int)<=(i:Int)/\(i:Int)<(Aa A:Int))<|vo 39 0 (i)<|vr 1 (Bk.fz (u32K<|vsD g<|Aa A)=Ac/\Ab=Ab/\1=1/\i+1<=Aa (AB<|u32K<|vsD g<|Aa A)/\¬0∈[])<|vnil<|zE<|zC<|zD<|zA rfl<|vr 2 (i6 ((k:Int)+(1:Int)))<|vnil<|zC<|⟨k+1,by omega,by omega,?_⟩;refine wkn (fr 99 [(0,Ae (Ai atN A) (Aa A)),(2,nl),(3,Ao 0 0 (Aa A) (Aa A) Ab),(4,iD (i:Int)),(7,iD (v:Int)),(18,Ae (Ai atN A) (Aa A)),(19,iD (Aa A:Int)),(20,iD (i:Int)),(26,Ae (Ad (λ(v:Nat)=>iD (v:Int)) V) (Aa V)),(27,iD (Aa V:Int)),(28,iD (↑(k+1):Int)),(32,Ao 0 0 (Aa A) (Aa A) Ab),(33,iD (i:Int)),(34,Am 0 i),(35,u32D (msk (Ax k V))),(36,iD (v:Int)),(37,dig ((2:Nat)^v)),(38,dig (msk (Ax k V)|||(2:Nat)^v)),(39,Am 0 i),(40,iD (↑(k+1):Int))]) [Aw (List.set (vsD g (Aa A)) i (dig (msk (Ax k V)|||(2:Nat)^v))) (97:TypeId) 1 Ab Ac AE,at1 (Ae (nsD V) (Aa V)) (Ae (Ad rowV R) (Aa R)) (Aa V:Int)] ?_;rw[show(vsD g A.length).set i (u32D (msk (V.take k)|||2^v))=vsD (λv=>if v<i then vmk v else if v=i then msk (V.take (k+1))else 0) A.length from by rw[hm];exact hst];refine vk 2
  obtain rfl:k=V.length:=by omega
  rw[AR,<-hva];refine zB<|zA rfl<|v0s<|veT<|zB<|vF ((Aa V:Int)<(Aa V:Int))<|zV<|zM<|zM<|zS rfl<|zE<|zC<|zD<|zA rfl<|vr 2 (i6 ((i:Int)+(1:Int)))<|vnil<|zC<|⟨i+1,by omega,by omega,?_⟩;rw[zFk (g:=λv=>if v<i then vmk v else if v=i then vmk i else 0) (g':=λv=>if v<i+1 then vmk v else 0) λv _=>by
   by_cases e:v<i
   ·simp[e,show v<i+1 by omega]
   by_cases e2:v=i
   ·subst e2;simp
   simp[e,e2,show¬v<i+1 by omega]]
  refine vk 1
 obtain rfl:i=A.length:=by omega
 rw[zFk (g:=λv=>if v<A.length then vmk v else 0) (g':=vmk) λv hv=>if_pos hv];have hln:=zY9 vmk A.length;have hpw:2^A.length<=32:=Bg (n:=2) (by omega) (show A.length<=5 by omega);refine zB<|zA rfl<|v0s<|veT<|zB<|vF ((Aa A:Int)<(Aa A:Int))<|zV<|zM<|zM<|zS rfl<|zC<|zD<|zB<|zA rfl<|veT<|zB<|zA rfl<|ve (True/\0<1/\1=1/\0<=16777216/\0<=9223372036854775807)<|zB<|zB<|zA rfl<|veT<|zF<|zBg (λ(i:Nat)(dn:Nat)(O:List Nat)=>fr 99 [(0,Ae (Ai atN A)<|Aa A),(2,nl),(3,Ao 0 0 (Aa A) (Aa A) Ab),(8,u32D dn),(9,Ao 1 0 (Aa O) (Aa O) Ab),(44,iD (Aa A:Int)),(45,iD (i:Int))]) (λ(i:Nat)(dn:Nat)(O:List Nat)=>[u32K<|vsD vmk A.length,u32K<|O.map u32D]) (λi dn O=>A.length-i) (λ(i:Nat)(dn:Nat)(O:List Nat)=>i<=A.length/\cmps vmk A.length i=(dn,O)) 0 0 [] ?_ ?_ ?_
 ·exact⟨by omega,rfl⟩
 ·refine vk 2
 rintro i dn O ⟨i1,i2⟩;obtain⟨c1,c2,c3,c4,c5⟩:=zTy (vr:=vmk) (n:=A.length) i i1;rw[i2]at c4 c5;have c4:O.length<=i:=c4;have c5:dn<2^A.length:=c5;have hcl:(O.map u32D).length=O.length:=AL ..
 rcases Az i A.length with i3|i3;case inr=>
  obtain rfl:i=A.length:=by omega
  rw[i2]at hpe;have hpe:O=ps:=hpe;subst hpe;have ht:(O.map u32D).take O.length=O.map u32D:=AI (by omega);refine zB<|zA rfl<|v0s<|veT<|zB<|vF ((Aa A:Int)<(Aa A:Int))<|zV<|zM<|zM<|zS rfl<|zC<|zD<|zB<|zA rfl<|veT<|zJ<|zAs (True) (Ae (Ax (Aa O)<|Al 0<|AB<|u32K<|Ad u32D O)<|Aa O) (Ae (Ad u32D O)<|Aa O) (.inr rfl) (by simp(disch:=omega) only[AW,ht]) rfl
 have hsu:=zR9 vmk A.length i;rw[i2]at hsu;unfold cmp1 at hsu;simp only at hsu;have w1:=zEu dn (v:=i) (by omega);have w2:=zSb (m:=dn) (by omega) i;have w3:=bit_w (m:=dn) (by omega) i;cases hb:dn.testBit i;case true=>
  rw[hb,if_pos rfl]at hsu;rw[hb]at w2 w3;refine zB<|zA rfl<|v0s<|veT<|zB<|vT ((i:Int)<(Aa A:Int))<|zL<|zC<|zD<|zB<|zF<|zB<|zA rfl<|veT<|zB<|zB<|zA rfl<|vr 3 ((0:Int)<=(i:Int))<|vs 50 (Ak<|Ah Af<|A9 (dn:Int) ((2:Int)^min (As (i:Int)) 32)) (dig (dn>>>i)) (hd:=by simp(disch:=omega) only[Av,w1])<|vrT 1<|vs 51 (Ak<|Ah Af<|Au Af (↑(Ar (Ag 32 (↑(dn>>>i):Int)&&&Ag 32 (1:Int))):Int)) (dig<|Ar (Ag 32 (↑(dn>>>i):Int)&&&Ag 32 (1:Int))) (hd:=by simp(disch:=omega) only[zA8])<|vrT 1<|vs 52 (bD ((↑(Ar (Ag 32 (↑(dn>>>i):Int)&&&Ag 32 (1:Int))):Int)==(1:Int))) (bD Ab) (hd:=by simp(disch:=omega) only[w2])<|veT<|vt<|zV<|zM<|zS rfl<|zC<|zD<|zA rfl<|vr 2 (i6 ((i:Int)+(1:Int)))<|vnil<|zC<|⟨i+1,dn,O,⟨by omega,hsu⟩,by omega,?_⟩;refine vk 2
 rw[hb,if_neg (by decide)]at hsu;rw[hb]at w2 w3;obtain⟨⟨T,q1⟩,q2,q3⟩:=zXe (vr:=vmk) i3;have hQl:=zM9 q2.1;generalize zL9 vmk A.length i=Q at*;have hhd:=zZa (g:=vmk) i3;have hvne:=vsD_ne (g:=vmk) (n:=A.length) (by omega);have v1:=zEv (v:=i) (by omega);have hvi':=hvl i;refine zB<|zA rfl<|v0s<|veT<|zB<|vT ((i:Int)<(Aa A:Int))<|zL<|zC<|zD<|zB<|zF<|zB<|zA rfl<|veT<|zB<|zB<|zA rfl<|vr 3 ((0:Int)<=(i:Int))<|vs 50 (Ak<|Ah Af<|A9 (dn:Int) ((2:Int)^min (As (i:Int)) 32)) (dig (dn>>>i)) (hd:=by simp(disch:=omega) only[Av,w1])<|vrT 1<|vs 51 (Ak<|Ah Af<|Au Af (↑(Ar (Ag 32 (↑(dn>>>i):Int)&&&Ag 32 (1:Int))):Int)) (dig<|Ar (Ag 32 (↑(dn>>>i):Int)&&&Ag 32 (1:Int))) (hd:=by simp(disch:=omega) only[zA8])<|vrT 1<|vs 52 (bD ((↑(Ar (Ag 32 (↑(dn>>>i):Int)&&&Ag 32 (1:Int))):Int)==(1:Int))) (bD Ac) (hd:=by simp(disch:=omega) only[w2])<|veT<|vf<|zL<|zC<|zD<|zB<|vd [0,1,2,3,4,6,5,7]<|vr 2 ((0:Int)<=(i:Int))<|vs 54 (Ak<|Ah Af<|Au Af ((1:Int)*(2:Int)^min (As (i:Int)) 32)) (dig ((2:Nat)^i)) (hd:=by simp(disch:=omega) only[Av,v1])<|vr 3 ((0:Int)<=(i:Int)/\(i:Int)<(Aa A:Int))<|vo 57 0 (i)<|vr 2 (0<Aa (Al i<|AB<|u32K<|vsD vmk<|Aa A))<|vsh 58 hhd<|veT<|zB<|zB<|zA rfl<|veT<|zF<|zSd (λ(k:Nat)(P:Nat)(S:Nat)(g:Bool)=>fr 99 [(0,Ae (Ai atN A)<|Aa A),(2,nl),(3,Ao 0 0 (Aa A) (Aa A) Ab),(8,u32D dn),(9,Ao 1 0 (Aa O) (Aa O) Ab),(11,u32D P),(12,u32D S),(13,bD g),(44,iD (Aa A:Int)),(45,iD (i:Int))]) (λ(k:Nat)(P:Nat)(S:Nat)(g:Bool)=>[u32K<|vsD vmk A.length,u32K<|O.map u32D]) (λk P S g=>k) (λ(k:Nat)(P:Nat)(S:Nat)(g:Bool)=>if g then CI vmk A.length P S/\crnd vmk A.length k P S=Ap (Q,T)else P=Q) (2^A.length+1) (2^i) (vmk i) Ab ?_ ?_ ?_
 ·exact⟨CI.one i3,q1⟩
 ·refine vk 2
 rintro k P S g hJ;cases g;case false=>
  obtain rfl:P=Q:=hJ;have v2:=zMv (a:=dn) (b:=P) (by omega) (by omega);have v3:dn|||P<2^A.length:=Nat.or_lt_two_pow c5 hQl;have v4:=zAx (n:=dn|||P) (by omega);refine zB<|zB<|zA rfl<|v0s<|veT<|vf<|zV<|zM<|zM<|zS rfl<|zC<|zD<|zB<|zA rfl<|vrT 3<|vs 92 (Ak<|Ah Af<|Au Af (↑(Ar (Ag 32 (dn:Int)|||Ag 32 (P:Int))):Int)) (dig (dn|||P)) (hd:=by simp(disch:=omega) only[v4,v2])<|veT<|zA rfl<|vr 5 (((1=1/\1<=1/\True)/\0<1/\1=1/\1<=16777216/\1<=9223372036854775807)/\Bk.arr (u32K<|Ad u32D O)=Ab/\Aa (AB<|u32K<|Ad u32D O)=Aa O*1/\Aa O=Aa O*1/\Bk.ty (u32K<|Ad u32D O)=97/\Bk.sz (u32K<|Ad u32D O)=1/\1=1/\0<1/\0<4/\97=97/\(Aa O+1)*4<=140737488355328/\1=1/\A8 (AO<|u32K<|Ad u32D O)=Ac/\(Ac=Ac\/Kd.isSh (AO<|u32K<|Ad u32D O)=Ab))<|vs 9 (Ao 1 0 (Aa O+1) ((Aa O+1)*1) Ab) (Ao 1 0 (Aa O+1) (Aa O+1) Ab) (hd:=by simp(disch:=omega) only[Nat.mul_one])<|vnil<|zE<|zC<|zD<|zA rfl<|vr 2 (i6 ((i:Int)+(1:Int)))<|vnil<|zC<|⟨i+1,dn|||P,O++[P],⟨by omega,hsu⟩,by omega,?_⟩;rw[zSu,Ba,List.length_singleton];refine vk 2
 obtain⟨hC,hr⟩:CI vmk A.length P S/\crnd vmk A.length k P S=Ap (Q,T):=hJ;obtain⟨k,rfl⟩:∃k',k=k'+1:=by
  cases k with
  |zero=>cases hr
  |succ k=>exact⟨k,rfl⟩
 unfold crnd at hr;refine zB<|zB<|zA rfl<|v0s<|veT<|vt<|zL<|zC<|zD<|zF<|zB<|zA rfl<|veT<|zB<|zA rfl<|veT<|zF<|zSd (λ(j:Nat)(P1:Nat)(S1:Nat)(g:Bool)=>fr 99 [(0,Ae (Ai atN A)<|Aa A),(2,nl),(3,Ao 0 0 (Aa A) (Aa A) Ab),(8,u32D dn),(9,Ao 1 0 (Aa O) (Aa O) Ab),(11,u32D P1),(12,u32D S1),(13,bD g),(44,iD (Aa A:Int)),(45,iD (i:Int)),(61,iD (Aa A:Int)),(62,iD (j:Int))]) (λ(j:Nat)(P1:Nat)(S1:Nat)(g:Bool)=>[u32K<|vsD vmk A.length,u32K<|O.map u32D]) (λj P1 S1 g=>A.length-j) (λ(j:Nat)(P1:Nat)(S1:Nat)(g:Bool)=>j<=A.length/\csts vmk j (P,S,Ac)=(P1,S1,g)) 0 P S Ac ?_ ?_ ?_
 ·exact⟨by omega,rfl⟩
 ·refine vk 2
 rintro j P1 S1 g ⟨j1,j2⟩;obtain⟨d1,_,_,_⟩:=zTr hC j j1;rw[j2]at d1;have hP1:P1<2^A.length:=zM9 d1.lt;have hS1:S1<4294967296:=zM9 (n:=32) λb hb=>by
  obtain⟨u,_,hu⟩:=(d1.s b).1 hb;exact hv8 u b hu
 rcases Az j A.length with j3|j3
 ·have hsc:=zR1 vmk j (P,S,Ac);rw[j2]at hsc;unfold cst at hsc;simp only at hsc;have w1:=zEu P1 (v:=j) (by omega);have w2:=zY8 (m:=P1) (by omega) j;have w3:=wbit_w0 (m:=P1) (by omega) j;have hhd:=zZa (g:=vmk) j3;have hvj:=hvl j;generalize vmk j=vj at*;cases hbj:P1.testBit j;case true=>
   rw[hbj]at w2 w3;rw[if_neg (λhh=>by rw[hbj]at hh;cases hh.1)]at hsc;refine zB<|zA rfl<|v0s<|veT<|zB<|vT ((j:Int)<(Aa A:Int))<|zL<|zC<|zD<|zB<|zF<|zB<|zA rfl<|veT<|zB<|zA rfl<|vr 3 ((0:Int)<=(j:Int))<|vs 67 (Ak<|Ah Af<|A9 (P1:Int) ((2:Int)^min (As (j:Int)) 32)) (dig (P1>>>j)) (hd:=by simp(disch:=omega) only[Av,w1])<|vrT 1<|vs 68 (Ak<|Ah Af<|Au Af (↑(Ar (Ag 32 (↑(P1>>>j):Int)&&&Ag 32 (1:Int))):Int)) (dig<|Ar (Ag 32 (↑(P1>>>j):Int)&&&Ag 32 (1:Int))) (hd:=by simp(disch:=omega) only[zA8])<|vrT 1<|vs 69 (bD ((↑(Ar (Ag 32 (↑(P1>>>j):Int)&&&Ag 32 (1:Int))):Int)==(0:Int))) (bD Ac) (hd:=by simp(disch:=omega) only[Bool.not_true,w2])<|veT<|vf<|zL<|zE<|zC<|zD<|zA rfl<|vr 2 (i6 ((j:Int)+(1:Int)))<|vnil<|zC<|⟨j+1,P1,S1,g,⟨by omega,hsc⟩,by omega,?_⟩;refine vk 2
  rw[hbj]at w2 w3;have hand:vj&&&S1<4294967296:=Nat.lt_of_le_of_lt Nat.and_le_left hvj;have u1:=zMm hvj hS1;have u2:=zAx hand;by_cases hq:vj&&&S1=0
  ·have u3:(((vj&&&S1:Nat):Int)!=0)=false:=by rw[hq];rfl
   rw[if_neg (λhh=>hh.2 hq)]at hsc;refine zB<|zA rfl<|v0s<|veT<|zB<|vT ((j:Int)<(Aa A:Int))<|zL<|zC<|zD<|zB<|zF<|zB<|zA rfl<|veT<|zB<|zA rfl<|vr 3 ((0:Int)<=(j:Int))<|vs 67 (Ak<|Ah Af<|A9 (P1:Int) ((2:Int)^min (As (j:Int)) 32)) (dig (P1>>>j)) (hd:=by simp(disch:=omega) only[Av,w1])<|vrT 1<|vs 68 (Ak<|Ah Af<|Au Af (↑(Ar (Ag 32 (↑(P1>>>j):Int)&&&Ag 32 (1:Int))):Int)) (dig<|Ar (Ag 32 (↑(P1>>>j):Int)&&&Ag 32 (1:Int))) (hd:=by simp(disch:=omega) only[zA8])<|vrT 1<|vs 69 (bD ((↑(Ar (Ag 32 (↑(P1>>>j):Int)&&&Ag 32 (1:Int))):Int)==(0:Int))) (bD Ab) (hd:=by simp(disch:=omega) only[Bool.not_false,w2])<|vr 4 ((0:Int)<=(j:Int)/\(j:Int)<(Aa A:Int))<|vo 73 0 (j)<|vr 1 (0<Aa (Al j<|AB<|u32K<|vsD vmk<|Aa A))<|vsh 74 hhd<|vrT 2<|vs 76 (Ak<|Ah Af<|Au Af (↑(Ar (Ag 32 (vj:Int)&&&Ag 32 (S1:Int))):Int)) (dig (vj&&&S1)) (hd:=by simp(disch:=omega) only[u2,u1])<|vrT 1<|vs 77 (bD ((↑(vj&&&S1):Int)!=(0:Int))) (bD Ac) (hd:=by simp(disch:=omega) only[u3])<|veT<|vf<|zL<|zE<|zC<|zD<|zA rfl<|vr 2 (i6 ((j:Int)+(1:Int)))<|vnil<|zC<|⟨j+1,P1,S1,g,⟨by omega,hsc⟩,by omega,?_⟩;refine vk 2
  have u3:(((vj&&&S1:Nat):Int)!=0)=true:=by rw[bne_iff_ne];omega
  rw[if_pos ⟨hbj,hq⟩]at hsc;have hp:=zF8 (v:=j) (by omega);have t1:=zEv (v:=j) (by omega);have t2:=zMv (a:=P1) (b:=2^j) (by omega) hp;have t3:=zAx (zLi (a:=P1) (b:=2^j) (by omega) hp);have t4:=zMv hS1 hvj;have t5:=zAx (zLi hS1 hvj);refine zB<|zA rfl<|v0s<|veT<|zB<|vT ((j:Int)<(Aa A:Int))<|zL<|zC<|zD<|zB<|zF<|zB<|zA rfl<|veT<|zB<|zA rfl<|vr 3 ((0:Int)<=(j:Int))<|vs 67 (Ak<|Ah Af<|A9 (P1:Int) ((2:Int)^min (As (j:Int)) 32)) (dig (P1>>>j)) (hd:=by simp(disch:=omega) only[Av,w1])<|vrT 1<|vs 68 (Ak<|Ah Af<|Au Af (↑(Ar (Ag 32 (↑(P1>>>j):Int)&&&Ag 32 (1:Int))):Int)) (dig<|Ar (Ag 32 (↑(P1>>>j):Int)&&&Ag 32 (1:Int))) (hd:=by simp(disch:=omega) only[zA8])<|vrT 1<|vs 69 (bD ((↑(Ar (Ag 32 (↑(P1>>>j):Int)&&&Ag 32 (1:Int))):Int)==(0:Int))) (bD Ab) (hd:=by simp(disch:=omega) only[Bool.not_false,w2])<|vr 4 ((0:Int)<=(j:Int)/\(j:Int)<(Aa A:Int))<|vo 73 0 (j)<|vr 1 (0<Aa (Al j<|AB<|u32K<|vsD vmk<|Aa A))<|vsh 74 hhd<|vrT 2<|vs 76 (Ak<|Ah Af<|Au Af (↑(Ar (Ag 32 (vj:Int)&&&Ag 32 (S1:Int))):Int)) (dig (vj&&&S1)) (hd:=by simp(disch:=omega) only[u1,u2])<|vrT 1<|vs 77 (bD ((↑(vj&&&S1):Int)!=(0:Int))) (bD Ab) (hd:=by simp(disch:=omega) only[u3])<|veT<|vt<|zB<|zA rfl<|vr 3 ((0:Int)<=(j:Int))<|vs 81 (Ak<|Ah Af<|Au Af ((1:Int)*(2:Int)^min (As (j:Int)) 32)) (dig ((2:Nat)^j)) (hd:=by simp(disch:=omega) only[Av,t1])<|vrT 1<|vs 82 (Ak<|Ah Af<|Au Af (↑(Ar (Ag 32 (P1:Int)|||Ag 32 (↑((2:Nat)^j):Int))):Int)) (dig (P1|||(2:Nat)^j)) (hd:=by simp(disch:=omega) only[t2,t3])<|veT<|zB<|zA rfl<|vr 4 ((0:Int)<=(j:Int)/\(j:Int)<(Aa A:Int))<|vo 86 0 (j)<|vr 1 (0<Aa (Al j<|AB<|u32K<|vsD vmk<|Aa A))<|vsh 87 hhd<|vrT 1<|vs 88 (Ak<|Ah Af<|Au Af (↑(Ar (Ag 32 (S1:Int)|||Ag 32 (vj:Int))):Int)) (dig (S1|||vj)) (hd:=by simp(disch:=omega) only[t4,t5])<|veT<|zA rfl<|vrT 1<|vnil<|zE<|zC<|zD<|zA rfl<|vr 2 (i6 ((j:Int)+(1:Int)))<|vnil<|zC<|⟨j+1,P1|||2^j,S1|||vj,Ab,⟨by omega,hsc⟩,by omega,?_⟩;refine vk 2
 obtain rfl:j=A.length:=by omega
 rw[j2]at hr;refine zB<|zA rfl<|v0s<|veT<|zB<|vF ((Aa A:Int)<(Aa A:Int))<|zV<|zM<|zM<|zS rfl<|zE<|zC<|⟨k,P1,S1,g,?_,by omega,?_⟩
 ·cases g
  ·have hr:Ap (P1,S1)=Ap (Q,T):=hr;injection hr with hr;injection hr
  exact⟨d1,hr⟩
 refine vk 2
abbrev u32V(s:Nat):Value:= .int .u32 (s:Int)
abbrev aaK(A:List (List Nat×List Rw)):Bk:=⟨[.row (A.flatMap atN) A.length],30,0,Ac,Ac, .plain⟩
abbrev knB:Bk:=⟨[.mref 1],110,0,Ac,Ac, .plain⟩
abbrev knM(al:Nat->Bool)(ks:List Nat):Bk:=⟨ks.map λs=>bD (al s),110,0,Ab,Ac, .map (ks.map u32V)⟩
abbrev kS(A:List (List Nat×List Rw))(al:Nat->Bool)(ks:List Nat):List Bk:=[aaK A,knM al ks,knB]
abbrev alF:D:= .clo (.func 55) [] [.own 2 0, .own 0 0]
theorem mfind_u(U:List Nat)(z:Nat):zDo (U.map u32V) (u32V z)=if z∈U then Ap (U.idxOf z)else none:=by
 unfold zDo;rw[List.findIdx?_map];have e:(vEq (u32V z)∘u32V)=λx=>decide (z=x):=by
  funext x;show(((z:Nat):Int)==((x:Nat):Int))=decide (z=x);rw[Bool.eq_iff_iff,beq_iff_eq,decide_eq_true_eq];omega
 rw[e];induction U with
 |nil=>rfl
 | cons s U ih=>
  rw[List.findIdx?_cons,ih];by_cases e:z=s
  ·subst e;simp
  have e2:(s==z)=false:=by simpa using λh:s=z=>e h.symm
  simp only[e,decide_false,Bool.false_eq_true,if_false,A6,false_or,List.idxOf_cons,e2,cond_false];split<;>simp
theorem look_u(al:Nat->Bool)(U:List Nat)(z:Nat):zE5 Ab (bD Ac) (U.map u32V) (U.map λs=>bD (al s)) (u32V z)= .tup [bD (decide (z∈U)&&al z),bD (decide (z∈U))]:=by
 unfold zE5;rw[mfind_u];by_cases h:z∈U
 ·rw[if_pos h]
  have:=Bh.2 h
  simp[ctD,AK,this,h,Bi this]
 rw[if_neg h];simp[ctD,h]
theorem mput_u(al:Nat->Bool)(U:List Nat)(z:Nat)(h:z∉U):mput (knM al U) (U.map u32V) (u32V z) (bD (al z))=knM al (U++[z]):=by
 unfold mput;rw[mfind_u,if_neg h];simp
theorem fits_u(U:List Nat):(U.map u32V).all (zT (.int .u32))=true:=by simp[zT]
theorem twcK{N:Nat}{i:FuncId->Bool}:∀k,N<=k->(Twc N i).keep k=false:=λk hk=>decide_eq_false (by omega)
section
variable {A : List (List Nat × List Rw)} (h : AtW A)
include h
set_option maxHeartbeats 2000000 in
theorem zHx(ks:List Nat)(s:Nat)(hs:s<4294967296):Acts Aj 55 [u32D s, .own 2 0, .own 0 0] (kS A (alB A) ks) [] (bD (alB A s)) (kS A (alB A) (kput ks s)):=by
 have hl5:=h.l;have hch:=chosen_c A (by omega) s hs;have hsa:=satC_c h s;have hlk:=look_u (alB A) ks s;unfold kput;by_cases hk:s∈ks
 ·rw[if_pos hk];rw[decide_eq_true hk,Bool.true_and]at hlk;generalize alB A s=b at*;refine zAl (zF0 3 λ_=>Ac) mixed Tryz.func55 rfl (λk hk=>decide_eq_true hk) ?_;focus
   refine zB (zA rfl (v0s (veT (zB (zB (zA rfl (vwh 3 [] [] (0<1/\zT (AF (AG (AH Af) "uint32" 1 4 Ac 4 4 (Ap (Ah Af (0:Int))) Ab #[])) (Ah Af (s:Int))=Ab/\AU (Ad u32V ks) (zT (AF (AG (AH Af) "uint32" 1 4 Ac 4 4 (Ap (Ah Af (0:Int))) Ab #[])))=Ab) ⟨(by omega),?_⟩ ?_)))))));rotate_left;refine vsh 11 hlk (ve (0<2/\1<2) (zB (zA rfl (veT (vt (zB (zA rfl (veT (zJ (zG (zAm (True) [Ak (Value.bool b)] (.inr rfl) ?_)))))))))));rotate_left
  ·exact⟨rfl,fits_u _⟩
  exact⟨by kernel_rfl,by kernel_rfl⟩
 rw[if_neg hk];rw[decide_eq_false hk,Bool.false_and]at hlk;have hmp:=mput_u (alB A) ks s hk;generalize alB A s=b at*;refine zAl (zF0 3 λ_=>Ac) mixed Tryz.func55 rfl (λk hk=>decide_eq_true hk) ?_;focus
  refine zB (zA rfl (v0s (veT (zB (zB (zA rfl (vwh 3 [] [] (0<1/\zT (AF (AG (AH Af) "uint32" 1 4 Ac 4 4 (Ap (Ah Af (0:Int))) Ab #[])) (Ah Af (s:Int))=Ab/\AU (Ad u32V ks) (zT (AF (AG (AH Af) "uint32" 1 4 Ac 4 4 (Ap (Ah Af (0:Int))) Ab #[])))=Ab) ⟨(by omega),?_⟩ ?_)))))));rotate_left;refine vsh 11 hlk (ve (0<2/\1<2) (zB (zA rfl (veT (vf (zL (zC (zD (zB (zA rfl (vr 2 (0<1) (vc (hch) (vc (hsa) (veT (zB (zA rfl (vwh 4 [] [] (0<1/\Bk.fz (knM (alB A) ks)=Ac/\zT (AF (AG (AH Af) "uint32" 1 4 Ac 4 4 (Ap (Ah Af (0:Int))) Ab #[])) (Ah Af (s:Int))=Ab/\AU (Ad u32V ks) (zT (AF (AG (AH Af) "uint32" 1 4 Ac 4 4 (Ap (Ah Af (0:Int))) Ab #[])))=Ab/\¬1∈[]) ⟨(by omega),?_⟩ ?_)))))))))))))))));rotate_left;refine vb 1 (mput (knM (alB A) ks) (Ad u32V ks) (Ah Af (s:Int)) (bD b)) (knM (alB A) (ks++[s])) (hd:=by simp(disch:=omega) only[hmp]) (veT (zB (zA rfl (veT (zJ (zAm (True) [Ak (Value.bool b)] (.inr rfl) ?_))))));rotate_left
 ·exact⟨rfl,fits_u _⟩
 ·exact⟨rfl,rfl,fits_u _,by decide⟩
 exact⟨by kernel_rfl,by kernel_rfl⟩
set_option maxHeartbeats 2000000 in
theorem indexA_a(ks sets:List Nat)(hb:sets.length<=100000000)(hs:∀s∈sets,s<4294967296):∃z:Int,((z=-1/\sets.find? (alB A)=none)\/∃p:Nat,p<sets.length/\z=p/\sets.find? (alB A)=Ap (sets.getD p 0))/\Acts Aj 77 [.row (sets.map u32D) sets.length,alF] (kS A (alB A) ks) [] (iD z) (kS A (alB A) (idxK (alB A) sets ks)):=by
 rcases fst_or (alB A) sets with⟨p,p1,p2,p3⟩|hno
 ·obtain⟨f1,f2⟩:=find_aa p1 p2 p3;refine⟨p, .inr ⟨p,p1,rfl,f1⟩,?_⟩;unfold idxK;rw[f2];simp only;clear f1 f2;refine zAl (zF0 3 λf=>f==55) mixed Tryz.func77 rfl (λk hk=>decide_eq_true hk)<|zB<|zA rfl<|v0s<|veT<|zB<|zB<|zA rfl<|veT<|zF<|zQ (λ(i:Nat)=>fr 19 [(0,Ae (Ad u32D sets)<|Aa sets),(1,alF),(7,iD (Aa sets:Int)),(8,iD (i:Int))]) (λ(i:Nat)=>kS A (alB A) (zDb ks<|sets.take i)) (λ(i:Nat)=>p-i) (λ(i:Nat)=>i<=p) 0 ?_ ?_ ?_
  ·omega
  ·refine vk 3 ?_;exact twcK
  rintro i h1;have hx:=zCf sets i (by omega);have hne:sets.map u32D≠[]:=zAb;have hm:=zHx h (zDb ks (sets.take i)) (sets.getD i 0) (zE9 hs (by omega));rw[<-zGb,<-zCy sets i (by omega)]at hm;rcases Az i p with h2|h2
  ·rw[p3 i h2]at hm;generalize sets.getD i 0=s at*;refine zB<|zA rfl<|v0s<|veT<|zB<|vT ((i:Int)<(Aa sets:Int))<|zL<|zC<|zD<|zB<|zF<|zB<|zA rfl<|veT<|zB<|zA rfl<|vr 4 (ix (i:Int) (Aa sets:Int) (Ad u32D sets≠[]))<|vp 14 (i) (Ad u32D sets)<|vr 1 (0<Aa (Al i<|Ad u32D sets))<|vsh 15 hx<|vnt [aaK A,knM (alB A)<|zDb ks<|Ax i sets,knB]<|zAz [] [] [dig s,Am 2 0,Am 0 0] [dig s,Am 2 0,Am 0 0] (AJ _) (by exact hm) ?_;refine v0s<|veT<|vf<|zL<|zE<|zC<|zD<|zA rfl<|vr 2 (i6 ((i:Int)+(1:Int)))<|vnil<|zC<|⟨i+1,by omega,by omega,?_⟩;refine vk 3 ?_;exact twcK
  obtain rfl:i=p:=by omega
  rw[p2]at hm;generalize sets.getD i 0=s at*;refine zB<|zA rfl<|v0s<|veT<|zB<|vT ((i:Int)<(Aa sets:Int))<|zL<|zC<|zD<|zB<|zF<|zB<|zA rfl<|veT<|zB<|zA rfl<|vr 4 (ix (i:Int) (Aa sets:Int) (Ad u32D sets≠[]))<|vp 14 (i) (Ad u32D sets)<|vr 1 (0<Aa (Al i<|Ad u32D sets))<|vsh 15 hx<|vnt [aaK A,knM (alB A)<|zDb ks<|Ax i sets,knB]<|zAz [] [] [dig s,Am 2 0,Am 0 0] [dig s,Am 2 0,Am 0 0] (AJ _) (by exact hm) ?_;refine v0s<|veT<|vt<|zB<|zA rfl<|veT<|zJ<|zN<|zG<|zG<|zN<|zG<|zAm (True) [Ak<|Ah Aq (i:Int)] (.inr rfl) ?_;exact⟨by kernel_rfl,by kernel_rfl⟩
 obtain⟨f1,f2⟩:=find_nn hno;refine⟨-1, .inl ⟨rfl,f1⟩,?_⟩;unfold idxK;rw[f2];simp only;clear f1 f2;refine zAl (zF0 3 λf=>f==55) mixed Tryz.func77 rfl (λk hk=>decide_eq_true hk)<|zB<|zA rfl<|v0s<|veT<|zB<|zB<|zA rfl<|veT<|zF<|zQ (λ(i:Nat)=>fr 19 [(0,Ae (Ad u32D sets)<|Aa sets),(1,alF),(7,iD (Aa sets:Int)),(8,iD (i:Int))]) (λ(i:Nat)=>kS A (alB A) (zDb ks<|sets.take i)) (λ(i:Nat)=>sets.length-i) (λ(i:Nat)=>i<=sets.length) 0 ?_ ?_ ?_
 ·omega
 ·refine vk 3 ?_;exact twcK
 rintro i h1;rcases Az i sets.length with h2|h2
 ·have hx:=zCf sets i h2;have hne:sets.map u32D≠[]:=zAb;have hm:=zHx h (zDb ks (sets.take i)) (sets.getD i 0) (zE9 hs h2);rw[<-zGb,<-zCy sets i h2]at hm;rw[hno i h2]at hm;generalize sets.getD i 0=s at*;refine zB<|zA rfl<|v0s<|veT<|zB<|vT ((i:Int)<(Aa sets:Int))<|zL<|zC<|zD<|zB<|zF<|zB<|zA rfl<|veT<|zB<|zA rfl<|vr 4 (ix (i:Int) (Aa sets:Int) (Ad u32D sets≠[]))<|vp 14 (i) (Ad u32D sets)<|vr 1 (0<Aa (Al i<|Ad u32D sets))<|vsh 15 hx<|vnt [aaK A,knM (alB A)<|zDb ks<|Ax i sets,knB]<|zAz [] [] [dig s,Am 2 0,Am 0 0] [dig s,Am 2 0,Am 0 0] (AJ _) (by exact hm) ?_;refine v0s<|veT<|vf<|zL<|zE<|zC<|zD<|zA rfl<|vr 2 (i6 ((i:Int)+(1:Int)))<|vnil<|zC<|⟨i+1,by omega,by omega,?_⟩;refine vk 3 ?_;exact twcK
 obtain rfl:i=sets.length:=by omega
 rw[AR];refine zB<|zA rfl<|v0s<|veT<|zB<|vF ((Aa sets:Int)<(Aa sets:Int))<|zV<|zM<|zM<|zS rfl<|zC<|zD<|zB<|zA rfl<|veT<|zJ<|zAm (True) [Ak<|Ah Aq (-1:Int)] (.inr rfl) ?_;exact⟨by kernel_rfl,by kernel_rfl⟩
set_option maxHeartbeats 8000000 in
theorem zTv(part:Nat)(hp:part<1024):∃r,zJ6 (alB A) part (part+2) [0]=Ap r/\∀ks,∃ks',Acts Aj 57 [u32D part,alF] (kS A (alB A) ks) [] (.row (r.map u32D) r.length) (kS A (alB A) ks'):=by
 obtain⟨r,hr,_⟩:=zMa (part+2) [] [0] (zEm (alB A) part) (by show part+1-0<part+2;omega);refine⟨r,hr,λks0=>?_⟩;obtain⟨ks',hk⟩:=zXi (part+2) [0] ks0 hr;refine⟨ks',?_⟩;refine zAl (zF0 3 λf=>f==55||f==77) mixed Tryz.func57 rfl (λk hk=>decide_eq_true hk)<|zB<|zA rfl<|v0s<|veT<|zB<|zA rfl<|ve ((1=1/\1<=1/\True)/\0<1/\1=1/\1<=16777216/\1<=9223372036854775807)<|zF<|zBg (λ(k:Nat)(sets:List Nat)(ks:List Nat)=>fr 48 [(0,u32D part),(1,alF),(5,Ae (Ad u32D sets)<|Aa sets)]) (λ(k:Nat)(sets:List Nat)(ks:List Nat)=>kS A (alB A) ks) (λk sets ks=>k) (λ(k:Nat)(sets:List Nat)(ks:List Nat)=>confK (alB A) part k sets ks=Ap (r,ks')/\∃Cs,Cnf (alB A) part Cs sets/\sets.Nodup) (part+2) [0] ks0 ?_ ?_ ?_
 ·exact⟨hk,[],zEm (alB A) part,by simp⟩
 ·refine wkn (fr 48 [(0,u32D part),(1,alF),(4,nl),(5,Ao 3 0 1 1 Ab)]) [aaK A,knM (alB A) ks0,knB,Aw [Ak (Ah Af (0:Int))] 97 1 Ab Ac AE] ?_;refine(Weak.frzSlot (s:=5) (d:= .osl 3 0 1 1 Ab) (x:= .row [u32D 0] 1) (ks:=[3]) (by kernel_rfl) rfl).trans ?_;refine vk 3 ?_;exact twcK
 rintro k sets ks ⟨hJ,Cs,hC,hnd⟩;obtain⟨k,rfl⟩:∃k',k=k'+1:=by
  cases k with
  |zero=>cases hJ
  |succ k=>exact⟨k,rfl⟩
 unfold confK at hJ;have hlen:=cnf_few hC hnd;have hlt:∀s∈sets,s<4294967296:=λs hs=>by have:=sub_le (hC.sub s hs);omega
 obtain⟨z,hz,hix⟩:=indexA_a h ks sets (by omega) hlt;generalize idxK (alB A) sets ks=ks1 at*;rcases hz with⟨rfl,hf⟩|⟨p,p1,rfl,hf⟩
 ·rw[hf]at hJ;injection hJ with hJ;injection hJ with e1 e2;subst e1;subst e2;refine zF<|zB<|zA rfl<|v0s<|vrT 2<|vnt [aaK A,knM (alB A) ks,knB]<|zAz [] [] [Ae (Ad u32D sets)<|Aa sets,D.clo (Fn.func 55) [] [Am 2 0,Am 0 0]] [Ae (Ad u32D sets)<|Aa sets,D.clo (Fn.func 55) [] [Am 2 0,Am 0 0]] (AJ _) (by exact hix) ?_;refine v0s<|veT<|zB<|zB<|zA rfl<|veT<|vt<|zB<|zA rfl<|veT<|zJ<|zG<|zN<|zG<|zN ?_;refine zAm (True) [Ae (Ad u32D sets)<|Aa sets] (.inr rfl) ?_;exact⟨by kernel_rfl,by kernel_rfl⟩
 rw[hf]at hJ;have hx:=zCf sets p p1;have hne:sets.map u32D≠[]:=zAb;have hmem:sets.getD p 0∈sets:=List.mem_of_find?_eq_some hf;have hsub:=hC.sub _ hmem;have hcs:=zKn hC hmem;generalize sets.getD p 0=s at*;simp only at hJ;have hsp:=sub_le hsub;refine zF<|zB<|zA rfl<|v0s<|vrT 2<|vnt [aaK A,knM (alB A) ks,knB]<|zAz [] [] [Ae (Ad u32D sets)<|Aa sets,D.clo (Fn.func 55) [] [Am 2 0,Am 0 0]] [Ae (Ad u32D sets)<|Aa sets,D.clo (Fn.func 55) [] [Am 2 0,Am 0 0]] (AJ _) (by exact hix) ?_;refine v0s<|veT<|zB<|zB<|zA rfl<|veT<|vF ((p:Int)<0)<|zL<|zC<|zD<|zB<|zA rfl<|vr 3 (ix (p:Int) (Aa sets:Int) (Ad u32D sets≠[]))<|vp 19 (p) (Ad u32D sets)<|vr 1 (0<Aa (Al p<|Ad u32D sets))<|vsh 20 hx<|veT<|zB<|zB<|zA rfl<|veT<|zF<|zBg (λ(i:Nat)(w:Nat)(kk:List Nat)=>fr 48 [(0,u32D part),(1,alF),(5,Ae (Ad u32D sets)<|Aa sets),(7,u32D w),(21,iD (i:Int))]) (λ(i:Nat)(w:Nat)(kk:List Nat)=>kS A (alB A) kk) (λi w kk=>32-i) (λ(i:Nat)(w:Nat)(kk:List Nat)=>i<=32/\zLz (alB A) part (AM i) (s,ks1)=(w,kk)) 0 s ks1 ?_ ?_ ?_
 ·exact⟨by omega,rfl⟩
 ·refine vk 3 ?_;exact twcK
 rintro i w kk ⟨i1,i2⟩;have hw1:=zW8 (al:=alB A) (part:=part) (AM i) (s,ks1);rw[i2]at hw1;have hw1:w=zEk (alB A) part (AM i) s:=hw1;have hwp:w<=part:=by rw[hw1];exact sub_le (zHs _ _ hsub)
 rcases Az i 32 with i3|i3
 ·have hsn:=zTg (alB A) part (AM i) (s,ks1) i;rw[<-List.range_succ,i2]at hsn;unfold gstep at hsn;simp only at hsn;have hpw:=zF8 i3;have v1:=zEv i3;have v2:=zMm (a:=part) (b:=2^i) (by omega) hpw;have v3:part&&&2^i<=part:=Nat.and_le_left;have v4:=zAx (n:=part&&&2^i) (by omega);have v5:=an_eq (a:=part&&&2^i) (b:=w) (d:=dif (part&&&2^i) w) (by omega) (by omega) λj=>zBs _ _ j;have v6:=dif_le (part&&&2^i) w;have v7:=zAx (n:=dif (part&&&2^i) w) (by omega);generalize dif (part&&&2^i) w=d at*;by_cases hd:d=0
  ·have v8:(((d:Nat):Int)!=0)=false:=by rw[hd];rfl
   rw[if_pos hd]at hsn;refine zB<|zA rfl<|v0s<|veT<|zB<|vT ((i:Int)<(32:Int))<|zL<|zC<|zD<|zB<|zF<|zB<|zA rfl<|veT<|zB<|zA rfl<|vr 3 ((0:Int)<=(i:Int))<|vs 26 (Ak<|Ah Af<|Au Af ((1:Int)*(2:Int)^min (As (i:Int)) 32)) (dig ((2:Nat)^i)) (hd:=by simp(disch:=omega) only[Av,v1])<|vrT 1<|vs 27 (Ak<|Ah Af<|Au Af (↑(Ar (Ag 32 (part:Int)&&&Ag 32 (↑((2:Nat)^i):Int))):Int)) (dig (part&&&(2:Nat)^i)) (hd:=by simp(disch:=omega) only[v4,v2])<|vrT 2<|vs 29 (Ak<|Ah Af<|Au Af (↑(Ar (Ag 32 (↑(part&&&(2:Nat)^i):Int)&&&~~~Ag 32 (w:Int))):Int)) (dig d) (hd:=by simp(disch:=omega) only[v5,v7])<|veT<|zB<|zA rfl<|vrT 2<|vs 31 (bD ((d:Int)!=(0:Int))) (bD Ac) (hd:=by simp(disch:=omega) only[v8])<|veT<|vf<|zL<|zE<|zC<|zD<|zA rfl<|vr 2 (i6 ((i:Int)+(1:Int)))<|vnil<|zC<|⟨i+1,w,kk,⟨by omega,hsn⟩,by omega,?_⟩;refine vk 3 ?_;exact twcK
  have v8:(((d:Nat):Int)!=0)=true:=by rw[bne_iff_ne];omega
  rw[if_neg hd]at hsn;have u1:=zMv (a:=w) (b:=d) (by omega) (by omega);have u2:=zLi (a:=w) (b:=d) (by omega) (by omega);have u3:=zAx u2;have hal:=zHx h kk (w|||d) u2;cases hb:alB A (w|||d)
  ·rw[hb]at hal hsn;rw[if_neg (by decide)]at hsn;refine zB<|zA rfl<|v0s<|veT<|zB<|vT ((i:Int)<(32:Int))<|zL<|zC<|zD<|zB<|zF<|zB<|zA rfl<|veT<|zB<|zA rfl<|vr 3 ((0:Int)<=(i:Int))<|vs 26 (Ak<|Ah Af<|Au Af ((1:Int)*(2:Int)^min (As (i:Int)) 32)) (dig ((2:Nat)^i)) (hd:=by simp(disch:=omega) only[Av,v1])<|vrT 1<|vs 27 (Ak<|Ah Af<|Au Af (↑(Ar (Ag 32 (part:Int)&&&Ag 32 (↑((2:Nat)^i):Int))):Int)) (dig (part&&&(2:Nat)^i)) (hd:=by simp(disch:=omega) only[v2,v4])<|vrT 2<|vs 29 (Ak<|Ah Af<|Au Af (↑(Ar (Ag 32 (↑(part&&&(2:Nat)^i):Int)&&&~~~Ag 32 (w:Int))):Int)) (dig d) (hd:=by simp(disch:=omega) only[v7,v5])<|veT<|zB<|zA rfl<|vrT 2<|vs 31 (bD ((d:Int)!=(0:Int))) (bD Ab) (hd:=by simp(disch:=omega) only[v8])<|vrT 5<|vs 36 (Ak<|Ah Af<|Au Af (↑(Ar (Ag 32 (w:Int)|||Ag 32 (d:Int))):Int)) (dig (w|||d)) (hd:=by simp(disch:=omega) only[u3,u1])<|vnt [aaK A,knM (alB A) kk,knB]<|zAz [] [] [dig (w|||d),Am 2 0,Am 0 0] [dig (w|||d),Am 2 0,Am 0 0] (AJ _) (by exact hal) ?_;refine v0s<|veT<|vf<|zL<|zE<|zC<|zD<|zA rfl<|vr 2 (i6 ((i:Int)+(1:Int)))<|vnil<|zC<|⟨i+1,w,kput kk (w|||d),⟨by omega,hsn⟩,by omega,?_⟩;refine vk 3 ?_;exact twcK
  rw[hb]at hal hsn;rw[if_pos rfl]at hsn;refine zB<|zA rfl<|v0s<|veT<|zB<|vT ((i:Int)<(32:Int))<|zL<|zC<|zD<|zB<|zF<|zB<|zA rfl<|veT<|zB<|zA rfl<|vr 3 ((0:Int)<=(i:Int))<|vs 26 (Ak<|Ah Af<|Au Af ((1:Int)*(2:Int)^min (As (i:Int)) 32)) (dig ((2:Nat)^i)) (hd:=by simp(disch:=omega) only[Av,v1])<|vrT 1<|vs 27 (Ak<|Ah Af<|Au Af (↑(Ar (Ag 32 (part:Int)&&&Ag 32 (↑((2:Nat)^i):Int))):Int)) (dig (part&&&(2:Nat)^i)) (hd:=by simp(disch:=omega) only[v4,v2])<|vrT 2<|vs 29 (Ak<|Ah Af<|Au Af (↑(Ar (Ag 32 (↑(part&&&(2:Nat)^i):Int)&&&~~~Ag 32 (w:Int))):Int)) (dig d) (hd:=by simp(disch:=omega) only[v5,v7])<|veT<|zB<|zA rfl<|vrT 2<|vs 31 (bD ((d:Int)!=(0:Int))) (bD Ab) (hd:=by simp(disch:=omega) only[v8])<|vrT 5<|vs 36 (Ak<|Ah Af<|Au Af (↑(Ar (Ag 32 (w:Int)|||Ag 32 (d:Int))):Int)) (dig (w|||d)) (hd:=by simp(disch:=omega) only[u1,u3])<|vnt [aaK A,knM (alB A) kk,knB]<|zAz [] [] [dig (w|||d),Am 2 0,Am 0 0] [dig (w|||d),Am 2 0,Am 0 0] (AJ _) (by exact hal) ?_;refine v0s<|veT<|vt<|zA rfl<|vrT 3<|vs 41 (Ak<|Ah Af<|Au Af (↑(Ar (Ag 32 (w:Int)|||Ag 32 (d:Int))):Int)) (dig (w|||d)) (hd:=by simp(disch:=omega) only[u1,u3])<|vrT 1<|vnil<|zE<|zC<|zD<|zA rfl<|vr 2 (i6 ((i:Int)+(1:Int)))<|vnil<|zC<|⟨i+1,w|||d,kput kk (w|||d),⟨by omega,hsn⟩,by omega,?_⟩;refine vk 3 ?_;exact twcK
 obtain rfl:i=32:=by omega
 rw[i2,<-hw1]at hJ;rw[<-hw1]at hcs;simp only at hJ;have v5:=an_eq (a:=part) (b:=w) (d:=dif part w) (by omega) (by omega) λj=>zBs _ _ j;have v6:=dif_le part w;have v7:=zAx (n:=dif part w) (by omega);have hmt:=meeting_c sets (dif part w) (by omega) hlt (by omega);have hnd2:=meet_nd (dif part w) hnd;generalize zDy sets (dif part w)=sets2 at*;refine zB<|zA rfl<|v0s<|veT<|zB<|vf<|zV<|zM<|zM<|zS rfl<|zC<|zD<|zA rfl<|vrT 4<|vs 46 (Ak<|Ah Af<|Au Af (↑(Ar (Ag 32 (part:Int)&&&~~~Ag 32 (w:Int))):Int)) (dig<|dif part w) (hd:=by simp(disch:=omega) only[v5,v7])<|vc (hmt)<|vrT 1<|vnil<|zE<|zC<|⟨k,sets2,kk,⟨hJ,_,hcs,hnd2⟩,by omega,?_⟩;refine vk 3 ?_;exact twcK
end
def bestD:Option (List Int)->D
 |none=>nl0
 |some l=> .row (itsD l) l.length
abbrev resD(o:Option (List Int)):D:= .row (itsD (o.getD [])) (o.getD []).length
set_option maxHeartbeats 8000000 in
theorem firstC_c{A:List (List Nat×List Rw)}(h:AtW A):Pure Aj 35 [.row (A.flatMap atN) A.length] [] (resD (zP3 A)):=by
 have hl5:=h.l;obtain⟨hp1,hp2,hp3⟩:=zQ5 A;have hp32:∀P∈zDs A,P<32:=λP hP=>by
  have h3:=sub_le (hp1 P hP).2;have h4:2^A.length<=2^5:=Bg (by omega) hl5
  have:=Nat.two_pow_pos A.length
  omega
 have hco:=comps_c A h;obtain⟨o,ho⟩:∃o,o=zP3 A:=⟨_,rfl⟩;have hob:(((zDs A).flatMap (cflA A)).map memL).foldl bstS none=o:=ho.symm;rw[<-ho];clear ho hp1 hp2;generalize zDs A=ps at*;refine zH (zF0 0 λf=>f==55||f==57) mixed Tryz.func35 rfl<|zB<|zA rfl<|v0s<|veT<|zB<|zA rfl<|ve (True/\Ac=Ac/\Ab=Ab/\1=1/\1<=1)<|zB<|zA rfl<|veT<|zB<|zA rfl<|veT<|zB<|zB<|zA rfl<|vr 1 (0<1)<|vc (hco)<|veT<|zF<|zBg (λ(i:Nat)(o:Option (List Int))(ks:List Nat)=>fr 45 [(2,nl),(4,D.clo (Fn.func 55) [] [Am 2 0,Am 0 0]),(5,bestD o),(14,Ae (Ad u32D ps)<|Aa ps),(15,iD (Aa ps:Int)),(16,iD (i:Int))]) (λ(i:Nat)(o:Option (List Int))(ks:List Nat)=>kS A (alB A) ks) (λi o ks=>ps.length-i) (λ(i:Nat)(o:Option (List Int))(ks:List Nat)=>i<=ps.length/\o=(((ps.take i).flatMap (cflA A)).map memL).foldl bstS none) 0 none [] ?_ ?_ ?_
 ·exact⟨by omega,rfl⟩
 ·refine vk 3
 rintro i u ks ⟨i1,i2⟩;rcases Az i ps.length with i3|i3;case inr=>
  rw[AI i3,hob]at i2;subst i2;rcases u with _|l0
  ·refine zB<|zA rfl<|v0s<|veT<|zB<|vF ((i:Int)<(Aa ps:Int))<|zV<|zM<|zM<|zS rfl<|zC<|zD<|zB<|zA rfl<|veT<|zJ<|vret (True)<|.inr rfl
  refine zB<|zA rfl<|v0s<|veT<|zB<|vF ((i:Int)<(Aa ps:Int))<|zV<|zM<|zM<|zS rfl<|zC<|zD<|zB<|zA rfl<|veT<|zJ<|vret (True)<|.inr rfl
 have hx:=zCf ps i i3;have hne:ps.map u32D≠[]:=zAb;have hP:=zE9 hp32 i3;have hsu:(((ps.take (i+1)).flatMap (cflA A)).map memL).foldl bstS none=((cflA A (ps.getD i 0)).map memL).foldl bstS u:=by
  rw[zCy ps i i3,List.flatMap_append,A2,List.foldl_append,<-i2,List.flatMap_singleton]
 have hune:∀b,u=Ap b->0<b.length/\b.length<=32:=λb hb=>by
  rw[i2]at hb;have hall:∀x∈((ps.take i).flatMap (cflA A)).map memL,0<x.length:=λx hx=>by
   obtain⟨s,hs,rfl⟩:=A0.1 hx;obtain⟨P,hP,hs⟩:=A_.1 hs;have hP:=hp32 P (Bf hP)
   have:=cfl_ok A (P:=P) (by omega) hs
   exact memL_ne this.1 this.2
  exact⟨bst_ne _ none hall (λb hb=>by cases hb) b hb,zT9 _ none (λx hx=>by
   obtain⟨s,hs,rfl⟩:=A0.1 hx;exact zPh s) (λb hb=>by cases hb) b hb⟩
 have hcf:=λs=>cfl_ok A (P:=ps.getD i 0) (by omega) (s:=s);have hcd:alB A (ps.getD i 0)=Ab->cflA A (ps.getD i 0)=[]:=λhh=>by
  unfold cflA;rw[if_pos hh]
 have hcd2:alB A (ps.getD i 0)=Ac->cflA A (ps.getD i 0)=(zJ6 (alB A) (ps.getD i 0) (ps.getD i 0+2) [0]).getD []:=λhh=>by
  unfold cflA;rw[if_neg (by rw[hh];decide)]
 generalize ps.getD i 0=P at*;have hal:=zHx h ks P (by omega);cases hb:alB A P;case true=>
  rw[hb]at hal;rw[hcd hb]at hsu;refine zB<|zA rfl<|v0s<|veT<|zB<|vT ((i:Int)<(Aa ps:Int))<|zL<|zC<|zD<|zB<|zF<|zB<|zA rfl<|vr 1 (ix (i:Int) (Aa ps:Int) (Ad u32D ps≠[]))<|vp 18 (i) (Ad u32D ps)<|vr 1 (0<Aa (Al i<|Ad u32D ps))<|vsh 19 hx<|veT<|zB<|zB<|zA rfl<|vrT 2<|vnt [aaK A,knM (alB A) ks,knB]<|zAz [] [] [dig P,Am 2 0,Am 0 0] [dig P,Am 2 0,Am 0 0] (AJ _) (by exact hal) ?_;refine v0s<|veT<|vt<|zV<|zM<|zS rfl<|zC<|zD<|zA rfl<|vr 2 (i6 ((i:Int)+(1:Int)))<|vnil<|zC<|⟨i+1,u,kput ks P,⟨by omega,hsu.symm⟩,by omega,?_⟩;rcases u with _|b0
  ·refine vk 3
  refine vk 3
 rw[hb]at hal;obtain⟨r,hr,hcn⟩:=zTv h P (by omega);obtain⟨ks2,hcn⟩:=hcn (kput ks P);rw[hcd2 hb,hr]at hsu hcf;have hsu:(((ps.take (i+1)).flatMap (cflA A)).map memL).foldl bstS none=(r.map memL).foldl bstS u:=hsu;have hcf:∀s,s∈r->s<2^32/\s≠0:=hcf;have hrl:=zXh (P+2) [] [0] r (zEm (alB A) P) (by simp) hr;clear hcd hcd2 hr;refine zB<|zA rfl<|v0s<|veT<|zB<|vT ((i:Int)<(Aa ps:Int))<|zL<|zC<|zD<|zB<|zF<|zB<|zA rfl<|vr 1 (ix (i:Int) (Aa ps:Int) (Ad u32D ps≠[]))<|vp 18 (i) (Ad u32D ps)<|vr 1 (0<Aa (Al i<|Ad u32D ps))<|vsh 19 hx<|veT<|zB<|zB<|zA rfl<|vrT 2<|vnt [aaK A,knM (alB A) ks,knB]<|zAz [] [] [dig P,Am 2 0,Am 0 0] [dig P,Am 2 0,Am 0 0] (AJ _) (by exact hal) ?_;refine v0s<|veT<|vf<|zL<|zC<|zD<|zB<|zA rfl<|vrT 2<|vnt [Aw [Ae (Ai atN A)<|Aa A] 30 0 Ac Ac AE,Aw (Ad (λ(s:Nat)=>bD (alB A s))<|kput ks P) 110 0 Ab Ac<|Kd.map<|Ad u32V<|kput ks P,Aw [D.mref 1] 110 0 Ac Ac AE]<|zAz [] [] [dig P,D.clo (Fn.func 55) [] [Am 2 0,Am 0 0]] [dig P,D.clo (Fn.func 55) [] [Am 2 0,Am 0 0]] (AJ _) (by exact hcn) ?_;refine v0s<|veT<|zF<|zAu (λ(j:Nat)(v:Option (List Int))=>fr 45 [(2,nl),(4,D.clo (Fn.func 55) [] [Am 2 0,Am 0 0]),(5,bestD v),(14,Ae (Ad u32D ps)<|Aa ps),(15,iD (Aa ps:Int)),(16,iD (i:Int)),(25,Ae (Ad u32D r)<|Aa r),(26,iD (Aa r:Int)),(27,iD (j:Int))]) (λ(j:Nat)(v:Option (List Int))=>kS A (alB A) ks2) (λj v=>r.length-j) (λ(j:Nat)(v:Option (List Int))=>j<=r.length/\v=((r.take j).map memL).foldl bstS u) 0 u ?_ ?_ ?_
 ·exact⟨by omega,rfl⟩
 ·rcases u with _|b0
  ·refine vk 3
  refine vk 3
 rintro j v ⟨j1,j2⟩;rcases Az j r.length with j3|j3
 ·have hx:=zCf r j j3;have hne:r.map u32D≠[]:=zAb;have hst:((r.take (j+1)).map memL).foldl bstS u=bstS v (memL (r.getD j 0)):=by
   rw[zCy r j j3,A2,List.foldl_append,<-j2];rfl
  have hvne:∀b,v=Ap b->0<b.length/\b.length<=32:=λb hb=>by
   rw[j2]at hb;exact⟨bst_ne _ u (λx hx=>by
    obtain⟨s,hs,rfl⟩:=A0.1 hx
    have:=hcf s (Bf hs)
    exact memL_ne this.1 this.2) (λb hb=>(hune b hb).1) b hb,zT9 _ u (λx hx=>by
    obtain⟨s,hs,rfl⟩:=A0.1 hx;exact zPh s) (λb hb=>(hune b hb).2) b hb⟩
  have hs:=hcf (r.getD j 0) (zAc r 0 j j3);have hme:=wmem_c (r.getD j 0) (by omega);have hml:=zPh (r.getD j 0);generalize memL (r.getD j 0)=l at*;generalize r.getD j 0=s at*;cases v with
  |none=>
   refine zB<|zA rfl<|v0s<|veT<|zB<|vT ((j:Int)<(Aa r:Int))<|zL<|zC<|zD<|zB<|zF<|zB<|zA rfl<|vr 1 (ix (j:Int) (Aa r:Int) (Ad u32D r≠[]))<|vp 29 (j) (Ad u32D r)<|vr 1 (0<Aa (Al j<|Ad u32D r))<|vsh 30 hx<|veT<|zB<|zA rfl<|vrT 1<|vc (hme)<|veT<|zB<|zA rfl<|veT<|vt<|zA rfl<|vrT 2<|vnil<|zE<|zC<|zD<|zA rfl<|vr 2 (i6 ((j:Int)+(1:Int)))<|vnil<|zC<|⟨j+1,Ap l,⟨by omega,hst.symm⟩,by omega,?_⟩;refine vk 3
  | some b=>
   obtain⟨b1,b2⟩:=hvne b rfl;have hcm:=scmp_cY l b l.length b.length rfl rfl (by omega) (by omega);have hst:((r.take (j+1)).map memL).foldl bstS u=if lcmp l b<0 then Ap l else Ap b:=hst
   generalize lcmp l b=z at*;by_cases hz:z<0
   ·rw[if_pos hz]at hst;refine zB<|zA rfl<|v0s<|veT<|zB<|vT ((j:Int)<(Aa r:Int))<|zL<|zC<|zD<|zB<|zF<|zB<|zA rfl<|vr 1 (ix (j:Int) (Aa r:Int) (Ad u32D r≠[]))<|vp 29 (j) (Ad u32D r)<|vr 1 (0<Aa (Al j<|Ad u32D r))<|vsh 30 hx<|veT<|zB<|zA rfl<|vrT 1<|vc (hme)<|veT<|zB<|zA rfl<|vr 5 (0<Aa b)<|vc (hcm)<|veT<|vT (z<0)<|zA rfl<|vrT 2<|vnil<|zE<|zC<|zD<|zA rfl<|vr 2 (i6 ((j:Int)+(1:Int)))<|vnil<|zC<|⟨j+1,Ap l,⟨by omega,hst.symm⟩,by omega,?_⟩;refine vk 3
   rw[if_neg hz]at hst;refine zB<|zA rfl<|v0s<|veT<|zB<|vT ((j:Int)<(Aa r:Int))<|zL<|zC<|zD<|zB<|zF<|zB<|zA rfl<|vr 1 (ix (j:Int) (Aa r:Int) (Ad u32D r≠[]))<|vp 29 (j) (Ad u32D r)<|vr 1 (0<Aa (Al j<|Ad u32D r))<|vsh 30 hx<|veT<|zB<|zA rfl<|vrT 1<|vc (hme)<|veT<|zB<|zA rfl<|vr 5 (0<Aa b)<|vc (hcm)<|veT<|vF (z<0)<|zL<|zE<|zC<|zD<|zA rfl<|vr 2 (i6 ((j:Int)+(1:Int)))<|vnil<|zC<|⟨j+1,Ap b,⟨by omega,hst.symm⟩,by omega,?_⟩;refine vk 3
 obtain rfl:j=r.length:=by omega
 rw[AR]at j2;refine zB<|zA rfl<|v0s<|veT<|zB<|vF ((Aa r:Int)<(Aa r:Int))<|zV<|zM<|zM<|zS rfl<|zE<|zC<|zD<|zA rfl<|vr 2 (i6 ((i:Int)+(1:Int)))<|vnil<|zC<|⟨i+1,v,ks2,⟨by omega,by rw[j2,hsu]⟩,by omega,?_⟩;rcases v with _|b0
 ·refine vk 3
 refine vk 3
section
variable (n : Nat) (z1 : Int) (cs2 cs3 : List D) (m2 m3 : Nat) (A : List (List Nat × List Rw)) (r : Rw)
set_option maxHeartbeats 4000000 in
theorem wn_c(h:AtOk n A)(hr:r.length<=n)(k:Nat)(hk:k<=r.length)(hz:(k:Int)-1≠z1)(hck:Pure Aj 33 [.agg (inpA (iD (n:Nat)) (iD z1) (.row cs2 m2) (.row cs3 m3) A),rowV r] [] (iD 0))(hlv:Pure Aj 34 [.agg (inpA (iD (n:Nat)) (iD z1) (.row cs2 m2) (.row cs3 m3) A),rowV r] [] (iD ((k:Int)-1))):Pure Aj 10 [.agg (inpA (iD (n:Nat)) (iD z1) (.row cs2 m2) (.row cs3 m3) A),rowV r] [] (.tup [.agg [iD ((k:Int)-1),resD (zP3 (A.map (zBe (r.take k))))],iD 0]):=by
 have hl5:=h.l;have hn8:=h.n8;have hpl:(r.take k).length=k:=by rw[AZ];omega
 have hre:=zEa A h.r (r.take k) (by omega);rw[show rowV (r.take k)= .row (zK (r.take k)) k by show Ae _ (r.take k).length=_;rw[hpl]]at hre;have hct:=zMi r k;have hcl:=zAj r;have hB:=(h.rest (p:=r.take k) (by omega)).w;have hBl:(A.map (zBe (r.take k))).length=A.length:=AL ..
 have hfc:=firstC_c hB;rw[hBl]at hfc;generalize A.map (zBe (r.take k))=B at*;have hk1:(k:Int)-1+1=(k:Nat):=by omega
 generalize zP3 B=o at*;refine zH zAf mixed Tryz.func10 rfl<|zB<|zA rfl<|v0s<|veT<|zB<|zB<|zA rfl<|vr 2 (5<=5)<|vc (hck)<|veT<|zB<|zA rfl<|veT<|vf<|zL<|zC<|zD<|zB<|zA rfl<|vr 2 (5<=5)<|vc (hlv)<|veT<|zB<|zB<|zA rfl<|ve (True/\0<4/\True)<|vEf ((k:Int)-(1:Int)) (z1)<|zL<|zC<|zD<|zB<|vd [0,1,3,4,5,6,2,7,8,9,10,11]<|vr 5 (True/\i6 ((k:Int)-(1:Int)+(1:Int)))<|vs 28 (iD ((k:Int)-(1:Int)+(1:Int))) (iD (k:Int)) (hd:=by simp(disch:=omega) only[hk1])<|vr 1 (True/\(0:Int)<=(k:Int)/\True/\0<3/\0<=As (k:Int)/\As (k:Int)<=Aa r/\As (k:Int)=As (k:Int))<|vs 29 (Ae (Ax ((As (k:Int)-0)*3)<|Al 0<|zK r) (As (k:Int)-0)) (Ae (zK<|Ax k r) k) (hd:=by simp(disch:=omega) only[Av,Nat.sub_zero,AW,hct])<|vr 1 (0<1)<|vc (hre)<|vc (hfc)<|ve (((1=1/\1<=2/\1=1/\2<=2/\True)/\Ab=Ab)/\Ac=Ac/\Ab=Ab/\2=2/\2<=2)<|zJ<|vret (2<=2)<|.inr rfl
end
theorem zJb(z:Int):Pure Aj 27 [iD z] [] (vaD (nuV z)):=by
 refine zH zAf mixed Tryz.func27 rfl<|vAu<|vA<|ve (((1=1/\1<=3/\1=1/\2<=3/\True)/\Ab=Ab)/\Ac=Ac/\Ab=Ab/\3=3/\3<=3)<|zJ<|vret (3<=3)<|.inr rfl
abbrev whD:D:= .agg (inpA (iD ((3:Nat):Int)) (iD 2) (.row ([Ac,Ac].map bD) 2) (.row ([(2:Int)].map λz=>iD z) 1) whA)
theorem ex_valid:Pure Aj 32 [.agg (csC whC)] [] (.tup [whD,bD Ab]):=by
 obtain⟨m,ok,h1,h2,h3,h4⟩:=valid_c whC whC_s;have hok:=h2.2 ⟨rfl,whC_e,whC_g.ck⟩;have hm:=h3 hok;rw[hok,hm,whC_g.inD,whC_A]at h4;exact h4
theorem ex_chk(r:Rw)(hr:r.length=2):Pure Aj 33 [whD,rowV r] [] (iD 0):=by
 have h:=wchk_c whC whC_s (AY _) r (by omega);rw[whC_g.inD,whC_A]at h;have e:wckE whC whC.V.length r=0:=by
  unfold wckE;rw[whC_g.ck,if_neg (by omega),hr];rfl
 rw[e]at h;exact h
theorem ex_why:Pure Aj 12 [whD,rowV [nuV 1,nuV 7]] [] (.tup [.row [iD 0,rowV [nuV 1,nuV 5],iD 1,rowV [nuV 7,nuV 5]] 2,iD 0]):=by
 obtain⟨y,h1,h2,h3⟩:=why_c 3 2 _ _ 2 1 whA [nuV 1,nuV 7] zFj (by decide) (zSh.1 ex_ans) (ex_chk _ rfl);obtain rfl:=ex_fir h1 h2;exact h3
theorem ex_not1:Pure Aj 10 [whD,rowV [nuV 2,nuV 7]] [] (.tup [.agg [iD 0, .row (itsD [0,1]) 2],iD 0]):=by
 have hl:=level_c 3 whA zFj 3 2 ([Ac,Ac].map bD) ([(2:Int)].map λz=>iD z) 2 1 [nuV 2,nuV 7] (by decide);rw[show[nuV 2,nuV 7].length=2 from rfl,ex_lvl1]at hl;have h:=wn_c 3 2 ([Ac,Ac].map bD) ([(2:Int)].map λz=>iD z) 2 1 whA [nuV 2,nuV 7] zFj (by decide) 1 (by decide) (by decide) (ex_chk _ rfl) hl;rw[ex_best1]at h;exact h
theorem ex_not2:Pure Aj 10 [whD,rowV [nuV 1,nuV 8]] [] (.tup [.agg [iD 1, .row (itsD [1]) 1],iD 0]):=by
 have hl:=level_c 3 whA zFj 3 2 ([Ac,Ac].map bD) ([(2:Int)].map λz=>iD z) 2 1 [nuV 1,nuV 8] (by decide);rw[show[nuV 1,nuV 8].length=2 from rfl,ex_lvl2]at hl;have h:=wn_c 3 2 ([Ac,Ac].map bD) ([(2:Int)].map λz=>iD z) 2 1 whA [nuV 1,nuV 8] zFj (by decide) 2 (by decide) (by decide) (ex_chk _ rfl) hl;rw[ex_best2]at h;exact h
theorem ex_eq1:Pure Aj 17 [.row [iD 0,iD 1] 2, .row [iD 0,iD 1] 2] [] (bD Ab):=zQq [0,1] [0,1] 2 2 rfl rfl (by decide) (by decide)
theorem ex_eq2:Pure Aj 17 [.row [iD 1] 1, .row [iD 1] 1] [] (bD Ab):=zQq [1] [1] 1 1 rfl rfl (by decide) (by decide)
set_option maxHeartbeats 4000000 in
theorem awake50_c:Pure Aj 9 [] [] (bD Ab):=by
 have h1:=ex_valid;have h2:=ex_why;have h3:=ex_not1;have h4:=ex_not2;have h5:=ex_eq1;have h6:=ex_eq2;obtain⟨X,hX⟩:∃X,X=Ae (whA.flatMap atN) 2:=⟨_,rfl⟩;refine zH zAf mixed Tryz.func9 rfl<|vAu<|vA<|vr 5 (((1=1/\1<=2/\1=1/\2<=2/\True)/\0<1/\1=1/\2<=16777216/\2<=9223372036854775807)/\((1=1/\1<=1/\True)/\0<1/\1=1/\1<=16777216/\1<=9223372036854775807)/\((1=1/\1<=2/\1=1/\2<=2/\True)/\0<1/\1=1/\2<=16777216/\2<=9223372036854775807)/\((1=1/\1<=2/\1=1/\2<=2/\True)/\0<1/\1=1/\2<=16777216/\2<=9223372036854775807)/\(1=1/\1<=2/\1=1/\2<=2/\True)/\0<1/\1=1/\2<=16777216/\2<=9223372036854775807)<|vca [iD 1] (by exact zJb _)<|vca [iD 5] (by exact zJb _)<|vr 1 ((3=3/\3<=6/\3=3/\6<=6/\True)/\0<3/\3=3/\6<=16777216/\2<=9223372036854775807)<|vca [iD 2] (by exact zJb _)<|vca [iD 6] (by exact zJb _)<|vr 2 (((3=3/\3<=6/\3=3/\6<=6/\True)/\0<3/\3=3/\6<=16777216/\2<=9223372036854775807)/\(1=1/\1<=2/\1=1/\2<=2/\True)/\0<1/\1=1/\2<=16777216/\2<=9223372036854775807)<|vca [iD 7] (by exact zJb _) ?_;refine vca [iD 5] (by exact zJb _)<|vr 4 (((3=3/\3<=6/\3=3/\6<=6/\True)/\0<3/\3=3/\6<=16777216/\2<=9223372036854775807)/\((1=1/\1<=1/\True)/\0<1/\1=1/\1<=16777216/\1<=9223372036854775807)/\((1=1/\1<=2/\1=1/\2<=2/\True)/\0<1/\1=1/\2<=16777216/\2<=9223372036854775807)/\(1=1/\1<=6/\1=1/\2<=6/\1=1/\3<=6/\1=1/\4<=6/\1=1/\5<=6/\1=1/\6<=6/\True)/\Ab=Ab)<|vc h1<|ve (0<2/\1<2/\Ac=Ac/\Ab=Ab/\5=5/\5<=5)<|zB<|vd [0,1,2,3,4,5,6,7,8,9]<|vr 1 (5<=5)<|vca [iD 1] (by exact zJb _)<|vca [iD 7] (by exact zJb _)<|vr 1 ((3=3/\3<=6/\3=3/\6<=6/\True)/\0<3/\3=3/\6<=16777216/\2<=9223372036854775807)<|vc h2<|ve (0<2/\1<2)<|zB<|vd [0,1,2,3,4,5,6,7,8,9,10]<|vr 1 (5<=5)<|vca [iD 2] (by exact zJb _)<|vca [iD 7] (by exact zJb _)<|vr 1 ((3=3/\3<=6/\3=3/\6<=6/\True)/\0<3/\3=3/\6<=16777216/\2<=9223372036854775807)<|vc h3<|ve (0<2/\1<2/\Ac=Ac/\Ab=Ab/\2=2/\2<=2)<|zB<|vd [0,1,2,3,4,5,6,7,8,9,10]<|vr 1 (5<=5)<|vca [iD 1] (by exact zJb _)<|vca [iD 8] (by exact zJb _)<|vr 1 ((3=3/\3<=6/\3=3/\6<=6/\True)/\0<3/\3=3/\6<=16777216/\2<=9223372036854775807)<|vc h4<|ve (0<2/\1<2/\Ac=Ac/\Ab=Ab/\2=2/\2<=2)<|zB<|vd [0,1,2,3,4,5,6,7,8,9,10,11,12,13,14,15,16,17,18,19,20,21,22,23,24,25,26,27,28,29,30,31,32,33,34,35,36,37,38,39,40,41,42,43,44,45,46,47,48,49,50,51,52,53,54,55,56,57,58,59,60,61,62,63,64,65]<|vr 40 (True/\True/\True/\True/\ix (1:Int) (↑(2:Nat):Int) ([iD 0,Ae [iD 1,iD 1,Ak<|AC<|bs [],iD 1,iD 5,Ak<|AC<|bs []] 2,iD 1,Ae [iD 1,iD 7,Ak<|AC<|bs [],iD 1,iD 5,Ak<|AC<|bs []] 2]≠[])/\True/\0<2/\True/\ix (1:Int) (↑(2:Nat):Int) ([iD 0,Ae [iD 1,iD 1,Ak<|AC<|bs [],iD 1,iD 5,Ak<|AC<|bs []] 2,iD 1,Ae [iD 1,iD 7,Ak<|AC<|bs [],iD 1,iD 5,Ak<|AC<|bs []] 2]≠[])/\True/\0<1/\True/\ix (1:Int) (↑(2:Nat):Int) ([iD 0,Ae [iD 1,iD 1,Ak<|AC<|bs [],iD 1,iD 5,Ak<|AC<|bs []] 2,iD 1,Ae [iD 1,iD 7,Ak<|AC<|bs [],iD 1,iD 5,Ak<|AC<|bs []] 2]≠[])/\True/\0<1/\ix (1:Int) (↑(2:Nat):Int) ([iD 1,iD 7,Ak<|AC<|bs [],iD 1,iD 5,Ak<|AC<|bs []]≠[])/\3<=3)<|vca [iD 5] (by exact zJb _)<|vr 11 (True/\True/\0<2/\True/\True/\0<1/\(1=1/\1<=2/\1=1/\2<=2/\True)/\0<1/\1=1/\2<=16777216/\2<=9223372036854775807)<|vc h5<|vr 10 (True/\0<2/\True/\True/\0<1/\(1=1/\1<=1/\True)/\0<1/\1=1/\1<=16777216/\1<=9223372036854775807)<|vc h6<|veT<|zJ<|vret (True)<|.inr rfl
theorem grt_sho{r:Rw}(h:grtR r=Ac):r.length<=8/\Sho r:=by
 unfold grtR at h;rw[A7,decide_eq_false_iff_not,List.any_eq_false]at h;refine⟨by omega,by omega,λv hv=>?_⟩
 have:=h.2 v hv
 simp only[decide_eq_true_eq]at this;omega
abbrev inqC(n f:Nat)(desc:List Bool)(P:List Int)(x:D):List D:=[iD (n:Nat),iD (f:Nat), .row (desc.map bD) desc.length, .row (P.map λz=>iD z) P.length,x]
abbrev atsR(B:List (List Nat×List Rw)):D:= .row (B.flatMap atN) B.length
abbrev mvB(y:Rw)(K:List Nat):Bk:=⟨K.map λv=>vaD (y.getD v An),102,0,Ab,Ac, .map (K.map λv:Nat=>ivV (v:Int))⟩
theorem zWp(U:List Nat)(z:Nat):zDo (U.map λv:Nat=>ivV (v:Int)) (ivV (z:Int))=if z∈U then Ap (U.idxOf z)else none:=by
 unfold zDo;rw[List.findIdx?_map];have e:(vEq (ivV (z:Int))∘λv:Nat=>ivV (v:Int))=λx:Nat=>decide (z=x):=by
  funext x;show(((z:Nat):Int)==((x:Nat):Int))=decide (z=x);rw[Bool.eq_iff_iff,beq_iff_eq,decide_eq_true_eq];omega
 rw[e];induction U with
 |nil=>rfl
 | cons s U ih=>
  rw[List.findIdx?_cons,ih];by_cases e:z=s
  ·subst e;simp
  have e2:(s==z)=false:=by simpa using λh:s=z=>e h.symm
  simp only[e,decide_false,Bool.false_eq_true,if_false,A6,false_or,List.idxOf_cons,e2,cond_false];split<;>simp
theorem look_nv(z0:D)(y:Rw)(U:List Nat)(z:Nat):zE5 Ab z0 (U.map λv:Nat=>ivV (v:Int)) (U.map λv=>vaD (y.getD v An)) (ivV (z:Int))= .tup [if z∈U then vaD (y.getD z An)else z0,bD (decide (z∈U))]:=by
 unfold zE5;rw[zWp];by_cases h:z∈U
 ·rw[if_pos h,if_pos h]
  have:=Bh.2 h
  simp[ctD,AK,this,h,Bi this]
 rw[if_neg h,if_neg h];simp[ctD,h]
theorem mput_nv(y:Rw)(U:List Nat)(z:Nat):mput (mvB y U) (U.map λv:Nat=>ivV (v:Int)) (ivV (z:Int)) (vaD (y.getD z An))=mvB y (kput U z):=by
 unfold mput kput;rw[zWp];by_cases h:z∈U
 ·rw[if_pos h,if_pos h];have hi:=Bh.2 h;show Aw ((U.map λv=>vaD (y.getD v An)).set (U.idxOf z) (vaD (y.getD z An))) _ _ _ _ _=_;have e:(U.map λv=>vaD (y.getD v An)).set (U.idxOf z) (vaD (y.getD z An))=U.map λv=>vaD (y.getD v An):=by
   apply List.ext_getElem?;intro i;rw[List.getElem?_set,AL];by_cases e:U.idxOf z=i
   ·subst e;rw[if_pos rfl,if_pos hi,AX,AV hi,Option.map_some,Bi hi]
   rw[if_neg e]
  rw[e]
 rw[if_neg h,if_neg h];simp
theorem zL3(U:List Nat):(U.map λv:Nat=>ivV (v:Int)).all (zT (.int .i64))=true:=by simp[zT]
abbrev inqB(n f:Nat)(desc:List Bool)(P:List Int)(x:D):Bk:=⟨inqC n f desc P x,32,0,Ac,Ac, .plain⟩
section
variable (n f : Nat) (desc : List Bool) (P : List Int) (B : List (List Nat × List Rw)) (y : Rw)
set_option maxHeartbeats 4000000 in
theorem agrees_a(V:List Nat)(R:List Rw)(K:List Nat)(hV:V.length<=1000)(hVy:∀v∈V,v<y.length)(hs:Rsc R)(hb:R.length<=1000000)(hL:∀x∈R,x.length<=1000000)(hm:zP y V∈R):Acts Aj 50 [.agg (atN (V,R)),rowV (zP y V), .mref 1] [inqB n f desc P (atsR B),mvB y K,at1 (.row (nsD V) V.length) (.row (R.map rowV) R.length) (V.length:Nat)] [] (bD Ab) [inqB n f desc P (atsR B),mvB y (zDb K V),at1 (.row (nsD V) V.length) (.row (R.map rowV) R.length) (V.length:Nat)]:=by
 have hpl:(zP y V).length=V.length:=AL _;have hse:=zS1 R (zP y V) (V.length:Nat) hs hb hL (by omega);rw[decide_eq_true hm]at hse;have hpr:rowV (zP y V)= .row (zK (zP y V)) V.length:=by show Ae _ (zP y V).length=_;rw[hpl]
 rw[hpr]at hse⊢;have hpg:=zM3 y V;have htv:=zA2 (zP y V);have hva:=zB8 (zP y V);have hv3:=zBt (zP y V);rw[hpl]at htv hva hv3;generalize zP y V=x at*;generalize cntR R x=q at*;suffices key:Acts Aj 50 [.agg (atN (V,R)), .row (zK x) V.length, .mref 1] [inqB n f desc P (atsR B),mvB y K,at1 (.row (nsD V) V.length) (.row (R.map rowV) R.length) (V.length:Nat)] [] (bD Ab) [inqB n f desc P (atsR B),mvB y (zDb K V),at1 (.row (nsD V) V.length) (.row (R.map rowV) R.length) (V.length:Nat),at1 (.row (nsD V) V.length) (.row (R.map rowV) R.length) (V.length:Nat)]from Acts.cut 3 key (AY _) rfl
 refine zAl (zF0 3 λ_=>Ac) mixed Tryz.func50 rfl (λk hk=>decide_eq_true hk)<|vAu<|zB<|vA<|ve (True/\0<3/\True)<|zFv (t:=(Aa V:Int)!=(Aa V:Int)) (by kernel_rfl) (by simp)<|vK<|zB<|vA<|vr 3 (True/\2<=2)<|vc (hse)<|ve (0<2/\1<2)<|vAe<|vf<|vK<|zB<|vA<|ve (True/\0<3)<|zF<|zQ (λ(k:Nat)=>fr 59 [(1,Ae (zK x)<|Aa V),(2,D.mref 1),(29,Ae (Ad (λ(v:Nat)=>iD (v:Int)) V)<|Aa V),(30,iD (Aa V:Int)),(31,iD (k:Int))]) (λ(k:Nat)=>[inqB n f desc P<|atsR B,mvB y<|zDb K<|V.take k,at1 (.row (nsD V) V.length) (.row (R.map rowV) R.length) (V.length:Nat),at1 (.row (nsD V) V.length) (.row (R.map rowV) R.length) (V.length:Nat)]) (λk=>V.length-k) (λ(k:Nat)=>k<=V.length) 0 ?_ ?_ ?_
 ·omega
 ·refine vk 4 ?_;exact λk hk=>twcK k (Nat.le_trans (by decide) hk)
 rintro k k1;rcases Az k V.length with k2|k2
 ·have hx:=zAp V k k2;have hn1:nsD V≠[]:=zAb;have hxk:=htv k k2;have hx3:=hv3 k k2;have hxn:=hva (by omega);rw[hpg k k2]at hxk;have hkp:zDb K (V.take (k+1))=kput (zDb K (V.take k)) (V.getD k 0):=by rw[zCy V k k2,zGb]
  generalize zDb K (V.take k)=U at*;generalize V.getD k 0=v at*;have hlk:=look_nv (.agg [.val (.int .i64 0), .val (.int .i64 0), .val (.string ⟨#[]⟩)]) y U v;have hmp:=mput_nv y U v;have hvc:=zH2 (y.getD v An) (y.getD v An);rw[(zBo _ _).2.1.2 rfl]at hvc;generalize y.getD v An=w at*;obtain⟨ka,ia,sa⟩:=w;by_cases hu:v∈U
  ·rw[if_pos hu,decide_eq_true hu]at hlk;focus
    refine vAu (zB (vT ((k:Int)<↑(Aa V)) (vKB (vA (vr 2 (ix ↑k ↑(Aa V) (Ad (λ(v:Nat)=>iD v) V≠[])) (vp 34 k (Ad (λ(v:Nat)=>iD v) V) (vr 1 (0<Aa (Al k (Ad (λ(v:Nat)=>iD v) V))) (vsh 35 hx (veT (vA (vwh 3 [] [] (zT (AF (AG (AH Aq) "int" 1 8 Ac 8 8 (Ap (Ah Aq 0)) Ab #[])) (Ah Aq (v:Int))=Ab/\AU (Ad (λ(v:Nat)=>ivV (v:Int)) U) (zT (AF (AG (AH Aq) "int" 1 8 Ac 8 8 (Ap (Ah Aq 0)) Ab #[])))=Ab) ?_ ?_)))))))))));rotate_left;refine vsh 39 hlk (ve (0<2/\1<2/\Ac=Ac/\Ab=Ab/\3=3/\3<=3) (zB (zB (vd [0,1,3,4,5,2,6,7,8,9] (vr 7 (ix ↑k ↑(Aa V) (zK x≠[])/\3<=3/\3<=Aa (Al (k*3) (zK x))) (vs 48 (Ay (Ax 3 (Al (k*3) (zK x)))) (Ay (vaC (AN ka ia sa))) (hd:=by simp(disch:=omega) only[hxk]) (vc hvc (veT (vf (vK (zA rfl (vr 6 (ix ↑k ↑(Aa V) (zK x≠[])/\3<=Aa (Al (k*3) (zK x))) (vs 57 (Ay (Ax 3 (Al (k*3) (zK x)))) (Ay (vaC (AN ka ia sa))) (hd:=by simp(disch:=omega) only[hxk]) (vwh 1 [] [] (Bk.fz (mvB y U)=Ac/\zT (AF (AG (AH Aq) "int" 1 8 Ac 8 8 (Ap (Ah Aq 0)) Ab #[])) (Ah Aq (v:Int))=Ab/\AU (Ad (λ(v:Nat)=>ivV (v:Int)) U) (zT (AF (AG (AH Aq) "int" 1 8 Ac 8 8 (Ap (Ah Aq 0)) Ab #[])))=Ab/\¬1∈[]) ?_ ?_))))))))))))));rotate_left;refine vb 1 (mput (mvB y U) (Ad (λ(v:Nat)=>ivV (v:Int)) U) (Ah Aq (v:Int)) (Ay (AD ([iD (Va.kind (AN ka ia sa)),iD (Va.int (AN ka ia sa)),Ak (AC (bs (Va.str (AN ka ia sa))))],([]:List Nat))))) (mvB y (kput U v)) (hd:=by simp(disch:=omega) only[hmp]) (vnil (zE (vN (zA rfl (vr 2 (i6 (↑k+1)) (vnil (zC ?_)))))));rotate_left
   ·exact⟨rfl,zL3 _⟩
   ·exact⟨rfl,rfl,zL3 _,by decide⟩
   refine⟨k+1,by omega,by omega,?_⟩;rw[hkp];refine vk 4 ?_;exact λk hk=>twcK k (Nat.le_trans (by decide) hk)
  rw[if_neg hu,decide_eq_false hu]at hlk;focus
   refine vAu (zB (vT ((k:Int)<↑(Aa V)) (vKB (vA (vr 2 (ix ↑k ↑(Aa V) (Ad (λ(v:Nat)=>iD v) V≠[])) (vp 34 k (Ad (λ(v:Nat)=>iD v) V) (vr 1 (0<Aa (Al k (Ad (λ(v:Nat)=>iD v) V))) (vsh 35 hx (veT (vA (vwh 3 [] [] (zT (AF (AG (AH Aq) "int" 1 8 Ac 8 8 (Ap (Ah Aq 0)) Ab #[])) (Ah Aq (v:Int))=Ab/\AU (Ad (λ(v:Nat)=>ivV (v:Int)) U) (zT (AF (AG (AH Aq) "int" 1 8 Ac 8 8 (Ap (Ah Aq 0)) Ab #[])))=Ab) ?_ ?_)))))))))));rotate_left;refine vsh 39 hlk (ve (0<2/\1<2/\Ac=Ac/\Ab=Ab/\3=3/\3<=3) (zB (zB (vd [0,1,3,4,5,2,6,7,8,9] (veT (vf (vK (zA rfl (vr 6 (ix ↑k ↑(Aa V) (zK x≠[])/\3<=Aa (Al (k*3) (zK x))) (vs 57 (Ay (Ax 3 (Al (k*3) (zK x)))) (Ay (vaC (AN ka ia sa))) (hd:=by simp(disch:=omega) only[hxk]) (vwh 1 [] [] (Bk.fz (mvB y U)=Ac/\zT (AF (AG (AH Aq) "int" 1 8 Ac 8 8 (Ap (Ah Aq 0)) Ab #[])) (Ah Aq (v:Int))=Ab/\AU (Ad (λ(v:Nat)=>ivV (v:Int)) U) (zT (AF (AG (AH Aq) "int" 1 8 Ac 8 8 (Ap (Ah Aq 0)) Ab #[])))=Ab/\¬1∈[]) ?_ ?_)))))))))));rotate_left;refine vb 1 (mput (mvB y U) (Ad (λ(v:Nat)=>ivV (v:Int)) U) (Ah Aq (v:Int)) (Ay (AD ([iD (Va.kind (AN ka ia sa)),iD (Va.int (AN ka ia sa)),Ak (AC (bs (Va.str (AN ka ia sa))))],([]:List Nat))))) (mvB y (kput U v)) (hd:=by simp(disch:=omega) only[hmp]) (vnil (zE (vN (zA rfl (vr 2 (i6 (↑k+1)) (vnil (zC ?_)))))));rotate_left
  ·exact⟨rfl,zL3 _⟩
  ·exact⟨rfl,rfl,zL3 _,by decide⟩
  refine⟨k+1,by omega,by omega,?_⟩;rw[hkp];refine vk 4 ?_;exact λk hk=>twcK k (Nat.le_trans (by decide) hk)
 obtain rfl:k=V.length:=by omega
 rw[AR];refine vAu<|zB<|vF ((Aa V:Int)<↑(Aa V))<|vZ2<|vAe<|zJ<|zAm (True) [Ak<|Value.bool Ab] (.inr rfl) ?_;exact⟨by kernel_rfl,by kernel_rfl⟩
end
theorem zVl(A:List (List Nat×List Rw))(y:Rw){i:Nat}(h:i<A.length):(witL A y).getD i An=(i,zP y (A.getD i An).1):=by
 unfold witL;rw[AK,AX,Bb h];rfl
section
variable (n f : Nat) (desc : List Bool) (P : List Int) (B : List (List Nat × List Rw)) (y r : Rw)
set_option maxHeartbeats 4000000 in
theorem chk_yes(hB:B.length<=1000)(hv:∀b∈B,b.1.length<=1000/\(∀v∈b.1,v<y.length)/\Rsc b.2/\b.2.length<=1000000/\(∀x∈b.2,x.length<=1000000)/\zP y b.1∈b.2)(hr:y.take r.length=r)(hrl:r.length<=1000)(hck:Pure Aj 33 [.agg (inqC n f desc P (atsR B)),rowV r] [] (iD 0)):Pure Aj 23 [.agg (inqC n f desc P (atsR B)),rowV r, .row ((witL B y).flatMap witC) B.length] [] (bD Ab):=by
 refine zH (zF0 0 λg=>g==50) mixed Tryz.func23 rfl<|vAu<|zB<|vA<|vr 2 (5<=5)<|vc (hck)<|ve (True/\True/\0<1/\True)<|zFv (t:=(Aa B:Int)!=(Aa B:Int)) (by kernel_rfl) (by simp)<|vK<|vAe<|zB<|vAe<|zF<|zQ (λ(i:Nat)=>fr 63 [(2,Ae (Ai witC<|witL B y)<|Aa B),(3,Am 0 0),(6,bD Ac),(7,D.mref 1),(25,Ae (zK r)<|Aa r),(26,iD (Aa r:Int)),(27,iD (i:Int))]) (λ(i:Nat)=>[inqB n f desc P<|atsR B,mvB y<|zDb []<|AM i]) (λi=>r.length-i) (λ(i:Nat)=>i<=r.length) 0 ?_ ?_ ?_
 ·omega
 ·refine vk 2
 rintro i i1;rcases Az i r.length with i2|i2
 ·have htv:=zA2 r i i2;have hva:=zB8 r (by omega);have hv3:=zBt r i i2;have hry:r.getD i An=y.getD i default:=by
   conv=>lhs;rw[<-hr]
   rw[AK,AK,List.getElem?_take,if_pos i2]
  rw[hry]at htv;have hkp:zDb [] (AM (i+1))=kput (zDb [] (AM i)) i:=by rw[List.range_succ,zGb]
  generalize zDb [] (AM i)=U at*;have hmp:=mput_nv y U i;generalize y.getD i An=w at*;obtain⟨ka,ia,sa⟩:=w;focus
   refine vAu (zB (vT ((i:Int)<↑(Aa r)) (vKB (vA (vr 3 (ix ↑i ↑(Aa r) (zK r≠[])/\3<=Aa (Al (i*3) (zK r))) (vs 31 (Ay (Ax 3 (Al (i*3) (zK r)))) (Ay (vaC (AN ka ia sa))) (hd:=by simp(disch:=omega) only[htv]) (ve (Ac=Ac/\Ab=Ab/\3=3/\3<=3) (zA rfl (vwh 4 [] [] (3<=3/\Bk.fz (mvB y U)=Ac/\zT (AF (AG (AH Aq) "int" 1 8 Ac 8 8 (Ap (Ah Aq 0)) Ab #[])) (Ah Aq (i:Int))=Ab/\AU (Ad (λ(v:Nat)=>ivV (v:Int)) U) (zT (AF (AG (AH Aq) "int" 1 8 Ac 8 8 (Ap (Ah Aq 0)) Ab #[])))=Ab/\¬1∈[]) ⟨(by omega),?_⟩ ?_)))))))));rotate_left;refine vb 1 (mput (mvB y U) (Ad (λ(v:Nat)=>ivV (v:Int)) U) (Ah Aq (i:Int)) (Ay (AD ([iD ka,iD ia,Ak (AC (bs sa))],([]:List Nat))))) (mvB y (kput U i)) (hd:=by simp(disch:=omega) only[hmp]) (vnil (zE (vN (zA rfl (vr 2 (i6 (↑i+1)) (vnil (zC ?_)))))));rotate_left
  ·exact⟨rfl,rfl,zL3 _,by decide⟩
  refine⟨i+1,by omega,by omega,?_⟩;rw[hkp];refine vk 2
 obtain⟨K,hK⟩:∃K,K=zDb [] (AM i):=⟨_,rfl⟩;rw[<-hK];clear hK;refine vAu<|zB<|vF ((i:Int)<↑(Aa r))<|vZ2<|zB<|vA<|ve (True/\0<1)<|zF<|zAu (λ(j:Nat)(U:List Nat)=>fr 63 [(2,Ae (Ai witC<|witL B y)<|Aa B),(7,D.mref 1),(37,Ae (Ai atN B)<|Aa B),(38,iD<|Aa B),(39,iD j)]) (λ(j:Nat)(U:List Nat)=>[inqB n f desc P<|atsR B,mvB y U]) (λj U=>B.length-j) (λ(j:Nat)(U:List Nat)=>j<=B.length) 0 K ?_ ?_ ?_
 ·omega
 ·refine vk 2
 rintro j U j1;rcases Az j B.length with j2|j2
 ·have hg:=zFi zAk B j j2;have hle:=zDd zAk B j j2;have hne:=zDc zAk (by decide) B;have hwl:=zEq B y;have hg2:=zFi zBw (witL B y) j (by omega);rw[zVl B y j2]at hg2;have hle2:=zDd zBw (witL B y) j (by omega);have hne2:=zDc zBw (by decide) (witL B y);obtain⟨p1,p2,p3,p4,p5,p6⟩:=hv _ (zAc B An j j2);generalize (witL B y).drop (j+1)=T at*;generalize (witL B y).flatMap witC=W at*;generalize B.getD j An=b at*;obtain⟨V,R⟩:=b;have hag:=agrees_a n f desc P B y V R U p1 p2 p3 p4 p5 p6;have e1:(((j:Nat):Int)!=(j:Nat))=false:=bne_self_eq_false _;refine vAu<|zB<|vT ((j:Int)<↑(Aa B))<|vKB<|vA<|vr 2 (ix ↑j ↑(Aa B) (Ai atN B≠[]))<|vs 42 (AA<|Al (As (j:Int)*3)<|Ai atN B) (AA (Ae (Ad (λ(v:Nat)=>iD v) V) (Aa V)::iD (Aa V)::Ae (Ad rowV R) (Aa R)::Ai atN (Al (j+1) B))) (hd:=by simp(disch:=omega) only[Av,AP,AQ,hg])<|ve (3<=Aa (Ae (Ad (λ(v:Nat)=>iD v) V) (Aa V)::iD (Aa V)::Ae (Ad rowV R) (Aa R)::Ai atN (Al (j+1) B))/\Ac=Ac/\Ab=Ab/\3=3/\3<=3)<|zB<|vd [0,1,2,3,5,4,6,7,9,10,11,12,14,8,13,15,16,17]<|vr 3 (ix ↑j ↑(Aa B) (W≠[]))<|vs 46 (AA<|Al (As (j:Int)*2) W) (AA (iD ↑j::rowV (zP y V)::Ai witC T)) (hd:=by simp(disch:=omega) only[Av,AP,AQ,hg2])<|vr 4 (True/\0<Aa (iD ↑j::rowV (zP y V)::Ai witC T)/\True)<|vs 50 (bD ((j:Int)!=↑j)) (bD Ac) (hd:=by simp(disch:=omega) only[e1])<|vr 4 (ix ↑j ↑(Aa B) (W≠[]))<|vs 55 (AA<|Al (As (j:Int)*2) W) (AA (iD ↑j::rowV (zP y V)::Ai witC T)) (hd:=by simp(disch:=omega) only[Av,AP,AQ,hg2])<|vr 4 (True/\3<=3/\0<Aa (rowV (zP y V)::Ai witC T))<|vnt [inqB n f desc P<|atsR B,mvB y U,Aw [Ae (Ad (λ(v:Nat)=>iD v) V)<|Aa V,iD<|Aa V,Ae (Ad rowV R)<|Aa R] 45 0 Ac Ac AE]<|zAz [] [] [Ay [Ae (Ad (λ(v:Nat)=>iD v) V)<|Aa V,iD<|Aa V,Ae (Ad rowV R)<|Aa R],Ae (zK<|zP y V)<|Aa<|zP y V,D.mref 1] [Ay [Ae (Ad (λ(v:Nat)=>iD v) V)<|Aa V,iD<|Aa V,Ae (Ad rowV R)<|Aa R],Ae (zK<|zP y V)<|Aa<|zP y V,D.mref 1] (AJ _) (by exact hag) ?_;refine v0s<|veT<|vf<|zL<|zE<|vN<|zA rfl<|vr 2 (i6 (↑j+1))<|vnil<|zC<|⟨j+1,zDb U V,by omega,by omega,?_⟩;refine vk 2
 obtain rfl:j=B.length:=by omega
 refine vAu<|zB<|vF ((Aa B:Int)<↑(Aa B))<|vZ2<|vAe<|zJ<|vret (True)<|.inr rfl
end
theorem firstR_c{A:List (List Nat×List Rw)}(hA:RaOk A)(n:Nat)(r:Rw)(hn:n<=8)(hr:r.length<=n)(hs:Sho r):Pure Aj 20 [iD (n:Nat), .row (A.flatMap raN) A.length,rowV r] [] (rowV ((zA4 A (valF A) (n-r.length) r).headD [])):=by
 have hj:=joinR_c hA (n-r.length) r (by omega) (by omega) hs;rw[show r.length+(n-r.length)=n by omega]at hj;have hjl:=zPm (A:=A) (vf:=valF A) (zJ9 A hA.r) (n-r.length) r;have hpw:10^(n-r.length)<=10^8:=Bg (by omega) (by omega);generalize zA4 A (valF A) (n-r.length) r=J at*;rcases J with _|⟨x,J⟩
 ·refine zH zAf mixed Tryz.func20 rfl<|vAu<|vA<|vrT 3<|vc (hj)<|veT<|zB<|vAe<|vt<|vAe<|zJ<|zG<|vret (True)<|.inr rfl
 have hz:((((x::J).length:Nat):Int)==0)=false:=beq_eq_false_iff_ne.2 (by rw[List.length_cons];omega);have hm:(x::J).map rowV=rowV x::J.map rowV:=rfl;have hle:0<(x::J).length:=by simp
 show Pure _ _ _ _ (rowV x);rw[hm]at hj;generalize (x::J).length=l at*;refine zH zAf mixed Tryz.func20 rfl<|vAu<|vA<|vrT 3<|vc (hj)<|veT<|zB<|vA<|vrT 3<|vs 14 (bD ((l:Int)==(0:Int))) (bD Ac) (hd:=by simp(disch:=omega) only[hz])<|veT<|vf<|vK<|vA<|ve (ix (0:Int) (l:Int) (rowV x::Ad rowV J≠[])/\0<Aa (rowV x::Ad rowV J))<|zJ<|vret (True)<|.inr rfl
theorem projR_c(a:List Nat×List Rw)(y:Rw)(hV:a.1.length<=1000)(hv:∀v∈a.1,v<y.length):Pure Aj 49 [.agg (raN a),rowV y] [] (rowV (zP y a.1)):=by
 obtain⟨V,R⟩:=a;simp only at hV hv;show Pure _ _ _ _ (rowV (zP y V));have hpl:(zP y V).length=V.length:=AL _;rw[show rowV (zP y V)= .row (zK (zP y V)) V.length by show Ae _ (zP y V).length=_;rw[hpl]];refine zH zAf mixed Tryz.func49 rfl<|vAu<|vAe<|zB<|vAe<|zF<|zQ (λ(j:Nat)=>fr 26 [(1,rowV y),(2,Am 0 0),(4,nl),(5,Ao 1 0 j (j*3) Ab),(6,iD (j:Int))]) (λ(j:Nat)=>[raK (V,R),rvK<|zK<|zP y<|V.take j]) (λj=>V.length-j) (λ(j:Nat)=>j<=V.length) 0 ?_ ?_ ?_
 ·omega
 ·refine vk 1
 rintro j j1;have hl3:(zK (zP y (V.take j))).length=j*3:=by
  unfold zP;rw[zAj,AL,AZ,A5 j1]
 rcases Az j V.length with j2|j2
 ·have hx:=zAp V j j2;have hn1:nsD V≠[]:=zAb;have hcy:=hv _ (zAc V 0 j j2);have hcs:zK (zP y (V.take (j+1)))=zK (zP y (V.take j))++vaC (y.getD (V.getD j 0) An):=by
   unfold zP;rw[zCy V j j2,A2,zCr];simp[zK]
  generalize zK (zP y (V.take j))=q at*;generalize V.getD j 0=c at*;have htv:=zA2 y c (by omega);have hva:=zB8 y (by omega);have hv3:=zBt y c (by omega);generalize y.getD c An=w at*;obtain⟨ka,ia,sa⟩:=w;refine zB<|vAs<|ve (True/\0<2)<|vT ((j:Int)<↑(Aa V))<|vKB<|zA rfl<|vr 6 (True/\0<2/\ix ↑j ↑(Aa V) (nsD V≠[]))<|vp 19 j (nsD V)<|vr 1 (0<Aa (Al j<|nsD V))<|vsh 20 hx<|vr 2 (ix ↑c ↑(Aa y) (zK y≠[])/\3<=Aa (Al (c*3)<|zK y))<|vs 22 (Ay<|Ax 3<|Al (c*3)<|zK y) (Ay<|vaC<|AN ka ia sa) (hd:=by simp(disch:=omega) only[htv])<|vr 3 (((3=3/\3<=3/\True)/\0<3/\3=3/\3<=16777216/\1<=9223372036854775807)/\Bk.arr (rvK q)=Ab/\Aa (AB<|rvK q)=j*3/\j*3=j*3/\Bk.ty (rvK q)=95/\Bk.sz (rvK q)=3/\3=3/\0<3/\0<32/\95=95/\(j+1)*32<=140737488355328/\3=3/\A8 (AO<|rvK q)=Ac/\(Ac=Ac\/Kd.isSh (AO<|rvK q)=Ab))<|vnil<|zE<|vN<|zA rfl<|vr 3 (i6 (↑j+1))<|vnil<|zC<|⟨j+1,by omega,by omega,?_⟩;rw[hcs];refine vk 2
 obtain rfl:j=V.length:=by omega
 rw[AR]at hl3⊢;have ht:(zK (zP y V)).take (V.length*3)=zK (zP y V):=AI (by omega);refine zB<|vAs<|ve (True/\0<2)<|vF ((Aa V:Int)<↑(Aa V))<|vZ2<|vAe<|zJ<|zAs (True) (Ae (Ax (Aa V*3)<|Al 0<|AB<|rvK<|zK<|zP y V)<|Aa V) (Ae (zK<|zP y V)<|Aa V) (.inr rfl) (by simp(disch:=omega) only[AW,ht]) rfl
theorem whyR_c(A:List (List Nat×List Rw))(y:Rw)(hA:A.length<=1000)(hv:∀a∈A,a.1.length<=1000/\∀v∈a.1,v<y.length):Pure Aj 22 [.row (A.flatMap raN) A.length,rowV y] [] (.row ((A.map λa=>zP y a.1).map rowV) A.length):=by
 refine zH zAf mixed Tryz.func22 rfl<|vAu<|vAe<|zB<|vAe<|zF<|zQ (λ(i:Nat)=>fr 23 [(0,Ae (Ai raN A)<|Aa A),(1,rowV y),(4,nl),(5,Ao 0 0 i i Ab),(6,iD (i:Int))]) (λ(i:Nat)=>[rrB<|((A.take i).map λa=>zP y a.1).map rowV]) (λi=>A.length-i) (λ(i:Nat)=>i<=A.length) 0 ?_ ?_ ?_
 ·omega
 ·refine vk 0
 rintro i i1;have hl1:(((A.take i).map λa=>zP y a.1).map rowV).length=i:=by rw[AL,AL,AZ,A5 i1]
 rcases Az i A.length with i2|i2
 ·have hg:=zFi zCb A i i2;have hle:=zDd zCb A i i2;have hne:=zDc zCb (by decide) A;obtain⟨p1,p2⟩:=hv _ (zAc A An i i2);have hpr:=projR_c (A.getD i An) y p1 p2;have hcs:((A.take (i+1)).map λa=>zP y a.1).map rowV=((A.take i).map λa=>zP y a.1).map rowV++[rowV (zP y (A.getD i An).1)]:=by
   rw[zAr A i i2,A2,A2];rfl
  generalize ((A.take i).map λa=>zP y a.1).map rowV=q at*;generalize A.getD i An=a at*;generalize zP y a.1=x at*;refine zB<|vAu<|vT ((i:Int)<↑(Aa A))<|vKB<|zA rfl<|vr 4 (ix ↑i ↑(Aa A) (Ai raN A≠[]))<|vs 16 (AA<|Al (As (i:Int)*2)<|Ai raN A) (AA (Ae (nsD<|AD a) (Aa<|AD a)::Ae (Ad rowV<|Prod.snd a) (Aa<|Prod.snd a)::Ai raN (Al (i+1) A))) (hd:=by simp(disch:=omega) only[Av,AP,AQ,hg])<|vr 2 (2<=Aa (Ae (nsD<|AD a) (Aa<|AD a)::Ae (Ad rowV<|Prod.snd a) (Aa<|Prod.snd a)::Ai raN (Al (i+1) A)))<|vc hpr<|vr 3 (((1=1/\1<=1/\True)/\0<1/\1=1/\1<=16777216/\1<=9223372036854775807)/\Bk.arr (rrB q)=Ab/\Aa (AB<|rrB q)=i*1/\i=i*1/\Bk.ty (rrB q)=55/\Bk.sz (rrB q)=1/\1=1/\0<1/\0<24/\55=55/\(i+1)*24<=140737488355328/\1=1/\A8 (AO<|rrB q)=Ac/\(Ac=Ac\/Kd.isSh (AO<|rrB q)=Ab))<|vs 5 (Ao 0 0 (i+1) ((i+1)*1) Ab) (Ao 0 0 (i+1) (i+1) Ab) (hd:=by simp(disch:=omega) only[Nat.mul_one])<|vnil<|zE<|vN<|zA rfl<|vr 3 (i6 (↑i+1))<|vnil<|zC<|⟨i+1,by omega,by omega,?_⟩;rw[hcs];refine vk 1
 obtain rfl:i=A.length:=by omega
 rw[AR]at hl1⊢;have ht:((A.map λa=>zP y a.1).map rowV).take A.length=(A.map λa=>zP y a.1).map rowV:=AI (by omega);refine zB<|vAu<|vF ((Aa A:Int)<↑(Aa A))<|vZ2<|vAe<|zJ<|zAs (True) (Ae (Ax (Aa A)<|Al 0<|AB<|rrB<|Ad rowV<|Ad (λ(a:List Nat×List Rw)=>zP y (AD a)) A)<|Aa A) (Ae (Ad rowV<|Ad (λ(a:List Nat×List Rw)=>zP y (AD a)) A)<|Aa A) (.inr rfl) (by simp(disch:=omega) only[AW,ht]) rfl
theorem zY6(n f:Int)(desc:List Bool)(P:List Int)(ats:List At)(r:Rw)(e:Int)(he:e≠0)(hck:Pure Aj 33 [inpD n f desc P ats,rowV r] [] (iD e)):Pure Aj 12 [inpD n f desc P ats,rowV r] [] (.tup [.row [] 0,iD e]):=by
 refine zH zAf mixed Tryz.func12 rfl<|vAu<|zB<|vA<|vr 2 (5<=5)<|vc (hck)<|veT<|vAe<|zDw (t:=e !=(0:Int)) (by kernel_rfl) (by simpa using by omega) ?_;refine vAe<|zJ<|zG<|vret (True)<|.inr rfl
theorem pick_sho{y:Rw}(hy:Sho y)(V:List Nat)(hV:V.length<=1000000):Sho (zP y V):=hy.pick V hV
theorem good_of{c:Cs}(h:c.Small)(ht:c.Typ){r:Rw}(q2:c.V.length=c.R.length)(q3:∀i,i<c.V.length->c.err i=0)(q4:c.Few)(q6:0=wckE c c.V.length r):c.Good/\(r.length:Int)=c.f:=by
 have q6:=q6.symm;unfold wckE at q6;have h1:icE c.n c.f c.desc.length c.P (c.ats c.V.length)=0:=by
  apply Bl;intro hh;rw[if_pos hh]at q6;exact hh q6
 refine⟨⟨h,q2,q3,h1,q4,ht⟩,?_⟩;rw[h1,if_neg (by omega)]at q6;apply Bl;intro hh;rw[if_pos hh]at q6;cases q6
theorem ans_sho{n:Nat}{A:List (List Nat×List Rw)}(h:AtOk n A){y:Rw}(hy:y.length=n)(hs:SatA A λv=>y.getD v An):Sho y:=by
 have hra:=h.ra;have hn8:=h.n8;refine⟨by omega,λx hx=>?_⟩;obtain⟨i,hi,rfl⟩:=List.getElem_of_mem hx;obtain⟨a,ha,hv⟩:=h.cov i (by omega);have h1:=hs a ha;refine(hra.s a ha _ h1).2 _ ?_;exact A0.2 ⟨i,hv,by rw[AK,AV hi];rfl⟩
set_option maxHeartbeats 16000000 in
theorem finds_all(c:Cs)(h:c.Small)(ht:c.Typ)(r:Rw)(hr:r.length<=2000000)(hs:∀v∈r,v.str.length<=2000000):Pure Aj 6 [.agg (csC c),rowV r] [] (bD Ab):=by
 obtain⟨m,ok,e,hm,hok,hw⟩:=wrong_c c h r hr hs;have haw:=awake50_c;cases ok;case false=>
  generalize c.ats m=ats at*;refine zH zAf mixed A3 rfl<|vAu<|vA<|vr 2 (6<=6)<|vc (hw)<|ve (0<3/\1<3/\2<3/\Ac=Ac/\Ab=Ab/\5=5/\5<=5)<|zB<|vAe<|vt<|vA<|vc (haw)<|veT<|zJ<|zG<|vret (True)<|.inr rfl
 obtain⟨rfl,q2,q3,q4,q5,q6⟩:=hok rfl;obtain⟨hr8,hsh⟩:=grt_sho q5;have hml:c.V.length<=5:=q4.V;have hck:=wchk_c c h (AY _) r hr;rw[<-q6]at hck;by_cases he:e=0;case neg=>
  have hwy:=zY6 c.n c.f c.desc c.P (c.ats c.V.length) r e he hck;generalize c.ats c.V.length=ats at*;have e1:(e !=0)=true:=bne_iff_ne.2 he;have e2:(e==e)=true:=beq_self_eq_true _;refine zH zAf mixed A3 rfl<|vAu<|vA<|vr 2 (6<=6)<|vc (hw)<|ve (0<3/\1<3/\2<3/\Ac=Ac/\Ab=Ab/\5=5/\5<=5)<|zB<|vAe<|vf<|vK<|vA<|vr 2 (5<=5)<|vc (hwy)<|ve (0<2/\1<2)<|zB<|vA<|vrT 2<|vs 31 (bD (e !=(0:Int))) (bD Ab) (hd:=by simp(disch:=omega) only[e1])<|veT<|vt<|vA<|vrT 3<|vs 34 (bD (e==e)) (bD Ab) (hd:=by simp(disch:=omega) only[e2])<|vrT 6<|vc (haw)<|veT<|zJ<|zG<|vret (True)<|.inr rfl
 subst he;obtain⟨hg,hf⟩:=good_of h ht q2 q3 q4 q6;have hA:=hg.ok;obtain⟨g1,g2,g3,g4,_⟩:=Cs.ic hg.ck;have hrn:r.length<=c.n.toNat:=by omega
 have hrf:r.length=c.f.toNat:=by omega
 rw[hg.inD]at hw hck;have hra:=hA.ra;have hn8:=hA.n8;have hAl5:=hA.l;have hv32:=hA.v32;have hdl:=h.d;have hPl:=h.P;clear hg q6;generalize c.A=A at*;generalize c.n.toNat=n at*;generalize c.f.toNat=f at*;have hck:Pure Aj 33 [.agg (inqC n f c.desc c.P (atsR A)),rowV r] [] (iD 0):=hck;have hatm:Pure Aj 13 [.agg (inqC n f c.desc c.P (atsR A))] [] (.row (A.flatMap raN) A.length):=atoms_c (n:Nat) (f:Nat) (c.desc.map bD) (c.P.map λz=>iD z) c.desc.length c.P.length A (by omega) λa ha=>⟨by have:=hA.few a ha;omega,λx hx=>by have:=hra.s a ha x hx;have:=this.1;omega⟩;have hrl:=zV3 r _ rfl hr;have hfi:=firstR_c hra n r hn8 hrn hsh;have hj0:=joinR_c hra 0 [] (by omega) (by simp) ⟨by simp,λv hv=>(by cases hv)⟩;have hj0:Pure Aj 21 [iD 0, .row [] 0, .row (A.flatMap raN) A.length] [] (.row ((zA4 A (valF A) 0 []).map rowV) (zA4 A (valF A) 0 []).length):=hj0;by_cases ha:Ans n A r
 ·obtain⟨y,y1,y2,hwy⟩:=why_c n (f:Nat) (c.desc.map bD) (c.P.map λz=>iD z) c.desc.length c.P.length A r hA hrn ha hck;have hwy:Pure Aj 12 [.agg (inqC n f c.desc c.P (atsR A)),rowV r] [] (.tup [.row ((witL A y).flatMap witC) A.length,iD 0]):=hwy;obtain⟨z,z1,z2,z3⟩:=y1.a;have e:z=y:=by rw[<-z2,AI (by omega)]
  subst e;have hys:=ans_sho hA z1 z3;obtain⟨J,hJ⟩:=join_head hA hrn y1 y2;rw[hJ]at hfi;have hfi:Pure Aj 20 [iD (n:Nat), .row (A.flatMap raN) A.length,rowV r] [] (rowV z):=hfi;have hwr:=whyR_c A z (by omega) λa ha=>⟨by have:=hv32 a ha;omega,λv hv=>by have:=hA.lt a ha v hv;omega⟩;have hch:=chk_yes n f c.desc c.P A z r (by omega) (λa ha=>⟨by have:=hv32 a ha;omega,λv hv=>by have:=hA.lt a ha v hv;omega,hA.srt a ha,by have:=hA.few a ha;omega,λx hx=>(hra.s a ha x hx).1,z3 a ha⟩) y1.t (by omega) hck;have hwl:=zEq A z;have hwg:=λi (hi:i<A.length)=>zVl A z hi;have hps:=λi (hi:i<A.length)=>pick_sho hys (A.getD i An).1 (by have:=hv32 _ (zAc A An i hi);omega);have hpg:∀i,i<A.length->(((A.map λa=>zP z a.1).map rowV).drop i).headD .unk=rowV (zP z (A.getD i An).1):=λi hi=>by
   have:=zDv (A.map λa=>zP z a.1) i (by simpa using hi)
   rw[this];rw[AK,AX,AV hi,AK (l:=A),AV hi];rfl
  have hpn:0<A.length->(A.map λa=>zP z a.1).map rowV≠[]:=λh=>zAb (h:=by simpa using h);have e0:∀i:Nat,(((i:Nat):Int)!=(i:Nat))=false:=λi=>bne_self_eq_false _;have eA:(((A.length:Nat):Int)!=(A.length:Nat))=false:=bne_self_eq_false _;have main:∀{Q:Prop},Q->Q:=λh=>h;rcases Nat.eq_zero_or_pos n with hn0|hn0
  ·have hr0:r=[]:=Bj (by omega);have hz0:z=[]:=Bj (by omega);rw[hr0,hn0,hz0]at hJ;have hJ:zA4 A (valF A) 0 []=[]::J:=hJ;rw[hJ]at hj0;have hjz:(((([]::J:List Rw).length:Nat):Int)==0)=false:=beq_eq_false_iff_ne.2 (by rw[List.length_cons];omega);generalize ([]::J:List Rw)=JJ at*;have en:(((n:Nat):Int)==0)=true:=beq_iff_eq.2 (by omega);have en2:decide (((n:Nat):Int)>0)=false:=decide_eq_false (by omega);refine zH zAf mixed A3 rfl<|vAu<|vA<|vr 2 (6<=6)<|vc (hw)<|ve (0<3/\1<3/\2<3/\Ac=Ac/\Ab=Ab/\5=5/\5<=5)<|zB<|vAe<|vf<|vK<|vA<|vr 2 (5<=5)<|vc (hwy)<|ve (0<2/\1<2)<|zB<|vAe<|vf<|vK<|vA<|vr 1 (5<=5)<|vc (hatm)<|veT<|zB<|vd [0,2,3,1,4,5,6]<|vr 4 (True/\0<5)<|vc (hrl)<|vc (hfi)<|veT<|zB<|vA<|vr 3 (True/\0<5)<|vs 53 (bD<|decide ((n:Int)>(0:Int))) (bD Ac) (hd:=by simp(disch:=omega) only[en2])<|vr 9 (True/\0<5/\True)<|vs 62 (bD ((n:Int)==(0:Int))) (bD Ab) (hd:=by simp(disch:=omega) only[en])<|vrT 2<|vcl [iD 0,nl,Ae (Ai raN A)<|Aa A] [iD 0,Ae [] 0,Ae (Ai raN A)<|Aa A] (LeL.trans (AJ _)<|A4 (LeD.refl _)<|A4 LeD.nil_row<|A4 (LeD.refl _) LeL.nil) (by exact hj0)<|vrT 2<|vs 67 (bD ((Aa JJ:Int)==(0:Int))) (bD Ac) (hd:=by simp(disch:=omega) only[hjz])<|veT<|vf<|vK<|vA<|vrT 2<|vc (hwr)<|veT<|zB<|vA<|vr 8 (True/\True)<|vs 90 (bD ((Aa A:Int)!=(Aa A:Int))) (bD Ac) (hd:=by simp(disch:=omega) only[eA])<|vr 5 (5<=5)<|vc (hch)<|veT<|vf<|vK<|zB<|vAe<|zF<|zQ (λ(i:Nat)=>fr 127 [(8,Ae (Ai witC<|witL A z)<|Aa A),(12,Ae (Ad rowV<|Ad (λ(a:List Nat×List Rw)=>zP z (AD a)) A)<|Aa A),(100,iD (Aa A:Int)),(101,iD (i:Int))]) (λ(i:Nat)=>[csB c,inqB n f c.desc c.P<|atsR A]) (λi=>A.length-i) (λ(i:Nat)=>i<=A.length) 0 ?_ ?_ ?_
   ·omega
   ·refine vk 2
   rintro i i1;rcases Az i A.length with i2|i2
   ·have hg2:=zFi zBw (witL A z) i (by omega);rw[hwg i i2]at hg2;have hle2:=zDd zBw (witL A z) i (by omega);have hne2:=zDc zBw (by decide) (witL A z);have hpi:=hpg i i2;have hpn:=hpn (by omega);have hsi:=hps i i2;have e1:=e0 i;generalize (witL A z).drop (i+1)=T at*;generalize (witL A z).flatMap witC=W at*;generalize zP z (A.getD i An).1=x at*;have hrx:=zV3 x _ rfl (by have:=hsi.1;omega);have hcx:=zS2 x x _ _ rfl rfl hsi hsi;rw[(zA3 x x).2.1.2 rfl]at hcx;refine vAu<|zB<|vT ((i:Int)<↑(Aa A))<|vKB<|vAe<|zB<|vd [0,1,2,3,5,4,6,7,8,9,10,11,14,15,16,12,13,17,18,19,20]<|vr 3 (ix ↑i ↑(Aa A) (W≠[]))<|vs 106 (AA<|Al (As (i:Int)*2) W) (AA (iD ↑i::rowV x::Ai witC T)) (hd:=by simp(disch:=omega) only[Av,AP,AQ,hg2])<|vr 4 (True/\0<Aa (iD ↑i::rowV x::Ai witC T)/\True)<|vs 110 (bD ((i:Int)!=↑i)) (bD Ac) (hd:=by simp(disch:=omega) only[e1])<|vr 4 (ix ↑i ↑(Aa A) (W≠[]))<|vs 114 (AA<|Al (As (i:Int)*2) W) (AA (iD ↑i::rowV x::Ai witC T)) (hd:=by simp(disch:=omega) only[Av,AP,AQ,hg2])<|vr 4 (True/\ix ↑i ↑(Aa A) (Ad rowV (Ad (λ(a:List Nat×List Rw)=>zP z (AD a)) A)≠[]))<|vp 120 i (Ad rowV<|Ad (λ(a:List Nat×List Rw)=>zP z (AD a)) A)<|vr 1 (0<Aa (rowV x::Ai witC T))<|vc hrx<|vr 1 (0<Aa (Al i<|Ad rowV<|Ad (λ(a:List Nat×List Rw)=>zP z (AD a)) A))<|vsh 121 hpi<|vc hcx<|veT<|vf<|zL<|zE<|vN<|zA rfl<|vr 2 (i6 (↑i+1))<|vnil<|zC<|⟨i+1,by omega,by omega,?_⟩;refine vk 2
   obtain rfl:i=A.length:=by omega
   refine vAu<|zB<|vF ((Aa A:Int)<↑(Aa A))<|vZ2<|vA<|vc haw<|veT<|zJ<|vret (True)<|.inr rfl
  have en2:decide (((n:Nat):Int)>0)=true:=decide_eq_true (by omega);have en:(((n:Nat):Int)==0)=false:=beq_eq_false_iff_ne.2 (by omega);have ez:(((z.length:Nat):Int)==0)=false:=beq_eq_false_iff_ne.2 (by omega);refine zH zAf mixed A3 rfl<|vAu<|vA<|vr 2 (6<=6)<|vc (hw)<|ve (0<3/\1<3/\2<3/\Ac=Ac/\Ab=Ab/\5=5/\5<=5)<|zB<|vAe<|vf<|vK<|vA<|vr 2 (5<=5)<|vc (hwy)<|ve (0<2/\1<2)<|zB<|vAe<|vf<|vK<|vA<|vr 1 (5<=5)<|vc (hatm)<|veT<|zB<|vd [0,2,3,1,4,5,6]<|vr 4 (True/\0<5)<|vc (hrl)<|vc (hfi)<|veT<|zB<|vA<|vr 3 (True/\0<5)<|vs 53 (bD<|decide ((n:Int)>(0:Int))) (bD Ab) (hd:=by simp(disch:=omega) only[en2])<|vrT 4<|vs 57 (bD ((Aa z:Int)==(0:Int))) (bD Ac) (hd:=by simp(disch:=omega) only[ez])<|vr 5 (True/\0<5/\True)<|vs 62 (bD ((n:Int)==(0:Int))) (bD Ac) (hd:=by simp(disch:=omega) only[en])<|veT<|vf<|vK<|vA<|vrT 2<|vc (hwr)<|veT<|zB<|vA<|vr 8 (True/\True)<|vs 90 (bD ((Aa A:Int)!=(Aa A:Int))) (bD Ac) (hd:=by simp(disch:=omega) only[eA])<|vr 5 (5<=5)<|vc (hch)<|veT<|vf<|vK<|zB<|vAe<|zF<|zQ (λ(i:Nat)=>fr 127 [(8,Ae (Ai witC<|witL A z)<|Aa A),(12,Ae (Ad rowV<|Ad (λ(a:List Nat×List Rw)=>zP z (AD a)) A)<|Aa A),(100,iD (Aa A:Int)),(101,iD (i:Int))]) (λ(i:Nat)=>[csB c,inqB n f c.desc c.P<|atsR A]) (λi=>A.length-i) (λ(i:Nat)=>i<=A.length) 0 ?_ ?_ ?_
  ·omega
  ·refine vk 2
  rintro i i1;rcases Az i A.length with i2|i2
  ·have hg2:=zFi zBw (witL A z) i (by omega);rw[hwg i i2]at hg2;have hle2:=zDd zBw (witL A z) i (by omega);have hne2:=zDc zBw (by decide) (witL A z);have hpi:=hpg i i2;have hpn:=hpn (by omega);have hsi:=hps i i2;have e1:=e0 i;generalize (witL A z).drop (i+1)=T at*;generalize (witL A z).flatMap witC=W at*;generalize zP z (A.getD i An).1=x at*;have hrx:=zV3 x _ rfl (by have:=hsi.1;omega);have hcx:=zS2 x x _ _ rfl rfl hsi hsi;rw[(zA3 x x).2.1.2 rfl]at hcx;refine vAu<|zB<|vT ((i:Int)<↑(Aa A))<|vKB<|vAe<|zB<|vd [0,1,2,3,5,4,6,7,8,9,10,11,14,15,16,12,13,17,18,19,20]<|vr 3 (ix ↑i ↑(Aa A) (W≠[]))<|vs 106 (AA<|Al (As (i:Int)*2) W) (AA (iD ↑i::rowV x::Ai witC T)) (hd:=by simp(disch:=omega) only[Av,AP,AQ,hg2])<|vr 4 (True/\0<Aa (iD ↑i::rowV x::Ai witC T)/\True)<|vs 110 (bD ((i:Int)!=↑i)) (bD Ac) (hd:=by simp(disch:=omega) only[e1])<|vr 4 (ix ↑i ↑(Aa A) (W≠[]))<|vs 114 (AA<|Al (As (i:Int)*2) W) (AA (iD ↑i::rowV x::Ai witC T)) (hd:=by simp(disch:=omega) only[Av,AP,AQ,hg2])<|vr 4 (True/\ix ↑i ↑(Aa A) (Ad rowV (Ad (λ(a:List Nat×List Rw)=>zP z (AD a)) A)≠[]))<|vp 120 i (Ad rowV<|Ad (λ(a:List Nat×List Rw)=>zP z (AD a)) A)<|vr 1 (0<Aa (rowV x::Ai witC T))<|vc hrx<|vr 1 (0<Aa (Al i<|Ad rowV<|Ad (λ(a:List Nat×List Rw)=>zP z (AD a)) A))<|vsh 121 hpi<|vc hcx<|veT<|vf<|zL<|zE<|vN<|zA rfl<|vr 2 (i6 (↑i+1))<|vnil<|zC<|⟨i+1,by omega,by omega,?_⟩;refine vk 2
  obtain rfl:i=A.length:=by omega
  refine vAu<|zB<|vF ((Aa A:Int)<↑(Aa A))<|vZ2<|vA<|vc haw<|veT<|zJ<|vret (True)<|.inr rfl
 have hwy:Pure Aj 12 [.agg (inqC n f c.desc c.P (atsR A)),rowV r] [] (.tup [.row [] 0,iD 9]):=whyNo_c n (f:Nat) (c.desc.map bD) (c.P.map λz=>iD z) c.desc.length c.P.length A r hA hrn ha hck;have hJ:=join_none hA hrn ha;rw[hJ]at hfi;have hfi:Pure Aj 20 [iD (n:Nat), .row (A.flatMap raN) A.length,rowV r] [] (.row [] 0):=hfi;rcases Nat.eq_zero_or_pos n with hn0|hn0
 ·have hr0:r=[]:=Bj (by omega);rw[hr0,hn0]at hJ;have hJ:zA4 A (valF A) 0 []=[]:=hJ;rw[hJ]at hj0;have hj0:Pure Aj 21 [iD 0, .row [] 0, .row (A.flatMap raN) A.length] [] (.row [] 0):=hj0;have en:(((n:Nat):Int)==0)=true:=beq_iff_eq.2 (by omega);have en2:decide (((n:Nat):Int)>0)=false:=decide_eq_false (by omega);refine zH zAf mixed A3 rfl<|vAu<|vA<|vr 2 (6<=6)<|vc (hw)<|ve (0<3/\1<3/\2<3/\Ac=Ac/\Ab=Ab/\5=5/\5<=5)<|zB<|vAe<|vf<|vK<|vA<|vr 2 (5<=5)<|vc (hwy)<|ve (0<2/\1<2)<|zB<|vAe<|vf<|vK<|vA<|vr 1 (5<=5)<|vc (hatm)<|veT<|zB<|vd [0,2,3,1,4,5,6]<|vr 4 (True/\0<5)<|vc (hrl)<|vc (hfi)<|veT<|zB<|vA<|vr 3 (True/\0<5)<|vs 53 (bD<|decide ((n:Int)>(0:Int))) (bD Ac) (hd:=by simp(disch:=omega) only[en2])<|vr 9 (True/\0<5/\True)<|vs 62 (bD ((n:Int)==(0:Int))) (bD Ab) (hd:=by simp(disch:=omega) only[en])<|vrT 2<|vcl [iD 0,nl,Ae (Ai raN A)<|Aa A] [iD 0,Ae [] 0,Ae (Ai raN A)<|Aa A] (LeL.trans (AJ _)<|A4 (LeD.refl _)<|A4 LeD.nil_row<|A4 (LeD.refl _) LeL.nil) (by exact hj0)<|veT<|vt<|vA<|vr 8 (True/\True)<|vc (haw)<|veT<|zJ<|zG<|vret (True)<|.inr rfl
 have en2:decide (((n:Nat):Int)>0)=true:=decide_eq_true (by omega);refine zH zAf mixed A3 rfl<|vAu<|vA<|vr 2 (6<=6)<|vc (hw)<|ve (0<3/\1<3/\2<3/\Ac=Ac/\Ab=Ab/\5=5/\5<=5)<|zB<|vAe<|vf<|vK<|vA<|vr 2 (5<=5)<|vc (hwy)<|ve (0<2/\1<2)<|zB<|vAe<|vf<|vK<|vA<|vr 1 (5<=5)<|vc (hatm)<|veT<|zB<|vd [0,2,3,1,4,5,6]<|vr 4 (True/\0<5)<|vc (hrl)<|vc (hfi)<|veT<|zB<|vA<|vr 3 (True/\0<5)<|vs 53 (bD<|decide ((n:Int)>(0:Int))) (bD Ab) (hd:=by simp(disch:=omega) only[en2])<|veT<|vt<|vA<|vr 8 (True/\True)<|vc (haw)<|veT<|zJ<|zG<|vret (True)<|.inr rfl
end
end Go.Proofs.YthmfohpkimflhaaGreatDoor
