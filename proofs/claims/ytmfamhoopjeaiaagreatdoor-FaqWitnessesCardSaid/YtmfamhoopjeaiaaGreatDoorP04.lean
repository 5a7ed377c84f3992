/- Texts of this claim, joined. -/
import Derived.Test.YtmfamhoopjeaiaaGreatDoorP03
import Derived.Lib.ItoaLen
import Derived.Test.YtmfamhoopjeaiaaGreatDoorProg
import Derived.Shelf.Spec.SlicesGrow
import Derived.Ground.Names8Prog
import Derived.Lib.RowBridge
import Derived.Lib.SlicesCompact
import Derived.Lib.AppendZeros
set_option linter.unusedVariables false
set_option linter.unusedSimpArgs false
namespace Go.Proofs.YtmfamhoopjeaiaaGreatDoor
open _root_.List renaming length->Aa,map->Ad,drop->Ah,getD->Aq,range->As,take->Au,flatMap->AB,replicate->AF,getElem?_eq_getElem->AJ,length_map->AM,headD->AQ,length_append->AR,take_of_length_le->AU,getD_eq_getElem?_getD->AX,drop_zero->A2,map_cons->A6,mem_map->A_,append_assoc->Bd,mem_cons->Bf,ext_getElem?->Bl,getElem_mem->Bn,pairwise_cons->Bp,all_eq_true->Bq,length_filter_le->Bt,range_succ->Bv,mem_cons_of_mem->Bx,mem_cons_self->By,map_nil->BA,mem_range->BB,length_cons->BC,mem_filter->BD,Pairwise->BE,getElem?_eq_some_iff->BF,getElem?_map->BH,toArray->BK,take_succ_eq_append_getElem->BL,map_map->BM,getElem?_append_left->BO,map_congr_left->BP,append_nil->BQ,getElem?_eq_none->BV,ext_getElem->BX,all->BY,cons_append->B5,nil_append->B6,getElem?_set->B7,getElem?_append_right->B9,mem_of_getElem?->B_,mem_singleton->Ca,idxOf_lt_length_iff->Ce,length_set->Ci,range'->Cj,replicate_succ->Cl,getElem_of_mem->Cn,length_nil->Cp,cons->Cr,filter_congr->Ct,getElem?_take->Cu,foldl_cons->Cv,map_append->Cy,getElem?_set_ne->Cz,singleton_append->CA,map_set->CB,filter_append->CD,mem_append->CE,not_mem_nil->CF,take_length->CH,sum_cons->CJ,foldl_nil->CL,getElem?_range->CP,take_zero->CQ,length_eq_zero_iff->CS,mem_iff_getElem->CT,getElem_inj->CU,filter_map->CX,any_eq_true->CY,filter_cons->CZ,eq_nil_of_length_eq_zero->C0,findIdx?_eq_some_iff_getElem->C1
open _root_.Bool renaming true->Ab,false->Ac,or_false->A1,and_eq_true->Bu,false_eq_true->BT,or_eq_true->Cc,eq_iff_iff->Cd,or_eq_false_iff->Cg,false_or->Ch,not_eq_true'->Cq,not_eq_false'->CV
open D renaming row->Ae,osl->Af,own->Ag,val->Aj,agg->Az,clo->AP,ptr->A8
open Lib renaming itoa->Ai,decDigits->AI,nDigits->AO,keeps->BG,compact->BU,compareBytes->B3,itoa_length_le->Cb,bitLen->Cs,byteCells->CI
open _root_.Inhabited renaming default->Ak
open Value renaming int->Al,string->AN,slice->BN,bool->BS
open _root_.Option renaming some->Am,none->AE,map_some->B8,some->Ck,getD_some->CC
open _root_.Prod renaming fst->An,snd->AD
open Bk renaming mk->Ao,cells->AH,kd->AL,ty->A3,sz->A4,arr->Bc
open Kd renaming plain->Ap,isMap->AV,isSh->AW,sh->Bw
open _root_.Go.Proofs.Tryz renaming prog->Ar
open IntKind renaming u8->Av,u32->AK,wrap->A0,u64->A5,i64->Bo
open Va renaming kind->Aw,str->AA,int->AC
open _root_.Int renaming toNat->Ax,fdiv->AZ,toNat_natCast->Bm,natAbs->Co
open _root_.BitVec renaming ofInt->Ay,toNat->AS
open _root_.Nat renaming lt_or_ge->AG,le_trans->AT,le_refl->A7,mul_one->Ba,le->Bg,zero_add->BI,zero_le->BJ,mul_le_mul_right->BW,mul_assoc->Cf,succ->Cx,succ_mul->CG,testBit->CK,mul_add->CM,add_mul->CN,eq_zero_or_pos->CR,testBit_two_pow_sub_one->C2
open _root_.ByteArray renaming mk->AY,data->Bs,toList->CO
open Lay renaming n->A9
open LeL renaming refl->Bb
open TypeInfo renaming desc->Bh,mk->Bi
open TypeDesc renaming string->Bj
open _root_.Array renaming toList->Br,toArray_toList->CW
open Js renaming its->BR
open Weak renaming nilC->BZ
abbrev ak_:Prop:=(1=1/\1<=1/\True)/\0<1/\1=1/\1<=16777216/\1<=9223372036854775807
abbrev al_(p:Prop):Prop:=((1=1/\1<=1/\True)/\0<1/\1=1/\1<=16777216/\1<=9223372036854775807)/\p
abbrev am_(p:Prop):Prop:=((1=1/\1<=1/\True)/\0<1/\1=1/\1<=16777216/\1<=9223372036854775807)/\Ab=Ab/\p
abbrev an_:Prop:=Ac=Ac/\Ab=Ab/\3=3/\3<=3
abbrev ao_(p:Prop):Prop:=True/\0<2/\((1=1/\1<=1/\True)/\0<1/\1=1/\1<=16777216/\1<=9223372036854775807)/\p
abbrev ap_:Prop:=True/\Ac=Ac/\Ab=Ab/\1=1/\2<=3
abbrev aq_:Prop:=True/\Ac=Ac/\Ab=Ab/\1=1/\3<=3
abbrev ar_:Prop:=True/\0<3
abbrev as_:Prop:=True/\0<2
abbrev au_(p:Prop):Prop:=True/\True/\True/\0<1/\0<1/\p
abbrev av_:Prop:=True/\0<2/\True/\0<1/\True
variable{b:Bool}{x:D}{Q:Exit->List D->List Bk->Prop}{st:List Bk}{cs sl:List D}{k v j a s n:Nat}{T:Par}{P:Program}
section
open Go.RowKit
structure Mk where
 p:Nat
 n:Nat
 cb:Nat
 A:List (List Nat×List Rw)
 base:Nat->Bk
abbrev atN(a:List Nat×List Rw):List D:=[.row (a.1.map λv=>iD (v:Nat)) a.1.length,iD (a.1.length:Nat), .row (a.2.map rowV) a.2.length]
abbrev Mk.vs(m:Mk)(a:Nat):List Nat:=(m.A.getD a Ak).1
abbrev Mk.tr(m:Mk)(a:Nat):Tri:=zCn (m.vs a).length (m.A.getD a Ak).2
abbrev it0(t:Tri):It:=⟨t,0,0,0,fr0,0⟩
abbrev ptB(m:Mk)(al:List Nat):Bk:=⟨al.map λi=> .own ((m.p+4+m.n+5*i+4)) 0,188,1,Ab,Ac, .sh⟩
abbrev ltP(m:Mk)(ix:Nat->List Nat)(v:Nat):D:= .osl (m.p+4+v) 0 (ix v).length (ix v).length Ab
abbrev ltB(m:Mk)(ix:Nat->List Nat):Bk:=⟨(As m.n).map (ltP m ix),182,1,Ab,Ac, .sh⟩
abbrev joB(m:Mk):Bk:=⟨[.osl m.p 0 m.n (m.n*3) Ab, .osl (m.p+1) 0 m.n m.n Ab,iD (0:Nat), .clo (.func 41) [] [.own m.cb 0]],181,0,Ac,Ac, .plain⟩
abbrev acB(a:List Nat×List Rw):Bk:=⟨atN a,75,0,Ac,Ac, .plain⟩
abbrev coB(k:Nat):Bk:=⟨rgD k,3,1,Ab,Ab, .plain⟩
abbrev teB(t:Tri):Bk:=⟨[triC t],185,0,Ac,Ac, .plain⟩
def qatm(m:Mk)(q:Nat):Bk:=if q%5=0 then acB (m.A.getD (q/5) Ak)else if q%5=1 then coB (m.vs (q/5)).length else if q%5=4 then itK (it0 (m.tr (q/5)))else teB (m.tr (q/5))
def qblk(m:Mk)(ix:Nat->List Nat)(al:List Nat)(k:Nat):Bk:=if k<m.p then m.base k else if k=m.p then roB (AF m.n ⟨0,0,[]⟩)else if k=m.p+1 then ltB m ix else if k=m.p+2 then joB m else if k=m.p+3 then ptB m al else if k<(m.p+4+m.n)then ptB m (ix (k-(m.p+4)))else qatm m (k-(m.p+4+m.n))
def qlay(m:Mk)(ix:Nat->List Nat)(al:List Nat)(c:Nat):List Bk:=(As ((m.p+4+m.n)+5*c)).map (qblk m ix al)
section
variable{m:Mk}{ix:Nat->List Nat}{al:List Nat}{c:Nat}
theorem zMk:(qlay m ix al c).length=(m.p+4+m.n)+5*c:=by simp[qlay]
theorem zHk(h:k<(m.p+4+m.n)+5*c):(qlay m ix al c)[k]?=Am (qblk m ix al k):=by simp[qlay,h]
theorem ql_t:(qlay m ix al c)[m.p+1]?=Am (ltB m ix):=by
 grind [zHk,qblk]
theorem ql_j:(qlay m ix al c)[m.p+2]?=Am (joB m):=by
 grind [zHk,qblk]
theorem ql_al:(qlay m ix al c)[m.p+3]?=Am (ptB m al):=by
 grind [zHk,qblk]
theorem ql_v(h:v<m.n):(qlay m ix al c)[m.p+4+v]?=Am (ptB m (ix v)):=by
 grind [zHk,qblk]
theorem ql_atm(h:j<5*c):(qlay m ix al c)[(m.p+4+m.n)+j]?=Am (qatm m j):=by
 grind [zHk,qblk]
theorem qblk_atm:qblk m ix al ((m.p+4+m.n)+j)=qatm m j:=by
 grind [qblk]
theorem ql_snoc:qlay m ix al c++[acB (m.A.getD c Ak)]++[coB (m.vs c).length]++[teB (m.tr c)]++[teB (m.tr c),itK (it0 (m.tr c))]=qlay m ix al (c+1):=by
 have e:As ((m.p+4+m.n)+5*(c+1))=As ((m.p+4+m.n)+5*c)++[(m.p+4+m.n)+5*c,(m.p+4+m.n)+(5*c+1),(m.p+4+m.n)+(5*c+2),(m.p+4+m.n)+(5*c+3),(m.p+4+m.n)+(5*c+4)]:=by
  rw[show(m.p+4+m.n)+5*(c+1)=(m.p+4+m.n)+5*c+1+1+1+1+1 by omega];rw[Bv,Bv,Bv,Bv,Bv];simp[Nat.add_assoc]
 unfold qlay;rw[e,Cy];simp only[Bd,A6,BA,qblk_atm,B5,B6];congr 1;have h0:qatm m (5*c)=acB (m.A.getD c Ak):=by unfold qatm;rw[if_pos (by omega),show 5*c/5=c by omega]
 have h1:qatm m (5*c+1)=coB (m.vs c).length:=by unfold qatm;rw[if_neg (by omega),if_pos (by omega),show(5*c+1)/5=c by omega]
 have h2:qatm m (5*c+2)=teB (m.tr c):=by unfold qatm;rw[if_neg (by omega),if_neg (by omega),if_neg (by omega),show(5*c+2)/5=c by omega]
 have h3:qatm m (5*c+3)=teB (m.tr c):=by unfold qatm;rw[if_neg (by omega),if_neg (by omega),if_neg (by omega),show(5*c+3)/5=c by omega]
 have h4:qatm m (5*c+4)=itK (it0 (m.tr c)):=by unfold qatm;rw[if_neg (by omega),if_neg (by omega),if_pos (by omega),show(5*c+4)/5=c by omega]
 rw[h0,h1,h2,h3,h4]
theorem zR3(h:zAt k cs=Ac):cs.map (zAq k)=cs:=by
 induction cs with
 |nil=>rfl
 |cons d cs ih=>
  simp_all [only,zAt,Cg,A6,zAq]
theorem zDm{b:Bk}(h:zAt k b.cells=Ac):zAu k b=b:=by
 simp_all [zAu,zR3]
theorem zM7(m:Mk)(k:Nat)(hk:k<(m.p+4+m.n)):∀al:List Nat,zAt k (al.map λi=>Ag ((m.p+4+m.n+5*i+4)) 0)=Ac
 |[]=>by simp only[BA,zAt]
 |i::al=>by
  simp only[A6,zAt,refs,zM7 m k hk al,A1,beq_eq_false_iff_ne];omega
structure MOk(m:Mk):Prop where
 bs:∀k,k<m.p->namB m.p (m.base k)
 cb:m.cb<m.p
theorem qb_kill(h:MOk m){k0:Nat}(h0:m.p+3<=k0)(h1:k0<(m.p+4+m.n))(hk:k≠m.p+1):zAu k0 (qblk m ix al k)=qblk m ix al k:=by
 have hcb:=h.cb;unfold qblk;simp only[if_neg hk];split
 ·rename_i hp;exact zWz (h.bs k hp) (by omega)
 split
 ·exact zJa rfl
 split
 ·refine zDm ?_;simp only[zAt,refs,A1,Ch,Cg,beq_eq_false_iff_ne];omega
 split
 ·grind [zDm,zM7]
 split
 ·grind [zDm,zM7]
 unfold qatm;split
 ·simp_all [zDm,only,zAt,refs,A1]
 split
 ·exact zJa rfl
 split
 ·exact zDm (zW5 (zBu _) k0)
 simp_all [zDm,only,zAt,refs,A1]
theorem lt_kill(k0:Nat)(h0:k0=m.p+3):zAu k0 (ltB m ix)=ltB m ix:=by
 subst h0;refine zDm ?_;show zAt (m.p+3) ((As m.n).map (ltP m ix))=Ac;have key:∀ls:List Nat,zAt (m.p+3) (ls.map (ltP m ix))=false:=by
  intro ls;induction ls with
  |nil=>simp only[BA,zAt]
  |cons v ls ih=>
   simp only[A6,zAt,refs,ih,A1,beq_eq_false_iff_ne];omega
 exact key _
theorem ql_all(h:MOk m)(al':List Nat):((qlay m ix al c).map (zAu (m.p+3))).set (m.p+3) (ptB m al')=qlay m ix al' c:=by
 apply Bl;intro j;rw[B7,AM,zMk];split
 ·grind [ql_al]
 rename_i e;rw[BH];rcases AG j ((m.p+4+m.n)+5*c)with hj|hj
 ·rw[zHk hj,zHk hj,B8];congr 1;have e2:qblk m ix al' j=qblk m ix al j:=by
   grind [qblk]
  rw[e2];by_cases hj1:j=m.p+1
  ·subst hj1;have:qblk m ix al (m.p+1)=ltB m ix:=by unfold qblk;rw[if_neg (by omega),if_neg (by omega),if_pos rfl]
   rw[this];exact lt_kill _ rfl
  exact qb_kill h (A7 _) (by omega) hj1
 grind [BV,zMk]
theorem ql_mk(h:MOk m)(hv:v<m.n)(b:Bk):(((qlay m ix al c).map (zAu (m.p+4+v))).set (m.p+4+v) b)[m.p+1]?=Am ⟨((As m.n).map (ltP m ix)).map (zAq (m.p+4+v)),182,1,Ab,Ac, .sh⟩:=by
 rw[Cz (by omega),BH,ql_t];rfl
theorem ql_app(h:MOk m)(hv:v<m.n)(i:Nat):(((qlay m ix al c).map (zAu (m.p+4+v))).set (m.p+4+v) (ptB m (ix v++[i]))).set (m.p+1) ⟨(((As m.n).map (ltP m ix)).map (zAq (m.p+4+v))).set v (.osl (m.p+4+v) 0 ((ix v).length+1) ((ix v).length+1) Ab),182,1,Ab,Ac, .sh⟩=qlay m (λw=>if w=v then ix v++[i]else ix w) al c:=by
 apply Bl;intro j;rw[B7,Ci,AM,zMk];split
 ·rename_i e;subst e;rw[if_pos (by omega),ql_t];congr 2;apply Bl;intro w;rw[B7,AM,AM,List.length_range];split
  ·grind
  rename_i e;rw[BH,BH,BH];rcases AG w m.n with hw|hw
  ·rw[CP hw];simp only[B8,ltP,if_neg (Ne.symm e)];unfold zAq;rw[show refs (m.p+4+v) (.osl (m.p+4+w) 0 (ix w).length (ix w).length Ab)=Ac by simp only[refs,beq_eq_false_iff_ne];omega];rfl
  grind
 rename_i e;rw[B7,AM,zMk];split
 ·grind [ql_v,only]
 grind [AG,zHk,qb_kill,qblk,only,BV,zMk]
theorem ql_nam(h:MOk m)(hal:∀i∈al,i<c)(hix:∀v,∀i∈ix v,i<c):∀b∈qlay m ix al c,namB ((m.p+4+m.n)+5*c) b:=λb hb=>by
 obtain⟨k,hk,rfl⟩:=A_.1 hb;have hcb:=h.cb;have hptr:∀al:List Nat,(∀i∈al,i<c)->namB ((m.p+4+m.n)+5*c) (ptB m al):=λal h=> .inr λj hj=>by
  refine zDj _ λi hi=>?_;have key:∀al:List Nat,(∀i∈al,i<c)->∀i∈ownL (al.map λi=>Ag ((m.p+4+m.n+5*i+4)) 0),i<(m.p+4+m.n)+5*c:=by
   intro al;induction al with
   |nil=>intro _ i hi;simp[ownL]at hi
   |cons a al ih=>
    intro h i hi;have ha:=h a (by simp);simp only[A6,ownL,ownN,CA,Bf]at hi;rcases hi with rfl|hi
    ·omega
    exact ih (λi hi=>h i (by simp[hi])) i hi
  have:=key al h i hi
  omega
 unfold qblk;split
 ·rename_i hp;exact(h.bs k hp).imp id λh j hj=>h j (by omega)
 split
 ·exact .inl rfl
 split
 ·refine .inr λj hj=>?_;have key:∀ls:List Nat,(∀v∈ls,v<m.n)->zAt j (ls.map (ltP m ix))=false:=by
   intro ls;induction ls with
   |nil=>intro _;simp only[BA,zAt]
   |cons v ls ih=>
    intro h
    have:=h v (by simp)
    simp only[A6,zAt,refs,ih λv hv=>h v (by simp[hv]),A1,beq_eq_false_iff_ne];omega
  exact key _ λv hv=>BB.1 hv
 split
 ·refine .inr λj hj=>?_;simp only[zAt,refs,A1,Ch,Cg,beq_eq_false_iff_ne];omega
 split
 ·exact hptr al hal
 split
 ·exact hptr _ (hix _)
 unfold qatm;split
 ·exact .inr λj _=>by simp only[zAt,refs,A1]
 split
 ·exact .inl rfl
 split
 ·exact .inr λj _=>zW5 (zBu _) j
 exact .inr λj _=>by simp only[zAt,refs,A1]
end
def callO(P:Program)(T:Par)(l:List Oper)(sl:List D):Option (FuncId×List D):=match l with
 |[]=>AE
 | o ::_=>match o.guard with
  |some _=>AE
  | none=>match o.op with
   | .call c=>match c.callee with
    | .value (.func f)=>match P.funcs[f]? with
     |none=>AE
     |some fn=>if fn.name== "runtime.NumGoroutine" ||fn.body.isNone then AE else if T.imp f then AE else Am (f,c.args.toList.map (evD sl))
    |_=>AE
   |_=>AE
theorem st_callo{ops:Array Oper}{dr:Bool}{l:List Oper}{K:List D->List Bk->Prop}(f:FuncId)(args xs:List D)(ks:List Nat)(h:callO P T l sl=Am (f,args))(hf:mapF (frz Ab st zAz) args=Am (xs,ks))(hp:Pure P f xs [] x)(next:seqW P T ops dr l.tail (putD sl (hdst l) x) (zA3 st ks) K):seqW P T ops dr l sl st K:=by
 unfold callO at h;split at h
 ·cases h
 rename_i o r;split at h
 ·cases h
 rename_i hg;split at h
 ·rename_i c ho;split at h
  ·rename_i f1 hc;split at h
   ·cases h
   rename_i fn hfn;split at h
   ·cases h
   rename_i hb;split at h
   ·cases h
   rename_i hi;cases h;have he:aeff P T o.op o.type (evD sl) st= .call f xs ks:=by
    grind [only,aeff,evD,zJ7]
   refine zBz hg<|go_call he ?_ hp rfl rfl next;rw[ho];obtain⟨cc,ca,ct⟩:=c;simp only at hc;subst hc;rfl
  cases h
 cases h
def stCs(p n k:Nat):List D:=(As n).map λv=>if v<k then .osl (p+4+v) 0 0 0 Ab else nlD
theorem zM6(p n k v:Nat):(stCs p n k)[v]?=if v<n then Am (if v<k then .osl (p+4+v) 0 0 0 Ab else nlD)else none:=by
 grind [stCs,BV]
theorem weak_stC{T:Par}{sl:List D}(st0:List Bk)(B0 B2:Bk)(R:List Bk)(p n:Nat)(hp:st0.length=p):∀k,k<=n->Weak T sl (st0++[B0,⟨stCs p n 0,182,1,Ab,Ac, .sh⟩,B2]++R) sl (st0++[B0,⟨stCs p n k,182,1,Ab,Ac, .sh⟩,B2]++R)
 |0,_=>Weak.refl _ _
 | k+1,hk=>by
  refine(weak_stC st0 B0 B2 R p n hp k (by omega)).trans ?_;have hg:(st0++[B0,(⟨stCs p n k,182,1,Ab,Ac, .sh⟩:Bk),B2]++R)[p+1]?=Am ⟨stCs p n k,182,1,Ab,Ac, .sh⟩:=by
   grind
  have h:=Weak.leC (T:=T) (sl:=sl) (j:=p+1) (i:=k) hg rfl (by show(stCs p n k)[k]?=_;rw[zM6,if_pos (by omega),if_neg (by omega)]) (LeD.nil (p+4+k) Ab);have e1:(stCs p n k).set k (.osl (p+4+k) 0 0 0 Ab)=stCs p n (k+1):=by
   apply Bl;grind [zM6,stCs]
  have e2:(st0++[B0,(⟨stCs p n k,182,1,Ab,Ac, .sh⟩:Bk),B2]++R).set (p+1) ⟨(stCs p n k).set k (.osl (p+4+k) 0 0 0 Ab),182,1,Ab,Ac, .sh⟩=st0++[B0,⟨stCs p n (k+1),182,1,Ab,Ac, .sh⟩,B2]++R:=by
   rw[e1,Bd,List.set_append_right _ _ (by omega),hp,show p+1-p=1 by omega,Bd];rfl
  rw[<-e2];exact h
theorem next_start{c:Code}(m:Mk)(st0:List Bk)(s:Nat)(hp:st0.length=m.p)(hb:∀k,k<m.p->st0[k]?=Am (m.base k))(hs:sl[s]?=Am nlD)(dead:List Nat)(sl':List D)(e:zAe (sl.set s (.osl (m.p+3) 0 0 0 Ab)) dead=sl')(k:awp P T c Q sl' (qlay m (λ_=>[]) [] 0)):
  zZ P T c Q sl (st0++[roB (AF m.n ⟨0,0,[]⟩),⟨repL m.n [nlD],182,1,Ab,Ac, .sh⟩,joB m]):=by
 subst e;refine⟨_,_,?_,k⟩;have er:repL m.n [nlD]=stCs m.p m.n 0:=by
  apply Bl;grind [zM6,zGr]
 rw[er];refine(Weak.more (AF (m.n+1) (ptB m []))).trans ((weak_stC st0 _ _ _ m.p m.n hp m.n (A7 _)).trans ?_);refine Weak.trans (sl':=sl.set s (.osl (m.p+3) 0 0 0 Ab)) (Weak.leS hs (LeD.nil (m.p+3) Ab)) ?_;have:st0++[roB (AF m.n ⟨0,0,[]⟩),(⟨stCs m.p m.n m.n,182,1,Ab,Ac, .sh⟩:Bk),joB m]++AF (m.n+1) (ptB m [])=qlay m (λ_=>[]) [] 0:=by
  apply Bl;intro j;rcases AG j m.p with hj|hj
  ·grind [Bd,BO,zHk,qblk]
  rw[Bd,B9 (by omega),hp];rcases AG j (m.p+4+m.n)with hj2|hj2
  ·rw[zHk (by omega)];unfold qblk;rw[if_neg (by omega)];obtain⟨i,rfl⟩:∃i,j=m.p+i:=⟨j-m.p,by omega⟩;rw[show m.p+i-m.p=i by omega];match i with
   |0=>rw[if_pos (by omega)];rfl
   |1=>
    rw[if_neg (by omega),if_pos rfl];show Am _=Am _;congr 2;apply Bl;grind [zM6,CP,BV]
   |2=>rw[if_neg (by omega),if_neg (by omega),if_pos rfl];rfl
   |i+3=>
    grind
  grind [BV,zMk]
 grind [Weak.slots,LeL.dead]
theorem bld_sz:∀(L:List Rw)(last:List Va)(t:Tri)(B:Nat),SzT B t->SzT (B+L.length) (bldT last L t)
 |[],_,_,_,h=>h
 |x::L,last,t,B,h=>by
  rw[bldT,BC,show B+(L.length+1)=B+1+L.length by omega];exact bld_sz L x _ (B+1) (adT_sz _ _ _ h)
theorem foldF_sz{B:Nat}{t:Tri}(h:SzT B t):∀l,SzT (B+l) ((Cj 0 l).foldl stF t)
 |0=>h
 |l+1=>by
  rw[List.range'_concat,List.foldl_append];exact stF_sz (foldF_sz h l)
theorem trieT_sz(n:Nat)(L:List Rw):SzT (L.length+n) (zCn n L):=by
 have h0:SzT 0 (AF n (([],[]):List Va×List Nat)):=λk=>by
  grind [zSx]
 have h1:=bld_sz L [] _ 0 h0;rw[BI]at h1;have h2:=foldF_sz h1 n;have h3:=foldF (bldT [] L (AF n ([],[])));rw[zNi,List.length_replicate]at h3;rw[h3]at h2;exact h2
abbrev itS(m:Mk):List It:=(As m.A.length).map λi=>it0 (m.tr i)
abbrev S0(m:Mk):Js:=⟨itS m,AF m.n ⟨0,0,[]⟩,0,[]⟩
structure AOk(m:Mk):Prop where
 n:m.n<=32
 na:m.A.length<=1000
 p:m.p<=50000
 v:Vok m.n m.A.length m.vs
 r:∀a∈m.A,a.2.length<=65536/\(∀r∈a.2,r.length=a.1.length)/\Rsc a.2
variable{m:Mk}
theorem AOk.get(h:AOk m)(ha:a<m.A.length):m.A.getD a Ak∈m.A:=by
 grind
theorem zNl{n:Nat}:∀{l:List Nat}(b:Nat),l.Pairwise (· <·)->(∀w∈l,b<=w/\w<n)->l.length<=n-b
 |[],b,_,_=>BJ _
 |w::l,b,h,k=>by
  obtain⟨h1,h2⟩:=Bp.1 h;have hw:=k w (by simp)
  have:=zNl (n:=n) (w+1) h2 λu hu=>⟨h1 u hu,(k u (by simp[hu])).2⟩
  rw[BC];omega
theorem AOk.vl(h:AOk m)(ha:a<m.A.length):(m.vs a).length<=32:=by
 have h1:=zNl (n:=m.n) 0 (h.v.asc a ha) λw hw=>⟨BJ _,h.v.lt a ha w hw⟩;have h2:=h.n;exact AT h1 (by omega)
theorem zTr(m:Mk)(ha:a<m.A.length):(itS m).getD a Ak=it0 (m.tr a):=by
 grind
theorem itS_at(h:AOk m)(hne:∀a∈m.A,a.2≠[]):AtV m.A.length m.vs 0 (itS m) where
 len:=by simp
 one a ha:=by
  obtain⟨h1,h2,h3⟩:=h.r _ (h.get ha)
  have hc:cnt m.vs a 0=0:=by simp[cnt]
  rw[zTr m ha,hc]
  refine⟨zKf _ _,rfl,by simp,h.vl ha,λhd=>?_,λh=>absurd h (Nat.lt_irrefl _)⟩
  exact trie_sib _ (Nat.pos_of_ne_zero hd) _ h2 h3 (hne _ (h.get ha))
theorem itS_bd(h:AOk m):Bds m.A.length (itS m):=λa ha=>by
 obtain⟨h1,h2,h3⟩:=h.r _ (h.get ha);have hz:=trieT_sz (m.vs a).length (m.A.getD a Ak).2;have hl:=h.vl ha;rw[zTr m ha];refine⟨λk=>AT (hz k).1 ?_,λk=>AT (hz k).2.1 ?_,λk c hc=>AT ((hz k).2.2 c hc) ?_,?_,by simp⟩
 ·omega
 ·omega
 ·omega
 exact AT (Nat.le_of_eq (zKf _ _)) hl
theorem itS_sz(h:AOk m){M:Nat}(hM:∀a∈m.A,a.2.length+m.n<=M):Szs m.A.length M (itS m):=λa ha k=>by
 have hz:=trieT_sz (m.vs a).length (m.A.getD a Ak).2;have h1:=zNl (n:=m.n) 0 (h.v.asc a ha) λw hw=>⟨BJ _,h.v.lt a ha w hw⟩;have h2:=hM _ (h.get ha);rw[zTr m ha];refine AT (hz k).1 ?_;omega
structure YbOk(m:Mk)(ch:List Nat)(yb:List (List Va)->Nat->Option Bk):Prop where
 c:∀k∈ch,k<m.p
 cb:m.cb∉ch
 b:∀ys k b,yb ys k=Am b->k<m.p/\namB m.p b
 z:∀k b,yb [] k=Am b->b=m.base k
def qL(m:Mk)(ch:List Nat)(yb:List (List Va)->Nat->Option Bk):Lay:=⟨m.p+4+m.n+5*m.A.length,m.A.length,m.n,m.p+2,m.p,m.p+1,λv=>m.p+4+v,λi=>m.p+4+m.n+5*i+4,m.vs,m.cb,ch,yb,qblk m (ats m.A.length m.vs) (As m.A.length)⟩
section
variable{m:Mk}{ch:List Nat}{yb:List (List Va)->Nat->Option Bk}
theorem zYg(h:YbOk m ch yb)(ys:List (List Va))(hk:m.p<=k):yb ys k=none:=by
 cases e:yb ys k with
 |none=>rfl
 |some b=>exact absurd (h.b ys k b e).1 (by omega)
theorem qL_ok(hm:MOk m)(ha:AOk m)(h:YbOk m ch yb):LOk (qL m ch yb) where
 sm:=by have:=ha.p;have:=ha.n;have:=ha.na;show m.p+4+m.n+5*m.A.length<=100000;omega
 jb:=by show m.p+2<m.p+4+m.n+5*m.A.length;omega
 rb:=by show m.p<m.p+4+m.n+5*m.A.length;omega
 tb:=by show m.p+1<m.p+4+m.n+5*m.A.length;omega
 jr:=by show m.p≠m.p+2;omega
 ib i hi:=by
  have hi:i<m.A.length:=hi
  show m.p+4+m.n+5*i+4<m.p+4+m.n+5*m.A.length/\m.p+4+m.n+5*i+4≠m.p+2/\m.p+4+m.n+5*i+4≠m.p
  omega
 ii i j hi hj e:=by
  have e:m.p+4+m.n+5*i+4=m.p+4+m.n+5*j+4:=e
  omega
 ts:=by
  refine⟨by show m.p+1≠m.p+2;omega,by show m.p+1≠m.p;omega,λi hi=>by show m.p+4+m.n+5*i+4≠m.p+1;omega,?_,λys=>zYg h ys (by show m.p<=m.p+1;omega)⟩
  show qblk m _ _ (m.p+1)=_
  unfold qblk
  rw[if_neg (by omega),if_neg (by omega),if_pos rfl];rfl
 ab v hv:=by
  have hv:v<m.n:=hv
  refine⟨by show m.p+4+v<m.p+4+m.n+5*m.A.length;omega,by show m.p+4+v≠m.p+2;omega,by show m.p+4+v≠m.p;omega,λi hi=>by show m.p+4+m.n+5*i+4≠m.p+4+v;omega,?_,λys=>zYg h ys (by show m.p<=m.p+4+v;omega)⟩
  show qblk m _ _ (m.p+4+v)=_
  unfold qblk
  rw[if_neg (by omega),if_neg (by omega),if_neg (by omega),if_neg (by omega),if_neg (by omega),if_pos (by omega),show m.p+4+v-(m.p+4)=v by omega];rfl
 ch k hk:=by
  have:=h.c k hk
  refine⟨by show k≠m.p+2;omega,by show k≠m.p;omega,by show k≠m.p+1;omega,λv hv=>by show k≠m.p+4+v;omega,λi hi=>by show k≠m.p+4+m.n+5*i+4;omega⟩
 cb:=⟨by have:=hm.cb;show m.cb<m.p+4+m.n+5*m.A.length;omega,h.cb⟩
 nb k hk:=ql_nam (m:=m) (ix:=ats m.A.length m.vs) (al:=As m.A.length) (c:=m.A.length) hm (λi hi=>BB.1 hi) (λv i hi=>BB.1 (BD.1 hi).1) _ (B_ (zHk hk))
 ny ys k b e:=by
  obtain⟨h1,h2⟩:=h.b ys k b e
  exact h2.imp id λh j hj=>h j (by have hj:m.p+4+m.n+5*m.A.length<=j:=hj;omega)
theorem qL_lay(h:YbOk m ch yb):lay (qL m ch yb) (S0 m)=qlay m (ats m.A.length m.vs) (As m.A.length) m.A.length:=by
 unfold lay qlay;refine BP λk hk=>?_;have hk:k<m.p+4+m.n+5*m.A.length:=BB.1 hk;by_cases h1:k=m.p+2
 ·subst h1;refine(blk_j (L:=qL m ch yb)).trans ?_;unfold qblk;rw[if_neg (by omega),if_neg (by omega),if_neg (by omega),if_pos rfl];rfl
 by_cases h2:k=m.p
 ·grind [blk,qL,qblk]
 unfold blk;rw[if_neg (show¬k=(qL m ch yb).jb from h1),if_neg (show¬k=(qL m ch yb).rb from h2)];split
 ·rename_i i hi;have hi1:=BB.1 (List.mem_of_find?_eq_some hi);have hi2:=List.find?_some hi;simp only[beq_iff_eq]at hi2;have hi1:i<m.A.length:=hi1;have hi2:m.p+4+m.n+5*i+4=k:=hi2;subst hi2;rw[show m.p+4+m.n+5*i+4=m.p+4+m.n+(5*i+4) by omega,qblk_atm];unfold qatm;grind
 show(yb [] k).getD (qblk m _ _ k)=_;cases e:yb [] k with
 |none=>rfl
 |some b=>
  have hb:=h.z k b e;have hk2:=(h.b [] k b e).1;grind [qblk]
end
section
variable{P:Program}{T:Par}{ops:Array Oper}{dr:Bool}{l:List Oper}{sl:List D}{st:List Bk}{K:List D->List Bk->Prop}
theorem kill_set{sl:List D}(h:sl[s]?=Am x)(hr:zAq k x= .unk):(sl.set s .unk).map (zAq k)=sl.map (zAq k):=by
 grind [CB,zAq,zV3]
theorem kill_osl{o m:Nat}:zAq k (.osl k o n m b)= .unk:=by
 unfold zAq;simp only[refs,beq_self_eq_true,if_true]
theorem st_appo1(b e:Bk)(s1 k j:Nat)(p C:Prop)(b':Bk)(d':D)(s2:Nat)(x2:D)(h:appL P T l sl b e=Am (s1,k,j,p,b',d'))(hk:st[k]?=Am b)(hj:st[j]?=Am e)(hp:p)(h2:(sl.set s1 .unk)[s2]?=Am x2)(hr2:zAq k x2= .unk)(hC:nes k (ownL ((sl.set s1 .unk).set s2 .unk))=C)(hc:C)(hkp:T.keep k=Ac)
  (next:seqW P T ops dr l.tail (putD ((sl.set s1 .unk).set s2 .unk) (hdst l) d') ((st.map (zAu k)).set k b') K):seqW P T ops dr l sl st K:=by
 unfold appL at h;split at h
 ·cases h
 rename_i o r;split at h
 ·cases h
 rename_i hg;split at h
 ·rename_i c ho;split at h
  ·rename_i hcl;split at h
   ·rename_i t u s1' x hat har;split at h
    ·rename_i et et' ht hu;split at h
     ·rename_i i z k1 n mm j1 off m1 m2 wh hi hz hs hx;split at h
      ·cases h
      rename_i hm;split at h
      ·rename_i hn;simp only[Ck.injEq,Prod.mk.injEq]at h;obtain⟨rfl,rfl,rfl,rfl,rfl,rfl⟩:=h;have hmf:(!e.kd.isMap)=true:=by simpa using hm
       have he:aeff P T o.op o.type (evD sl) st= .app (b.arr=Ab/\b.cells.length=n*i.size/\mm=n*i.size/\b.ty=et/\b.sz=i.size/\((e.cells.drop off).take m2).length=m1*i.size/\0<i.size/\0<i.bytes/\et=et'/\(n+m1)*i.bytes<=140737488355328/\z.length=i.size/\b.kd.isMap=Ac/\(zCq P T t=Ac\/b.kd.isSh=Ab))
         k1 {b with cells:=if b.nob then b.cells++(e.cells.drop off).take m2 else(b.cells++(e.cells.drop off).take m2).map (zAq k1)} (.osl k1 0 (n+m1) ((n+m1)*i.size) Ab):=by
        rw[ho];simp only[aeff,hcl,hat,har,zFy,ht,hu,hi,hz,hs,hx,unB,zEg,hj,hmf,if_true,hn,aApp,hk]
       refine zBz hg<|go_app he ?_ hkp hp rfl rfl ?_
       ·rw[ho];obtain⟨cc,ca,ct⟩:=c;simp only at hcl;subst hcl;rfl
       have hkl:sl.map (zAq k1)=(sl.set s1' .unk).set s2 .unk:=by
        have h3:=zTn (by rw[hC];exact hc:nes k1 (ownL ((sl.set s1' .unk).set s2 .unk)));rw[kill_set h2 hr2,kill_set (x:= .osl k1 0 n mm Ab) ?_ kill_osl]at h3
        ·exact h3
        have hl:s1'<sl.length:=by
         rcases AG s1' sl.length with hl|hl
         ·exact hl
         simp only[evD,AX,BV hl]at hs;cases hs
        simp only[evD,AX,AJ hl,CC]at hs;grind
       rw[hkl];exact next
      cases h
     cases h
    cases h
   cases h
  cases h
 cases h
end
end
variable{b':Bk}{yb:List (List Va)->Nat->Option Bk}{ch:List Nat}{L:List Rw}{m:Mk}{i:Nat}
section
open Go.RowKit
attribute [local irreducible] seqW awp zY zZ zR Weak updS zAe retL Pure Acts rP setP setQ cP nP fr
set_option maxRecDepth 4096
def Tr2(p:Nat)(ch:List Nat):Par:=⟨λf=>f==79||f==80||f==78,λ_ _=>AE,λk=>decide (k<p)&&!ch.contains k,λ_=>Ac,λt=>t==188||t==182⟩
theorem Tr2_ok(p:Nat)(ch:List Nat):zBg Ar (Tr2 p ch):=by intro t n f h;cases h
theorem Tr2_new(p:Nat)(ch:List Nat):∀k,p<=k->(Tr2 p ch).keep k=false:=λk hk=>by
 show(decide (k<p)&&!ch.contains k)=Ac;rw[decide_eq_false (by omega)];rfl
theorem zJk(p:Nat)(ch:List Nat):∀k,p+3<=k->(Tr2 p ch).keep k=false:=by grind [Tr2_new]
abbrev yCl(cb:Nat):D:= .clo (.func 41) [] [.own cb 0]
abbrev atsD(A:List (List Nat×List Rw)):D:= .row (A.flatMap atN) A.length
theorem zWa:∀n,zM (AF n ⟨0,0,[]⟩)=repL n (vaC ⟨0,0,[]⟩):=λn=>by
 induction n with
 |zero=>rfl
 |succ n ih=>
  have:repL (n+1) (vaC ⟨0,0,[]⟩)=vaC ⟨0,0,[]⟩++repL n (vaC ⟨0,0,[]⟩):=by simp[repL,Cl]
  rw[this,<-ih,Cl];rfl
theorem co_set(h:i<k):setAt (rgD i++AF (k-i) (iD 0)) i [iD (i:Nat)]=rgD (i+1)++AF (k-(i+1)) (iD 0):=by
 show(rgD i++AF (k-i) (iD 0)).set i (iD (i:Nat))=_;have hl:(rgD i).length=i:=by simp
 rw[List.set_append_right _ _ (by omega),hl,Nat.sub_self,show k-i=k-(i+1)+1 by omega,Cl,List.set_cons_zero];simp_all [rgD,Bv,Cy]
theorem frz_args{l:Nat}{rs:List D}(hk:st[k]?=Am ⟨cs,3,1,Ab,Ac, .plain⟩)(hb:(⟨cs,3,1,Ab,Ac, .plain⟩:Bk).nob=Ab)(ht:(cs.drop 0).take n=cs):mapF (frz Ab st zAz) [.agg [iD (n:Nat), .row rs l], .osl k 0 n n b]=Am ([.agg [iD (n:Nat), .row rs l], .row cs n],[k]):=by
 have h1:frz Ab st zAz (.agg [iD (n:Nat), .row rs l])=Am (.agg [iD (n:Nat), .row rs l],[]):=rfl;have h2:frz Ab st zAz (.osl k 0 n n b)=Am (.row cs n,[k]):=by
  unfold zAz;rw[frz];rw[hk];simp only[hb,if_true];rw[ht];rfl
 simp only[mapF,h1,h2];rfl
theorem setFz_app(h:st.length=k):zA3 (st++[⟨cs,3,1,Ab,Ac, .plain⟩]) [k]=st++[⟨cs,3,1,Ab,Ab, .plain⟩]:=by
 subst h;unfold zA3;show(st++[_]).modify st.length _=_;apply Bl;grind
theorem kill1{B:Bk}(hk:k<st.length)(hB:zAu k B=B):((st++[B]).map (zAu k)).set k b'=(st.map (zAu k)).set k b'++[B]:=by
 grind
theorem ptr_snoc(h:k<m.p+4+m.n)(al:List Nat)(i:Nat):((al.map λi=>Ag (m.p+4+m.n+5*i+4) 0)++[Ag (m.p+4+m.n+5*i+4) 0]).map (zAq k)=(al++[i]).map λi=>Ag (m.p+4+m.n+5*i+4) 0:=by
 grind [D,zR3,zM7]
abbrev tmB(m:Mk)(i:Nat):Bk:=⟨[.own (m.p+4+m.n+5*i+4) 0],188,1,Ab,Ac, .sh⟩
theorem tm_kill(h:k<m.p+4+m.n):zAu k (tmB m i)=tmB m i:=zDm (by simp only[zAt,refs,A1,beq_eq_false_iff_ne];omega)
def ixp(m:Mk)(a:Nat)(l:List Nat)(v:Nat):List Nat:=ats a m.vs v++if v∈l then[a]else[]
theorem ixp_nil(m:Mk)(a:Nat):ixp m a []=ats a m.vs:=funext λv=>by
 show ats a m.vs v++(if v∈([]:List Nat)then[a]else[])=_;rw[if_neg (by simp),BQ]
theorem ixp_all(m:Mk)(a:Nat):ixp m a (m.vs a)=ats (a+1) m.vs:=funext λv=>by
 show ats a m.vs v++(if v∈m.vs a then[a]else[])=ats (a+1) m.vs v;unfold ats;rw[Bv,CD];congr 1;split
 ·rename_i h;simp[h]
 rename_i h;simp[h]
theorem ixp_succ(m:Mk)(a:Nat)(l:List Nat)(u:Nat)(hu:u∉l):(λw=>if w=u then ixp m a l u++[a]else ixp m a l w)=ixp m a (l++[u]):=by grind [ixp]
theorem ql_mj{ix:Nat->List Nat}{al:List Nat}{c:Nat}(h:MOk m)(hv:v<m.n)(b:Bk):(((qlay m ix al c).map (zAu (m.p+4+v))).set (m.p+4+v) b)[m.p+2]?=Am (joB m):=by
 have hcb:=h.cb;rw[Cz (by omega),BH,ql_j,B8];congr 1;refine zDm ?_;simp only[zAt,refs,A1,Ch,Cg,beq_eq_false_iff_ne];omega
theorem hd_lt(m:Mk)(ix:Nat->List Nat)(v:Nat)(h:v<m.n):(((As m.n).map (ltP m ix)).drop v).headD .unk=ltP m ix v:=by
 simp_all
theorem ixp_len(m:Mk)(a:Nat)(l:List Nat)(v:Nat):(ixp m a l v).length<=a+1:=by
 grind [ixp,AR,ats,ats_len]
theorem ixp_lt(m:Mk)(a:Nat)(l:List Nat):∀v,∀i∈ixp m a l v,i<a+1:=λv i hi=>by
 unfold ixp at hi;rcases CE.1 hi with h|h
 ·have:=BB.1 (BD.1 h).1
  omega
 split at h
 ·rw[Ca.1 h];omega
 cases h
theorem zVw(hm:MOk m){st0 X:List Bk}(hp:st0.length=m.p)(hb:∀k,k<m.p->st0[k]?=Am (m.base k))(hX:X=st0++[roB (AF m.n ⟨0,0,[]⟩),(⟨repL m.n [nlD],182,1,Ab,Ac, .sh⟩:Bk),joB m]):∀b∈X,namB (m.p+3) b:=λb hbX=>by
 rw[hX]at hbX;rcases CE.1 hbX with h|h
 ·obtain⟨k,hk,rfl⟩:=Cn h;have h1:=hb k (by omega);rw[AJ hk]at h1;rw[Ck.inj h1];exact(hm.bs k (by omega)).imp id λh j hj=>h j (by omega)
 have hcb:=hm.cb;simp only[Bf,CF,or_false]at h;rcases h with rfl|rfl|rfl
 ·exact .inl rfl
 ·refine .inr λj _=>?_;show zAt j (repL m.n [nlD])=Ac;rw[zGr];exact(show∀n,zAt j (AF n nlD)=Ac from λn=>by
   induction n with
   |zero=>simp only[List.replicate_zero,zAt]
   |succ n ih=>simp only[Cl,zAt,refs,ih,A1]) _
 refine .inr λj hj=>?_;simp only[zAt,refs,A1,Ch,Cg,beq_eq_false_iff_ne];omega
def sumS(its:List It):Nat->Nat
 |0=>0
 |i+1=>sumS its i+(its.getD i Ak).s
theorem zYl{its:List It}{B:Nat}:∀{k:Nat},(∀i,i<k->(its.getD i Ak).s<=B)->sumS its k<=k*B
 |0,_=>BJ _
 |k+1,h=>by
  have h1:=zYl (k:=k) λi hi=>h i (by omega);grind [sumS,CG]
abbrev S1(m:Mk):Js:=extJ (ats m.A.length m.vs) m.n 0 (S0 m)
abbrev S2(m:Mk)(k:Nat):Js:={S1 m with s:=(S1 m).s+sumS (S1 m).its k}
theorem hd_pt(m:Mk){na:Nat}(h:i<na):(((As na).map λi=>Ag (m.p+4+m.n+5*i+4) 0).drop i).headD .unk= .own (m.p+4+m.n+5*i+4) 0:=by
 simp_all
theorem lay_pt(h:YbOk m ch yb)(S:Js):(lay (qL m ch yb) S)[m.p+3]?=Am (ptB m (As m.A.length)):=by
 rw[zHs (by show m.p+3<m.p+4+m.n+5*m.A.length;omega)];unfold blk;rw[if_neg (show¬m.p+3=(qL m ch yb).jb from show¬m.p+3=m.p+2 by omega),if_neg (show¬m.p+3=(qL m ch yb).rb from show¬m.p+3=m.p by omega),zP6 (λi hi=>by show m.p+4+m.n+5*i+4≠m.p+3;omega)];show Am ((yb S.ys (m.p+3)).getD (qblk m _ _ (m.p+3)))=_;rw[zYg h S.ys (by omega)];grind [qblk]
abbrev q7_(x0:Mk):=Ae (AB atN (Mk.A x0)) (Aa (Mk.A x0))
abbrev q8_(x0:Nat)(x1:Mk):=A8 (Ah (x0*3) (AB atN (Mk.A x1)))
abbrev q9_(x0:Nat)(x1:Mk):=Az (Au 3 (Ah (x0*3) (AB atN (Mk.A x1))))
theorem run_k(m:Mk)(hm:MOk m)(ha:AOk m)(ch:List Nat)(yb:List (List Va)->Nat->Option Bk)(hy:YbOk m ch yb)(hR:∀a∈m.A,a.2≠[])(M K:Nat)(hM:∀a∈m.A,a.2.length+m.n<=M)(hY:YOk (qL m ch yb) K)(hK:(S1 m).ys.length<=K)(hC:(m.A.length+1)*(cE m.A.length M m.n)+1<=big)(st0:List Bk)(hp:st0.length=m.p)(hb:∀k,k<m.p->st0[k]?=Am (m.base k)):Acts Ar 40 [iD (m.n:Nat),atsD m.A,yCl m.cb] st0 ch (.tup [iD ((S2 m m.A.length).s:Nat),iD 0]) (lay (qL m ch yb) (S2 m m.A.length)):=by
 have hn:=ha.n;have hV:=ha.v;have hA:=ha.na;have hp9:=ha.p;have hl1:∀b,(st0++[b]).length=m.p+1:=λb=>by rw[AR,hp];rfl
 have hl2:∀b c,(st0++[b]++[c]).length=m.p+2:=λb c=>by rw[AR,hl1];rfl
 refine zA1 (Tr2_ok m.p ch) mixed Tryz.func40 rfl (λk hk=>by
  by_cases h:k∈ch
  ·exact .inr h
  refine .inl ?_;show(decide (k<m.p)&&!ch.contains k)=Ab;rw[decide_eq_true (by omega)];simpa using h) ?_
 refine vA<|zAh [] [(6,iD 0),(7,iD 0)] ?_;refine zA<|vd [0,2,4,1,3,5,6,7]<|zBa 3 [(23,iD ↑(Mk.n m)),(25,iD ↑(Mk.n m)),(27,AP (Fn.func 41) [] [Ag (Mk.cb m) 0])] ?_;refine zBm (Mk.p m) ((0:Int)<=(↑(Mk.n m):Int)/\(↑(Mk.n m):Int)<=(↑(Mk.n m):Int)/\(↑(32:Nat):Int)*(↑(Mk.n m):Int)<=(281474976710656:Int)/\(↑(Mk.n m):Int)<=(281474976710656:Int)/\0<3/\3=3) (Ao (repL (Ax (↑(Mk.n m):Int)) [iD 0,iD 0,q4_]) 107 3 Ab Ac<|kdOf<|zCq Ar (Tr2 (Mk.p m) ch) 110) (Af 0 0 (Ax (↑(Mk.n m):Int)) (Ax (↑(Mk.n m):Int)*3) Ab) hp ?_ (hp:=by omega);refine zBm (Mk.p m+1) ((0:Int)<=(↑(Mk.n m):Int)/\(↑(Mk.n m):Int)<=(↑(Mk.n m):Int)/\(↑(24:Nat):Int)*(↑(Mk.n m):Int)<=(281474976710656:Int)/\(↑(Mk.n m):Int)<=(281474976710656:Int)/\0<1/\1=1) (Ao (repL (Ax (↑(Mk.n m):Int)) [nl]) 182 1 Ab Ac<|kdOf<|zCq Ar (Tr2 (Mk.p m) ch) 179) (Af 0 0 (Ax (↑(Mk.n m):Int)) (Ax (↑(Mk.n m):Int)*1) Ab) (hl1 _) ?_ (hp:=by omega);refine zX 1 [] [] ((1=1/\1<=4/\1=1/\2<=4/\1=1/\4<=4/\True)/\Ab=Ab) [(28,Az [Af (Mk.p m) 0 (Ax (↑(Mk.n m):Int)) (Ax (↑(Mk.n m):Int)*3) Ab,Af (Mk.p m+1) 0 (Ax (↑(Mk.n m):Int)) (Ax (↑(Mk.n m):Int)*1) Ab,iD 0,AP (Fn.func 41) [] [Ag (Mk.cb m) 0]])] ?_ (hc:=by decide);refine zAp 28 (Az [Af (Mk.p m) 0 (Ax (↑(Mk.n m):Int)) (Ax (↑(Mk.n m):Int)*3) Ab,Af (Mk.p m+1) 0 (Ax (↑(Mk.n m):Int)) (Ax (↑(Mk.n m):Int)*1) Ab,iD 0,AP (Fn.func 41) [] [Ag (Mk.cb m) 0]]) (Az [Af (Mk.p m) 0 (Mk.n m) (Mk.n m*3) Ab,Af (Mk.p m+1) 0 (Mk.n m) (Mk.n m) Ab,iD 0,AP (Fn.func 41) [] [Ag (Mk.cb m) 0]]) (by simp(disch:=omega) only[Bm,Ba]) ?_;refine zBm (Mk.p m+2) (True) (Ao [Af (Mk.p m) 0 (Mk.n m) (Mk.n m*3) Ab,Af (Mk.p m+1) 0 (Mk.n m) (Mk.n m) Ab,iD 0,AP (Fn.func 41) [] [Ag (Mk.cb m) 0]] 181 0 Ac Ac Ap) (Ag 0 0) (hl2 _ _) ?_;refine zBa 1 [(8,Ag (Mk.p m+2) 0)] ?_;refine zAn ?_ (by kernel_rfl);refine zC ?_;obtain⟨X,hX⟩:∃X,X=st0++[roB (AF m.n ⟨0,0,[]⟩),(⟨repL m.n [nlD],182,1,Ab,Ac, .sh⟩:Bk),joB m]:=⟨_,rfl⟩;have hXl:X.length=m.p+3:=by rw[hX,AR,hp];rfl
 have hXn:∀b∈X,namB (m.p+3) b:=zVw hm hp hb hX;refine next_st X ?_ ?_
 ·rw[hX,Bd,Bd];unfold roB;rw[zWa];exact congrArg (st0++·) (by kernel_rfl)
 have hac:∀a:List Nat×List Rw,(atN a).length=3:=λ_=>rfl;refine zK<|zA<|vA<|zAh [0,2,23,24,25,26,27,28,29] [(30,(q7_ m)),(31,iD (Aa (Mk.A m):Int)),(32,iD 0)] ?_;refine zF<|zN (λ(a:Nat)=>fr 124 [(1,atsD<|Mk.A m),(8,Ag (Mk.p m+2) 0),(30,(q7_ m)),(31,iD (Aa (Mk.A m):Int)),(32,iD a)]) (λ(a:Nat)=>X) (λ(a:Nat)=>m.A.length-a) (λ(a:Nat)=>a<=m.A.length) 0 ?_ ?_ ?_
 ·omega
 ·refine vkp [1,8,30,31,32]
 intro a h1;rcases AG a m.A.length with h2|h2
 ·have hg2:=zDo hac m.A a h2;have hle:=zHc hac m.A a h2;have hne:=zEk hac (by decide) m.A;have ham:m.A.getD a Ak∈m.A:=by rw[AX,AJ h2];exact Bn h2
  have hr1:=hR _ ham;obtain⟨hr2,hr3,hr4⟩:=ha.r _ ham;generalize m.A.getD a Ak=x at*;have hlen:=rlen_c (x.1.length:Nat) (x.2.map rowV) x.2.length;have hpos:0<x.2.length:=List.length_pos_iff.2 hr1;refine vA<|zAh [] [(33,bD<|decide ((a:Int)<(Aa (Mk.A m):Int)))] ?_;refine zA<|vT ((a:Int)<(Aa (Mk.A m):Int))<|vKB<|vA<|zX 2 [] [] (ix ↑a (Aa (Mk.A m):Int) (AB atN (Mk.A m)≠[])/\3<=Aa (Ah (a*3)<|AB atN<|Mk.A m)) [(34,(q8_ a m)),(35,(q9_ a m))] ?_ (hc:=⟨⟨(by omega),⟨(by omega),(by assumption)⟩⟩,(by omega)⟩);refine zAp 35 (Az<|Au 3<|Ah (a*3)<|AB atN<|Mk.A m) (Az<|atN x) (by simp(disch:=omega) only[hg2]) ?_;refine zBm (Mk.p m+3) (True) (Ao [nl,iD 0,nl] 75 0 Ac Ac Ap) (Ag 0 0) hXl ?_;refine zCh (Ao [nl,iD 0,nl] 75 0 Ac Ac Ap) (Mk.p m+3) (Ac=Ac/\Ab=Ab/\3=3/\3<=3) (Ao [Ae (Ad (λ(v:Nat)=>iD v)<|An x)<|Aa<|An x,iD (Aa (An x):Int),Ae (Ad rowV<|AD x)<|Aa<|AD x] 75 0 Ac Ac Ap) (zA5 hXl) ⟨(by kernel_rfl),⟨(by kernel_rfl),(by omega)⟩⟩ ?_;rw[zFx hXl];refine zAh [33,34,35] [] ?_;refine vA<|zBa 1 [(36,Ag (Mk.p m+3) 1)] ?_;refine zAs (Ao [Ae (Ad (λ(v:Nat)=>iD v)<|An x)<|Aa<|An x,iD (Aa (An x):Int),Ae (Ad rowV<|AD x)<|Aa<|AD x] 75 0 Ac Ac Ap) (Mk.p m+3) (Bg 2 2) (Az [iD (Aa (An x):Int),Ae (Ad rowV<|AD x)<|Aa<|AD x]) (zA5 hXl) (by simp) ?_;refine zYn [Az [iD (Aa (An x):Int),Ae (Ad rowV<|AD x)<|Aa<|AD x]] (by exact hlen) ?_;refine zAh [10,36,37,38] [(39,bD ((Aa (AD x):Int)==(0:Int)))] ?_;refine vEf ((Aa (AD x):Int)) ((0:Int))<|zL<|zD<|vN<|zB rfl<|zX 2 [] [] (i6 (↑a+1)) [(32,iD (↑a+1)),(40,iD (↑a+1))] ?_;refine zAn ?_ (by kernel_rfl);refine zC<|⟨a+1,h2,by omega,?_⟩;rw[zQl];refine zKb (m.p+2<m.p+3/\True) hXl hXn (zJk _ _) ?_ (by kernel_rfl) ⟨by omega,trivial⟩;refine vkp [1,8,30,31,32]
 obtain rfl:a=m.A.length:=by omega
 refine vA<|zAh [] [(33,bD<|decide ((Aa (Mk.A m):Int)<(Aa (Mk.A m):Int)))] ?_;refine zA<|vF ((Aa (Mk.A m):Int)<(Aa (Mk.A m):Int))<|vZ2<|vA<|zBa 1 [(11,nl)] ?_;refine zAn ?_ (by kernel_rfl);refine zC ?_;rw[hX];refine next_start m st0 11 hp hb (by kernel_rfl) [30,31,32,33] ([Uk,atsD m.A]++AF 6 Uk++[.own (m.p+2) 0,Uk,Uk, .osl (m.p+3) 0 0 0 Ab]++AF 112 Uk) (by kernel_rfl) ?_;refine zA<|vA<|zAh [0,1,2,3,4,5,9,10,12,19,21,23,24,25,26,27,28,29,30,31,32,33,34,35,36,37,38,39,40,103] [(41,(q7_ m)),(42,iD (Aa (Mk.A m):Int)),(43,iD 0)] ?_;refine zF<|zN (λ(a:Nat)=>fr 124 [(8,Ag (Mk.p m+2) 0),(11,Af (Mk.p m+3) 0 a a Ab),(22,Uk),(41,(q7_ m)),(42,iD (Aa (Mk.A m):Int)),(43,iD a),(102,Uk),(104,Uk),(105,Uk),(106,Uk),(107,Uk),(108,Uk),(109,Uk),(110,Uk),(111,Uk),(112,Uk),(113,Uk),(114,Uk),(115,Uk),(116,Uk),(117,Uk),(118,Uk),(119,Uk),(120,Uk),(121,Uk),(122,Uk),(123,Uk)]) (λ(a:Nat)=>qlay m (ats a m.vs) (As a) a) (λ(a:Nat)=>m.A.length-a) (λ(a:Nat)=>a<=m.A.length) 0 ?_ ?_ ?_
 ·omega
 ·rw[show ats 0 m.vs=λ_=>[]from rfl,show As 0=[]from rfl];refine vkp [8,11,41,42,43]
 intro a h1;rcases AG a m.A.length with h2|h2
 ·have hg2:=zDo hac m.A a h2;have hle:=zHc hac m.A a h2;have hne:=zEk hac (by decide) m.A;have ham:m.A.getD a Ak∈m.A:=by rw[AX,AJ h2];exact Bn h2
  have hr1:=hR _ ham;obtain⟨hr2,hr3,hr4⟩:=ha.r _ ham;have hql:(qlay m (ats a m.vs) (As a) a).length=m.p+4+m.n+5*a:=zMk;have hql1:∀b,(qlay m (ats a m.vs) (As a) a++[b]).length=m.p+4+m.n+5*a+1:=λb=>by rw[AR,hql];rfl
  have hvp:=hV.asc a h2;have hvt:=hV.lt a h2;have hvl:(m.A.getD a Ak).1.length<=32:=ha.vl h2;have hix:=ixp_all m a;change (m.A.getD a Ak).1.Pairwise _ at hvp;change ∀w∈(m.A.getD a Ak).1,w<m.n at hvt;change ixp m a (m.A.getD a Ak).1=_ at hix;generalize hgx:m.A.getD a Ak=x at hg2 hne hle ham hr1 hr2 hr3 hr4 hvl hvp hvt hix⊢;refine vA<|zAh [] [(44,bD<|decide ((a:Int)<(Aa (Mk.A m):Int)))] ?_;refine zA<|vT ((a:Int)<(Aa (Mk.A m):Int))<|vKB<|vA<|zX 2 [] [] (ix ↑a (Aa (Mk.A m):Int) (AB atN (Mk.A m)≠[])/\3<=Aa (Ah (a*3)<|AB atN<|Mk.A m)) [(45,(q8_ a m)),(46,(q9_ a m))] ?_ (hc:=⟨⟨(by omega),⟨(by omega),(by assumption)⟩⟩,(by omega)⟩);refine zAp 46 (Az<|Au 3<|Ah (a*3)<|AB atN<|Mk.A m) (Az<|atN x) (by simp(disch:=omega) only[hg2]) ?_;refine zBm (Mk.p m+4+Mk.n m+5*a) (True) (Ao [nl,iD 0,nl] 75 0 Ac Ac Ap) (Ag 0 0) hql ?_;refine zCh (Ao [nl,iD 0,nl] 75 0 Ac Ac Ap) (Mk.p m+4+Mk.n m+5*a) (Ac=Ac/\Ab=Ab/\3=3/\3<=3) (Ao [Ae (Ad (λ(v:Nat)=>iD v)<|An x)<|Aa<|An x,iD (Aa (An x):Int),Ae (Ad rowV<|AD x)<|Aa<|AD x] 75 0 Ac Ac Ap) (zA5 hql) ⟨(by kernel_rfl),⟨(by kernel_rfl),(by omega)⟩⟩ ?_;rw[zFx hql];refine zAh [44,45,46] [] ?_;refine vA<|zBa 1 [(47,Ag (Mk.p m+4+Mk.n m+5*a) 0)] ?_;refine zAs (Ao [Ae (Ad (λ(v:Nat)=>iD v)<|An x)<|Aa<|An x,iD (Aa (An x):Int),Ae (Ad rowV<|AD x)<|Aa<|AD x] 75 0 Ac Ac Ap) (Mk.p m+4+Mk.n m+5*a) (Bg 1 3) (Ae (Ad (λ(v:Nat)=>iD v)<|An x)<|Aa<|An x) (zA5 hql) (by simp) ?_;refine zBa 1 [(49,iD (Aa (An x):Int))] ?_;refine zBm (Mk.p m+4+Mk.n m+5*a+1) ((0:Int)<=(Aa (An x):Int)/\(Aa (An x):Int)<=(Aa (An x):Int)/\(↑(8:Nat):Int)*(Aa (An x):Int)<=(281474976710656:Int)/\(Aa (An x):Int)<=(281474976710656:Int)/\0<1/\1=1) (Ao (repL (Ax (Aa (An x):Int)) [iD 0]) 3 1 Ab Ac<|kdOf<|zCq Ar (Tr2 (Mk.p m) ch) 39) (Af 0 0 (Ax (Aa (An x):Int)) (Ax (Aa (An x):Int)*1) Ab) (hql1 _) ?_ (hp:=by omega);refine zJq (qlay m (ats a m.vs) (As a) a++[acB x]++[⟨rgD 0++AF (x.1.length-0) (iD 0),3,1,Ab,Ac,.plain⟩]) ?_ ?_
  ·rw[zGr];rfl
  refine zBa 1 [(14,Af (Mk.p m+4+Mk.n m+5*a+1) 0 (Ax (Aa (An x):Int)) (Ax (Aa (An x):Int)*1) Ab)] ?_;refine zAp 14 (Af (Mk.p m+4+Mk.n m+5*a+1) 0 (Ax (Aa (An x):Int)) (Ax (Aa (An x):Int)*1) Ab) (Af (Mk.p m+4+Mk.n m+5*a+1) 0 (Aa<|An x) (Aa<|An x) Ab) (by simp(disch:=omega) only[Bm,Ba]) ?_;refine zAh [47,48,49,50] [] ?_;refine zA<|vA<|zAh [51] [(52,iD (Aa (An x):Int)),(53,iD 0)] ?_;refine zF<|zN (λ(i:Nat)=>fr 124 [(8,Ag (Mk.p m+2) 0),(11,Af (Mk.p m+3) 0 a a Ab),(13,Ag (Mk.p m+4+Mk.n m+5*a) 0),(14,Af (Mk.p m+4+Mk.n m+5*a+1) 0 (Aa<|An x) (Aa<|An x) Ab),(22,Uk),(41,(q7_ m)),(42,iD (Aa (Mk.A m):Int)),(43,iD a),(52,iD (Aa (An x):Int)),(53,iD i),(102,Uk),(104,Uk),(105,Uk),(106,Uk),(107,Uk),(108,Uk),(109,Uk),(110,Uk),(111,Uk),(112,Uk),(113,Uk),(114,Uk),(115,Uk),(116,Uk),(117,Uk),(118,Uk),(119,Uk),(120,Uk),(121,Uk),(122,Uk),(123,Uk)]) (λ(i:Nat)=>qlay m (ats a m.vs) (As a) a++[acB x]++[⟨rgD i++AF (x.1.length-i) (iD 0),3,1,Ab,Ac,.plain⟩]) (λ(i:Nat)=>x.1.length-i) (λ(i:Nat)=>i<=x.1.length) 0 ?_ ?_ ?_
  ·omega
  ·refine vkp [8,11,13,14,41,42,43,52,53]
  intro i h3;rcases AG i x.1.length with h4|h4
  ·have hl2:(qlay m (ats a m.vs) (As a) a++[acB x]).length=m.p+4+m.n+5*a+1:=hql1 _;refine vA<|zAh [] [(54,bD<|decide ((i:Int)<(Aa (An x):Int)))] ?_;refine zA<|vT ((i:Int)<(Aa (An x):Int))<|vKB<|vA<|zAh [54,55] [(15,iD i)] ?_;refine zB rfl<|zX 4 [] [] ((0:Int)<=(i:Int)/\(i:Int)<(Aa (An x):Int)) [(56,Af (Mk.p m+4+Mk.n m+5*a+1) 0 (Aa<|An x) (Aa<|An x) Ab),(57,iD i),(58,iD i),(59,Ag (Mk.p m+4+Mk.n m+5*a+1) (0+Ax (i:Int)*1))] ?_;refine zAp 59 (Ag (Mk.p m+4+Mk.n m+5*a+1) (0+Ax (i:Int)*1)) (Ag (Mk.p m+4+Mk.n m+5*a+1) i) (by simp(disch:=omega) only[Bm,Ba,BI]) ?_;refine st_puta (Ao (rgD i++AF (Aa (An x)-i) (iD 0)) 3 1 Ab Ac Ap) (Mk.p m+4+Mk.n m+5*a+1) (Ac=Ac/\Ab=Ab/\1=1/\i+1<=Aa (rgD i++AF (Aa (An x)-i) (iD 0))) (Ao (setAt (rgD i++AF (Aa (An x)-i) (iD 0)) i<|cellsOf<|iD i) 3 1 Ab Ac Ap) (by kernel_rfl) (zA5 hl2) ⟨(by kernel_rfl),⟨(by kernel_rfl),⟨(by kernel_rfl),(by(simp;omega))⟩⟩⟩ ?_;rw[zFx hl2];refine zJq (qlay m (ats a m.vs) (As a) a++[acB x]++[⟨rgD (i+1)++AF (x.1.length-(i+1)) (iD 0),3,1,Ab,Ac,.plain⟩]) ?_ ?_
   ·exact congrArg (λcs=>qlay m (ats a m.vs) (As a) a++[acB x]++[(⟨cs,3,1,Ab,Ac, .plain⟩:Bk)]) (co_set h4)
   refine zAn ?_ (by kernel_rfl);refine zD<|vN<|zB rfl<|zX 2 [] [] (i6 (↑i+1)) [(53,iD (↑i+1)),(60,iD (↑i+1))] ?_;refine zAn ?_ (by kernel_rfl);refine zC<|⟨i+1,by omega,by omega,?_⟩;refine vkp [8,11,13,14,41,42,43,52,53]
  obtain rfl:i=x.1.length:=by omega
  rw[Nat.sub_self,List.replicate_zero,BQ];have hl1:=hql1 (acB x);refine vA<|zAh [] [(54,bD<|decide ((Aa (An x):Int)<(Aa (An x):Int)))] ?_;refine zA<|vF ((Aa (An x):Int)<(Aa (An x):Int))<|vZ2<|vA<|zBa 1 [(62,Ag (Mk.p m+4+Mk.n m+5*a) 1)] ?_;have htn:=trieNew_c x.1.length x.2 (by omega) hr2 hr3 hr4;refine zAs (Ao [Ae (Ad (λ(v:Nat)=>iD v)<|An x)<|Aa<|An x,iD (Aa (An x):Int),Ae (Ad rowV<|AD x)<|Aa<|AD x] 75 0 Ac Ac Ap) (Mk.p m+4+Mk.n m+5*a) (Bg 2 2) (Az [iD (Aa (An x):Int),Ae (Ad rowV<|AD x)<|Aa<|AD x]) (zBi<|zA5 hql) (by simp) ?_;refine zBa 1 [(64,Af (Mk.p m+4+Mk.n m+5*a+1) 0 (Aa<|An x) (Aa<|An x) Ab)] ?_;refine st_callo 77 [.agg [iD (x.1.length:Nat),.row (x.2.map rowV) x.2.length],.osl (m.p+4+m.n+5*a+1) 0 x.1.length x.1.length Ab] _ [m.p+4+m.n+5*a+1] (by kernel_rfl) (frz_args (zA5 hl1) rfl<|AU (by simp)) htn ?_;rw[setFz_app hl1];have hl2:(qlay m (ats a m.vs) (As a) a++[acB x]++[coB x.1.length]).length=m.p+4+m.n+5*a+2:=by rw[AR,hl1];rfl
  have hl3:(qlay m (ats a m.vs) (As a) a++[acB x]++[coB x.1.length]++[teB (zCn x.1.length x.2)]).length=m.p+4+m.n+5*a+3:=by rw[AR,hl2];rfl
  have hit:=(iter_a (zCn x.1.length x.2)).new0 (st:=qlay m (ats a m.vs) (As a) a++[acB x]++[coB x.1.length]++[teB (zCn x.1.length x.2)]) (λI w β vs h=>h) (λb hb=>by
   simp only[Bf,CF,or_false]at hb;rcases hb with rfl|rfl
   ·exact .inr λk=>by simp only[zAt,refs,A1]
   exact zBe (zBu _))
  rw[hl3]at hit;change Acts _ _ _ _ _ (.own (m.p+4+m.n+5*a+4) 0) _ at hit;refine zX 3 [] [] (0<2/\1<2) [(61,D.tup [Az [Ae (AB lvC<|zCn (Aa<|An x)<|AD x)<|Aa<|zCn (Aa<|An x)<|AD x],iD 0]),(66,Az [Ae (AB lvC<|zCn (Aa<|An x)<|AD x)<|Aa<|zCn (Aa<|An x)<|AD x]),(67,iD 0)] ?_;refine zBm (Mk.p m+4+Mk.n m+5*a+2) (True) (q6_) (Ag 0 0) hl2 ?_;refine zCh (q6_) (Mk.p m+4+Mk.n m+5*a+2) (Ac=Ac/\Ab=Ab/\1=1/\1<=1) (Ao [Ae (AB lvC<|zCn (Aa<|An x)<|AD x)<|Aa<|zCn (Aa<|An x)<|AD x] 185 0 Ac Ac Ap) (zA5 hl2) ⟨(by kernel_rfl),⟨(by kernel_rfl),(by omega)⟩⟩ ?_;rw[zFx hl2];refine zAh [14,52,53,54,61,62,63,64,65,66,67] [(17,iD 0)] ?_;refine zA<|vA<|zAh [68] [(69,bD Ac)] ?_;refine vf<|vK<|vA<|zAs (Ao [Ae (AB lvC<|zCn (Aa<|An x)<|AD x)<|Aa<|zCn (Aa<|An x)<|AD x] 185 0 Ac Ac Ap) (Mk.p m+4+Mk.n m+5*a+2) (Bg 1 1) (Az [Ae (AB lvC<|zCn (Aa<|An x)<|AD x)<|Aa<|zCn (Aa<|An x)<|AD x]) (zA5 hl2) (by simp) ?_;refine zAi [] [] [Az [Ae (AB lvC<|zCn (Aa<|An x)<|AD x)<|Aa<|zCn (Aa<|An x)<|AD x]] [Az [Ae (AB lvC<|zCn (Aa<|An x)<|AD x)<|Aa<|zCn (Aa<|An x)<|AD x]] (Bb _) (by exact hit) ?_;refine zAh [16,17,69,71,72] [(18,Ag (Mk.p m+4+Mk.n m+5*a+4) 0)] ?_;refine vA<|zBa 2 [(73,Af (Mk.p m+3) 0 a a Ab),(74,Ag (Mk.p m+4+Mk.n m+5*a+4) 0)] ?_;refine zJq (qlay m (ats a m.vs) (As a) (a+1)) ?_ ?_
  ·grind [ql_snoc]
  have hqn:∀ix al,(qlay m ix al (a+1)).length=m.p+4+m.n+5*(a+1):=λ_ _=>zMk;refine zBm (Mk.p m+4+Mk.n m+5*(a+1)) ((1=1/\1<=1/\True)/\0<1/\1=1/\1<=16777216/\1<=9223372036854775807) (Ao [Ag (Mk.p m+4+Mk.n m+5*a+4) 0] 188 1 Ab Ac Bw) (Af 0 0 1 1 Ab) (hqn _ _) ?_ (hp:=⟨⟨(by kernel_rfl),⟨(by omega),trivial⟩⟩,(by omega)⟩);refine st_appo1 (ptB m<|As a) (tmB m a) 73 (m.p+3) (m.p+4+m.n+5*(a+1)) (Ab=Ab/\(ptB m<|As a).cells.length=a*1/\a=a*1/\188=188/\1=1/\1=1/\0<1/\0<8/\188=188/\(a+1)*8<=140737488355328/\1=1/\Ac=Ac/\(zCq Ar (Tr2 m.p ch) 182=Ac\/Ab=Ab)) (m.p+2≠m.p+3/\m.p+4+m.n+5*a≠m.p+3/\m.p+4+m.n+5*a+4≠m.p+3/\m.p+4+m.n+5*a+4≠m.p+3/\m.p+4+m.n+5*(a+1)≠m.p+3/\True) ⟨(((As a).map λi=>Ag (m.p+4+m.n+5*i+4) 0)++[Ag (m.p+4+m.n+5*a+4) 0]).map<|zAq (m.p+3),188,1,Ab,Ac,.sh⟩ (.osl (m.p+3) 0 (a+1) ((a+1)*1) Ab) 11 (.osl (m.p+3) 0 a a Ab) (by kernel_rfl) (zBi ql_al) (zA5<|hqn _ _) ⟨rfl,by simp,by omega,rfl,rfl,rfl,by decide,by decide,rfl,by omega,rfl,rfl,.inr rfl⟩ (by kernel_rfl) kill_osl (by kernel_rfl) ⟨by omega,by omega,by omega,by omega,by omega,trivial⟩ (zJk _ _ _<|A7 _) ?_;rw[kill1 (k:=m.p+3) (by rw[hqn];omega) (tm_kill (by omega)),ptr_snoc (k:=m.p+3) (by omega)];refine zJq (qlay m (ats a m.vs) (As (a+1)) (a+1)++[tmB m a]) ?_ ?_
  ·grind [ql_all,As,Bv]
  refine zBa 1 [(11,Af (Mk.p m+3) 0 (a+1) ((a+1)*1) Ab)] ?_;refine zAp 11 (Af (Mk.p m+3) 0 (a+1) ((a+1)*1) Ab) (Af (Mk.p m+3) 0 (a+1) (a+1) Ab) (by simp(disch:=omega) only[Ba]) ?_;refine zAn ?_ (by kernel_rfl);refine zC ?_;have hrl:∀i∈As (a+1),i<a+1:=λi hi=>BB.1 hi;refine zHo [74,75,76] (AF 8 Uk++[.own (m.p+2) 0,Uk,Uk,.osl (m.p+3) 0 (a+1) (a+1) Ab,Uk,.own (m.p+4+m.n+5*a) 0]++AF 4 Uk++[.own (m.p+4+m.n+5*a+4) 0]++AF 22 Uk++[atsD m.A,iD (m.A.length:Nat),iD (a:Nat)]++AF 80 Uk) (m.p+2<m.p+4+m.n+5*(a+1)/\m.p+3<m.p+4+m.n+5*(a+1)/\m.p+4+m.n+5*a<m.p+4+m.n+5*(a+1)/\m.p+4+m.n+5*a+4<m.p+4+m.n+5*(a+1)/\True) (hqn _ _) (ql_nam hm hrl (by rw[<-ixp_nil];exact ixp_lt m a [])) (λk hk=>zJk _ _ _ (by omega)) (by kernel_rfl) (by kernel_rfl) ⟨by omega,by omega,by omega,by omega,trivial⟩ ?_;have hqa:∀ix al,(qlay m ix al (a+1))[m.p+4+m.n+5*a]?=Am (acB x):=λix al=>by
   rw[ql_atm (by omega)];simp_all [qatm]
  refine vA<|zBa 1 [(77,Ag (Mk.p m+4+Mk.n m+5*a) 0)] ?_;refine zAs (Ao [Ae (Ad (λ(v:Nat)=>iD v)<|An x)<|Aa<|An x,iD (Aa (An x):Int),Ae (Ad rowV<|AD x)<|Aa<|AD x] 75 0 Ac Ac Ap) (Mk.p m+4+Mk.n m+5*a) (Bg 1 3) (Ae (Ad (λ(v:Nat)=>iD v)<|An x)<|Aa<|An x) (hqa _ _) (by simp) ?_;refine zAh [0,1,2,3,4,5,9,10,12,13,14,15,16,17,19,21,23,24,25,26,27,28,29,30,31,32,33,34,35,36,37,38,39,40,44,45,46,47,48,49,50,51,52,53,54,55,56,57,58,59,60,61,62,63,64,65,66,67,68,69,70,71,72,73,74,75,76,77,103] [(79,iD (Aa (An x):Int)),(80,iD 0)] ?_;refine zF<|zN (λ(t:Nat)=>fr 124 [(6,Uk),(7,Uk),(8,Ag (Mk.p m+2) 0),(11,Af (Mk.p m+3) 0 (a+1) (a+1) Ab),(18,Ag (Mk.p m+4+Mk.n m+5*a+4) 0),(22,Uk),(41,atsD<|Mk.A m),(42,iD (Aa (Mk.A m):Int)),(43,iD a),(78,Ae (Ad (λ(v:Nat)=>iD v)<|An x)<|Aa<|An x),(79,iD (Aa (An x):Int)),(80,iD t),(101,Uk),(102,Uk),(104,Uk),(105,Uk),(106,Uk),(107,Uk),(108,Uk),(109,Uk),(110,Uk),(111,Uk),(112,Uk),(113,Uk),(114,Uk),(115,Uk),(116,Uk),(117,Uk),(118,Uk),(119,Uk),(120,Uk),(121,Uk),(122,Uk),(123,Uk)]) (λ(t:Nat)=>qlay m (ixp m a<|x.1.take t) (As (a+1)) (a+1)) (λ(t:Nat)=>x.1.length-t) (λ(t:Nat)=>t<=x.1.length) 0 ?_ ?_ ?_
  ·omega
  ·rw[CQ,ixp_nil];refine vkp [8,11,18,41,42,43,78,79,80]
  intro t ht;rcases AG t x.1.length with ht2|ht2
  ·have hhd:=zCe (λv:Nat=>iD (v:Nat)) x.1 0 t ht2;have hne1:(x.1.map λv=>iD (v:Nat))≠[]:=zV;have htk:=zB2 x.1 0 t ht2;have hun:x.1.getD t 0∉x.1.take t:=zHd (hvp.imp λh=>Nat.ne_of_lt h) ht2;have hum:x.1.getD t 0<m.n:=hvt _ (by rw[AX,AJ ht2];exact Bn ht2);have hsu:=ixp_succ m a (x.1.take t) (x.1.getD t 0) hun;rw[<-htk]at hsu;have hil:=ixp_len m a (x.1.take t) (x.1.getD t 0);generalize x.1.getD t 0=u at*;generalize hix0:ixp m a (x.1.take t)=ix at*;refine vA<|zAh [] [(81,bD<|decide ((t:Int)<(Aa (An x):Int)))] ?_;refine zA<|vT ((t:Int)<(Aa (An x):Int))<|vKB<|vA<|zX 1 [] [] (YtmfamhoopjeaiaaGreatDoor.ix ↑t (Aa (An x):Int) (Ad (λ(v:Nat)=>iD v) (An x)≠[])) [(82,A8<|Ah (Ax (t:Int)*1)<|Ad (λ(v:Nat)=>iD v)<|An x)] ?_ (hc:=⟨(by omega),⟨(by omega),(by assumption)⟩⟩);refine zAp 82 (A8<|Ah (Ax (t:Int)*1)<|Ad (λ(v:Nat)=>iD v)<|An x) (A8<|Ah t<|Ad (λ(v:Nat)=>iD v)<|An x) (by simp(disch:=omega) only[Bm,Ba]) ?_;refine zX 1 [] [] (0<Aa (Ah t<|Ad (λ(v:Nat)=>iD v)<|An x)) [(83,AQ (Ah t<|Ad (λ(v:Nat)=>iD v)<|An x) Uk)] ?_ (hc:=by(simp;omega));refine zAp 83 (AQ (Ah t<|Ad (λ(v:Nat)=>iD v)<|An x) Uk) (iD u) (by simp(disch:=omega) only[hhd]) ?_;refine zAh [81,82,83] [(20,iD u)] ?_;refine zDc [0,1,2,4,5,6,7,9,12,3,8,10,11,13] [(14,[(3,100000)],[15,16])] rfl ?_;refine zX 9 [] [] (True/\True) [(84,Ag (Mk.p m+2) 0),(85,Ag (Mk.p m+2) 0),(86,Ag (Mk.p m+2) 1),(88,iD u),(89,Ag (Mk.p m+2) 0),(90,Ag (Mk.p m+2) 0),(91,Ag (Mk.p m+2) 1),(93,iD u),(96,Ag (Mk.p m+4+Mk.n m+5*a+4) 0)] ?_ (hc:=by decide);refine zAs (Ao [Af (Mk.p m) 0 (Mk.n m) (Mk.n m*3) Ab,Af (Mk.p m+1) 0 (Mk.n m) (Mk.n m) Ab,iD ↑(0:Nat),AP (Fn.func 41) [] [Ag (Mk.cb m) 0]] 181 0 Ac Ac Ap) (Mk.p m+2) (Bg 1 3) (Af (Mk.p m+1) 0 (Mk.n m) (Mk.n m) Ab) ql_j (by simp) ?_;refine zAs (Ao [Af (Mk.p m) 0 (Mk.n m) (Mk.n m*3) Ab,Af (Mk.p m+1) 0 (Mk.n m) (Mk.n m) Ab,iD ↑(0:Nat),AP (Fn.func 41) [] [Ag (Mk.cb m) 0]] 181 0 Ac Ac Ap) (Mk.p m+2) (Bg 1 3) (Af (Mk.p m+1) 0 (Mk.n m) (Mk.n m) Ab) ql_j (by simp) ?_;refine zX 1 [] [] ((0:Int)<=(u:Int)/\(u:Int)<↑(Mk.n m)) [(94,Ag (Mk.p m+1) (0+Ax (u:Int)*1))] ?_;refine zAp 94 (Ag (Mk.p m+1) (0+Ax (u:Int)*1)) (Ag (Mk.p m+1) u) (by simp(disch:=omega) only[Bm,Ba,BI]) ?_;refine zAs (Ao (Ad (ltP m ix)<|As<|Mk.n m) 182 1 Ab Ac Bw) (Mk.p m+1) (Bg 1<|Aa<|Ah u<|Ad (ltP m ix)<|As<|Mk.n m) (AQ (Ah u<|Ad (ltP m ix)<|As<|Mk.n m) Uk) ql_t (by(simp;omega)) ?_;rw[hd_lt m ix u hum];refine zBm (Mk.p m+4+Mk.n m+5*(a+1)) ((1=1/\1<=1/\True)/\0<1/\1=1/\1<=16777216/\1<=9223372036854775807) (Ao [Ag (Mk.p m+4+Mk.n m+5*a+4) 0] 188 1 Ab Ac Bw) (Af 0 0 1 1 Ab) (hqn ix _) ?_ (hp:=⟨⟨(by kernel_rfl),⟨(by omega),trivial⟩⟩,(by omega)⟩);refine zAn ?_ (by kernel_rfl);have hqt:(qlay m ix (As (a+1)) (a+1)++[tmB m a]).length=m.p+4+m.n+5*(a+1)+1:=by rw[AR,hqn];rfl
   refine zFt rfl rfl (zFp<|λx hx=>by rw[hqt];simp at hx;subst hx;show _<=100000;omega) ?_;refine zSn (Ao (Ad (λ(i:Nat)=>Ag (Mk.p m+4+Mk.n m+5*i+4) 0)<|ix u) 188 1 Ab Ac Bw) (Ao [Ag (Mk.p m+4+Mk.n m+5*a+4) 0] 188 1 Ab Ac Bw) 95 (Mk.p m+4+u) (Mk.p m+4+Mk.n m+5*(a+1)) (Ab=Ab/\Aa (Ad (λ(i:Nat)=>Ag (Mk.p m+4+Mk.n m+5*i+4) 0)<|ix u)=Aa (ix u)*1/\Aa (ix u)=Aa (ix u)*1/\188=188/\1=1/\1=1/\0<1/\0<8/\188=188/\(Aa (ix u)+1)*8<=140737488355328/\1=1/\AV Bw=Ac/\(zCq Ar (Tr2 (Mk.p m) ch) 182=Ac\/AW Bw=Ab)) (Mk.p m+2≠Mk.p m+4+u/\Mk.p m+3≠Mk.p m+4+u/\Mk.p m+4+Mk.n m+5*a+4≠Mk.p m+4+u/\Mk.p m+2≠Mk.p m+4+u/\Mk.p m+2≠Mk.p m+4+u/\Mk.p m+2≠Mk.p m+4+u/\Mk.p m+1≠Mk.p m+4+u/\Mk.p m+2≠Mk.p m+4+u/\Mk.p m+2≠Mk.p m+4+u/\Mk.p m+2≠Mk.p m+4+u/\Mk.p m+1≠Mk.p m+4+u/\Mk.p m+1≠Mk.p m+4+u/\Mk.p m+4+Mk.n m+5*a+4≠Mk.p m+4+u/\Mk.p m+4+Mk.n m+5*(a+1)≠Mk.p m+4+u/\True) (Ao (Ad (zAq (Mk.p m+4+u)) (Ad (λ(i:Nat)=>Ag (Mk.p m+4+Mk.n m+5*i+4) 0) (ix u)++[Ag (Mk.p m+4+Mk.n m+5*a+4) 0])) 188 1 Ab Ac Bw) (Af (Mk.p m+4+u) 0 (Aa (ix u)+1) ((Aa (ix u)+1)*1) Ab) (by kernel_rfl) (zBi<|ql_v hum) (zA5<|hqn ix _) ?_ (by kernel_rfl) ⟨(by omega),⟨(by omega),⟨(by omega),⟨(by omega),⟨(by omega),⟨(by omega),⟨(by omega),⟨(by omega),⟨(by omega),⟨(by omega),⟨(by omega),⟨(by omega),⟨(by omega),⟨(by omega),trivial⟩⟩⟩⟩⟩⟩⟩⟩⟩⟩⟩⟩⟩⟩ ?_ ?_
   ·exact⟨rfl,by simp,by omega,rfl,rfl,rfl,by decide,by decide,rfl,by omega,rfl,rfl, .inr rfl⟩
   ·grind [zJk]
   rw[kill1 (k:=m.p+4+u) (by rw[hqn];omega) (tm_kill (by omega)),ptr_snoc (k:=m.p+4+u) (by omega)];refine zAn ?_ (by kernel_rfl);refine zFg (by rw[AR,AR,Ci,AM];exact A7 _) (zE5 3 100000 (joB m) (m.p+2) (0<3) (.osl (m.p+1) 0 m.n m.n Ab) (by kernel_rfl) (by
    rw[zFe (by rw[AR,Ci,AM,hqn];show _+1<=100000;omega)];exact zBi (ql_mj hm hum _)) (by decide) (by kernel_rfl)) ?_
   refine zX 1 [] [] ((0:Int)<=(u:Int)/\(u:Int)<↑(Mk.n m)) [(99,Ag (Mk.p m+1) (0+Ax (u:Int)*1))] ?_;refine zAp 99 (Ag (Mk.p m+1) (0+Ax (u:Int)*1)) (Ag (Mk.p m+1) u) (by simp(disch:=omega) only[Bm,Ba,BI]) ?_;refine zCh (Ao (Ad (zAq (Mk.p m+4+u))<|Ad (ltP m ix)<|As<|Mk.n m) 182 1 Ab Ac Bw) (Mk.p m+1) (Ac=Ac/\Ab=Ab/\1=1/\u+1<=Aa (Ad (zAq (Mk.p m+4+u))<|Ad (ltP m ix)<|As<|Mk.n m)) (Ao (setAt (Ad (zAq (Mk.p m+4+u))<|Ad (ltP m ix)<|As<|Mk.n m) u<|cellsOf<|Af (Mk.p m+4+u) 0 (Aa (ix u)+1) ((Aa (ix u)+1)*1) Ab) 182 1 Ab Ac Bw) (zBi<|ql_mk hm hum _) ⟨(by kernel_rfl),⟨(by kernel_rfl),⟨(by kernel_rfl),(by(simp;omega))⟩⟩⟩ ?_;refine zJq (qlay m (ixp m a<|x.1.take (t+1)) (As (a+1)) (a+1)++[tmB m a]) ?_ ?_
   ·rw[zB7 (by rw[Ci,AM,hqn];omega),<-hsu,Ba];exact congrArg (λs=>s++[tmB m a]) (ql_app hm hum a)
   refine zAn ?_ (by kernel_rfl);refine zFh<|zD<|zC<|zHo (20::Cj 84 16) (AF 8 Uk++[.own (m.p+2) 0,Uk,Uk,.osl (m.p+3) 0 (a+1) (a+1) Ab]++AF 6 Uk++[.own (m.p+4+m.n+5*a+4) 0]++AF 22 Uk++[atsD m.A,iD (m.A.length:Nat),iD (a:Nat)]++AF 34 Uk++[.row (x.1.map λv=>iD (v:Nat)) x.1.length,iD (x.1.length:Nat),iD (t:Nat)]++AF 43 Uk) (m.p+2<m.p+4+m.n+5*(a+1)/\m.p+3<m.p+4+m.n+5*(a+1)/\m.p+4+m.n+5*a+4<m.p+4+m.n+5*(a+1)/\True) (hqn _ _) (ql_nam hm hrl<|ixp_lt m a _) (λk hk=>zJk _ _ _ (by omega)) (by kernel_rfl) (by kernel_rfl) ⟨by omega,by omega,by omega,trivial⟩ ?_;refine zB rfl<|zX 2 [] [] (i6 (↑t+1)) [(80,iD ↑(t+1)),(100,iD ↑(t+1))] ?_;refine zAn ?_ (by kernel_rfl);refine zC<|⟨t+1,by omega,by omega,?_⟩;refine vkp [8,11,18,41,42,43,78,79,80]
  obtain rfl:t=x.1.length:=by omega
  rw[CH,hix];refine vA<|zAh [] [(81,bD<|decide ((Aa (An x):Int)<(Aa (An x):Int)))] ?_;refine zA<|vF ((Aa (An x):Int)<(Aa (An x):Int))<|vY2<|zD<|vN<|zB rfl<|zX 2 [] [] (i6 (↑a+1)) [(43,iD ↑(a+1)),(101,iD ↑(a+1))] ?_;refine zAn ?_ (by kernel_rfl);refine zC<|⟨a+1,by omega,by omega,?_⟩;refine vkp [8,11,41,42,43]
 obtain rfl:a=m.A.length:=by omega
 have hL:=qL_ok hm ha hy;have hat:=itS_at ha hR;have hbd:=itS_bd ha;have hsz:=itS_sz ha hM;have hc0:1*cE m.A.length M m.n<=(m.A.length+1)*cE m.A.length M m.n:=BW _ (by omega);have hc1:0+cE m.A.length M m.n+1<=big:=by omega
 have hc2:∀a,a<m.A.length->((S0 m).its.getD a Ak).s+cE m.A.length M m.n<=big:=λa h=>by
  grind
 have hsp:=zLa hV m.n 0 (S0 m) (by omega) hat (by simp);have hco:=zTz hV M m.n 0 (S0 m) (by omega) hat (by simp) hsz hc1 hc2;have hex:=extend_a (qL m ch yb) hL hV M K hY (by show m.n<=_;omega) (by show m.A.length<=_;omega) m.n 0 (S0 m) rfl hat List.length_replicate hbd hsz hc1 hc2 hK;change Acts _ _ [.own (m.p+2) 0,iD (0:Nat)] _ ch (bD Ab) (lay (qL m ch yb) (S2 m 0))at hex;rw[<-qL_lay hy];focus
  refine vA<|zAh [] [(44,bD<|decide ((Aa (Mk.A m):Int)<(Aa (Mk.A m):Int)))] ?_;refine zA<|vF ((Aa (Mk.A m):Int)<(Aa (Mk.A m):Int))<|vZ2<|vA<|zBa 1 [(102,Ag (Mk.p m+2) 0)] ?_;refine zSo [] [] [Ag (Mk.p m+2) 0,iD 0] [Ag (Mk.p m+2) 0,iD 0] (¬Mk.p m+2∈ch/\¬Mk.p m+3∈ch/\¬Mk.p m+2∈ch/\True) (by kernel_rfl) trivial (Bb _) (by exact hex) (by kernel_rfl) ?_ ?_ ?_;rotate_left;rotate_left;refine zAh [41,42,43,44,102,103] [] ?_;refine zA<|vA<|zAh [11] [(104,Af (Mk.p m+3) 0 (Aa<|Mk.A m) (Aa<|Mk.A m) Ab),(105,iD (Aa (Mk.A m):Int)),(106,iD 0)] ?_;refine zF ?_;rotate_left
 ·exact λk hk=>by
   show(decide (k<m.p)&&!ch.contains k)=Ac;grind
 ·exact⟨λh=>by have:=hy.c _ h;omega,λh=>by have:=hy.c _ h;omega,λh=>by have:=hy.c _ h;omega,trivial⟩
 refine zN (λ(i:Nat)=>fr 124 [(8,Ag (Mk.p m+2) 0),(104,Af (Mk.p m+3) 0 (Aa<|Mk.A m) (Aa<|Mk.A m) Ab),(105,iD (Aa (Mk.A m):Int)),(106,iD i),(120,Uk),(121,Uk),(122,Uk),(123,Uk)]) (λ(i:Nat)=>lay (qL m ch yb) (S2 m i)) (λ(i:Nat)=>m.A.length-i) (λ(i:Nat)=>i<=m.A.length) 0 ?_ ?_ ?_
 ·omega
 ·refine vkp [8,104,105,106]
 intro i hi;rcases AG i m.A.length with hi2|hi2
 ·have hpt:=lay_pt hy (S2 m i);have hhd:=hd_pt m hi2;have hli:(lay (qL m ch yb) (S2 m i))[m.p+4+m.n+5*i+4]?=Am (itK ((S1 m).its.getD i Ak)):=zTm (L:=qL m ch yb) (S:=S2 m i) hL (i:=i) hi2;have hlj:(lay (qL m ch yb) (S2 m i))[m.p+2]?=Am (jB (qL m ch yb) (S2 m i).s):=zQy (L:=qL m ch yb) (S:=S2 m i) hL;have hre:=hsp.res i hi2;have hst:=steps_g hli ((hbd i hi2).of hre.t hre.fl);have hb2:sumS (S1 m).its (i+1)<=(i+1)*cE m.A.length M m.n:=zYl λj hj=>by
   grind
  have hb3:(i+1)*cE m.A.length M m.n<=m.A.length*cE m.A.length M m.n:=BW _ (by omega);have hb1:(S1 m).s+sumS (S1 m).its i+((S1 m).its.getD i Ak).s<=100000000000000000:=by
   have h1:sumS (S1 m).its i+((S1 m).its.getD i Ak).s<=m.A.length*cE m.A.length M m.n:=AT hb2 hb3;grind
  refine vA<|zAh [] [(107,bD<|decide ((i:Int)<(Aa (Mk.A m):Int)))] ?_;refine zA<|vT ((i:Int)<(Aa (Mk.A m):Int))<|vKB<|vA<|zX 1 [] [] ((0:Int)<=(i:Int)/\(i:Int)<(Aa (Mk.A m):Int)) [(108,Ag (Mk.p m+3) (0+Ax (i:Int)*1))] ?_;refine zAp 108 (Ag (Mk.p m+3) (0+Ax (i:Int)*1)) (Ag (Mk.p m+3) i) (by simp(disch:=omega) only[Bm,Ba,BI]) ?_;refine zAs (Ao (Ad (λ(i:Nat)=>Ag (Mk.p m+4+Mk.n m+5*i+4) 0)<|As<|Aa<|Mk.A m) 188 1 Ab Ac Bw) (Mk.p m+3) (Bg 1<|Aa<|Ah i<|Ad (λ(i:Nat)=>Ag (Mk.p m+4+Mk.n m+5*i+4) 0)<|As<|Aa<|Mk.A m) (AQ (Ah i<|Ad (λ(i:Nat)=>Ag (Mk.p m+4+Mk.n m+5*i+4) 0)<|As<|Aa<|Mk.A m) Uk) hpt (by(simp;omega)) ?_;refine zBa 1 [(22,AQ (Ah i<|Ad (λ(i:Nat)=>Ag (Mk.p m+4+Mk.n m+5*i+4) 0)<|As<|Aa<|Mk.A m) Uk)] ?_;refine zAp 22 (AQ (Ah i<|Ad (λ(i:Nat)=>Ag (Mk.p m+4+Mk.n m+5*i+4) 0)<|As<|Aa<|Mk.A m) Uk) (Ag (Mk.p m+4+Mk.n m+5*i+4) 0) (by simp(disch:=omega) only[hhd]) ?_;refine zAh [107,108,109] [] ?_;refine zDc [0,1,2,4,3] [(5,[(3,100000)],[6,7,8,9])] rfl ?_;refine zBa 4 [(110,Ag (Mk.p m+2) 0),(111,Ag (Mk.p m+2) 0),(112,Ag (Mk.p m+2) 2),(114,Ag (Mk.p m+4+Mk.n m+5*i+4) 0)] ?_;refine zAs (Ao [Af (Lay.rb<|qL m ch yb) 0 (A9<|qL m ch yb) (A9 (qL m ch yb)*3) Ab,Af (Lay.tb<|qL m ch yb) 0 (A9<|qL m ch yb) (A9<|qL m ch yb) Ab,iD (↑(Js.s<|S2 m i):Int),AP (Fn.func 41) [] [Ag (Lay.cb<|qL m ch yb) 0]] 181 0 Ac Ac Ap) (Mk.p m+2) (Bg 1 2) (iD (↑(Js.s<|S2 m i):Int)) hlj (by simp) ?_;have hll:(lay (qL m ch yb) (S2 m i)).length<=100000:=by rw[zBd];exact hL.sm
  have hlk:(lay (qL m ch yb) (S2 m i)).take 100000=lay (qL m ch yb) (S2 m i):=zFe hll;refine zAn ?_ (by kernel_rfl);refine zFt rfl rfl (zFp<|λx hx=>by simp at hx;subst hx;exact hll) ?_;refine zAi [] [] [Ag (Mk.p m+4+Mk.n m+5*i+4) 0] [Ag (Mk.p m+4+Mk.n m+5*i+4) 0] (Bb _) (by exact hst) ?_;refine zAn ?_ (by kernel_rfl);refine zFg (A7 _) (zE5 3 100000 (jB (qL m ch yb) (S2 m i).s) (m.p+2) (0<2) (iD ((S2 m i).s:Nat)) (by kernel_rfl) (by rw[hlk];exact hlj) (by decide) (by kernel_rfl)) ?_;refine zX 1 [116] [] (True) [(116,iD<|A0 Bo ((↑(Js.s<|S2 m i):Int)+(↑(It.s<|Aq (BR<|S1 m) i Ak):Int)))] ?_ (hc:=trivial);refine zAp 116 (iD<|A0 Bo ((↑(Js.s<|S2 m i):Int)+(↑(It.s<|Aq (BR<|S1 m) i Ak):Int))) (iD ((↑(Js.s (S1 m)+sumS (BR<|S1 m) i):Int)+(↑(It.s<|Aq (BR<|S1 m) i Ak):Int))) (by simp(disch:=omega) only[wrap_i64]) ?_;refine zBa 2 [(117,Ag (Mk.p m+2) 0),(118,Ag (Mk.p m+2) 2)] ?_;refine zCh (Ao [Af (Lay.rb<|qL m ch yb) 0 (A9<|qL m ch yb) (A9 (qL m ch yb)*3) Ab,Af (Lay.tb<|qL m ch yb) 0 (A9<|qL m ch yb) (A9<|qL m ch yb) Ab,iD (↑(Js.s<|S2 m i):Int),AP (Fn.func 41) [] [Ag (Lay.cb<|qL m ch yb) 0]] 181 0 Ac Ac Ap) (Mk.p m+2) (Ac=Ac/\Ab=Ab/\1=1/\3<=4) (Ao [Af (Lay.rb<|qL m ch yb) 0 (A9<|qL m ch yb) (A9 (qL m ch yb)*3) Ab,Af (Lay.tb<|qL m ch yb) 0 (A9<|qL m ch yb) (A9<|qL m ch yb) Ab,iD ((↑(Js.s (S1 m)+sumS (BR<|S1 m) i):Int)+(↑(It.s<|Aq (BR<|S1 m) i Ak):Int)),AP (Fn.func 41) [] [Ag (Lay.cb<|qL m ch yb) 0]] 181 0 Ac Ac Ap) hlj ⟨(by kernel_rfl),⟨(by kernel_rfl),(by omega)⟩⟩ ?_;refine zJq (lay (qL m ch yb)<|S2 m (i+1)) ?_ ?_
  ·rw[show S2 m (i+1)={S2 m i with s:=(S2 m i).s+((S1 m).its.getD i Ak).s} by simp only[S2,sumS,Nat.add_assoc]];exact zPv (L:=qL m ch yb) (S:=S2 m i) hL ((S2 m i).s+((S1 m).its.getD i Ak).s)
  refine zAn ?_ (by kernel_rfl);refine zFh<|zD<|zC<|zPl (22::Cj 110 9) ([Uk,Uk,Uk,Uk,Uk,Uk,Uk,Uk,.own (m.p+2) 0]++AF 95 Uk++[.osl (m.p+3) 0 m.A.length m.A.length Ab,iD (m.A.length:Nat),iD (i:Nat)]++AF 17 Uk) (by kernel_rfl) ?_;refine zB rfl<|zX 2 [] [] (i6 (↑i+1)) [(106,iD ↑(i+1)),(119,iD ↑(i+1))] ?_;refine zAn ?_ (by kernel_rfl);refine zC<|⟨i+1,by omega,by omega,?_⟩;refine vkp [8,104,105,106]
 obtain rfl:i=m.A.length:=by omega
 have hlj:(lay (qL m ch yb) (S2 m m.A.length))[m.p+2]?=Am (jB (qL m ch yb) (S2 m m.A.length).s):=zQy (L:=qL m ch yb) (S:=S2 m m.A.length) hL;refine vA<|zAh [] [(107,bD<|decide ((Aa (Mk.A m):Int)<(Aa (Mk.A m):Int)))] ?_;refine zA<|vF ((Aa (Mk.A m):Int)<(Aa (Mk.A m):Int))<|vZ2<|vA<|zBa 3 [(120,Ag (Mk.p m+2) 0),(121,Ag (Mk.p m+2) 0),(122,Ag (Mk.p m+2) 2)] ?_;refine zAs (Ao [Af (Lay.rb<|qL m ch yb) 0 (A9<|qL m ch yb) (A9 (qL m ch yb)*3) Ab,Af (Lay.tb<|qL m ch yb) 0 (A9<|qL m ch yb) (A9<|qL m ch yb) Ab,iD (↑(Js.s<|S2 m<|Aa<|Mk.A m):Int),AP (Fn.func 41) [] [Ag (Lay.cb<|qL m ch yb) 0]] 181 0 Ac Ac Ap) (Mk.p m+2) (Bg 1 2) (iD (↑(Js.s<|S2 m<|Aa<|Mk.A m):Int)) hlj (by simp) ?_;refine zAh [8,104,105,106,107,120,121,122,123] [(6,iD (↑(Js.s (S1 m)+sumS (BR<|S1 m) (Aa<|Mk.A m)):Int)),(7,iD 0)] ?_;refine zG<|zT (True) [Aj<|Al Bo (↑(Js.s (S1 m)+sumS (BR<|S1 m) (Aa<|Mk.A m)):Int),q2_] (.inr rfl) ?_;exact⟨by kernel_rfl,rfl⟩
theorem run0_k(m:Mk)(hm:MOk m)(ha:AOk m)(e:Nat)(he:e<m.A.length)(he0:(m.A.getD e Ak).2=[])(he1:∀j,j<e->(m.A.getD j Ak).2≠[])(ch:List Nat)(st0:List Bk)(hp:st0.length=m.p)(hb:∀k,k<m.p->st0[k]?=Am (m.base k)):∃bs,Acts Ar 40 [iD (m.n:Nat),atsD m.A,yCl m.cb] st0 ch (.tup [iD 0,iD 0]) (st0++bs):=by
 have hn:=ha.n;have hA:=ha.na;refine⟨[roB (AF m.n ⟨0,0,[]⟩),(⟨repL m.n [nlD],182,1,Ab,Ac, .sh⟩:Bk),joB m,acB (m.A.getD e Ak)],?_⟩;have hl1:∀b,(st0++[b]).length=m.p+1:=λb=>by rw[AR,hp];rfl
 have hl2:∀b c,(st0++[b]++[c]).length=m.p+2:=λb c=>by rw[AR,hl1];rfl
 refine zA1 (Tr2_ok m.p ch) mixed Tryz.func40 rfl (λk hk=>by
  by_cases h:k∈ch
  ·exact .inr h
  refine .inl ?_;show(decide (k<m.p)&&!ch.contains k)=Ab;rw[decide_eq_true (by omega)];simpa using h) ?_
 refine vA<|zAh [] [(6,iD 0),(7,iD 0)] ?_;refine zA<|vd [0,2,4,1,3,5,6,7]<|zBa 3 [(23,iD ↑(Mk.n m)),(25,iD ↑(Mk.n m)),(27,AP (Fn.func 41) [] [Ag (Mk.cb m) 0])] ?_;refine zBm (Mk.p m) ((0:Int)<=(↑(Mk.n m):Int)/\(↑(Mk.n m):Int)<=(↑(Mk.n m):Int)/\(↑(32:Nat):Int)*(↑(Mk.n m):Int)<=(281474976710656:Int)/\(↑(Mk.n m):Int)<=(281474976710656:Int)/\0<3/\3=3) (Ao (repL (Ax (↑(Mk.n m):Int)) [iD 0,iD 0,q4_]) 107 3 Ab Ac<|kdOf<|zCq Ar (Tr2 (Mk.p m) ch) 110) (Af 0 0 (Ax (↑(Mk.n m):Int)) (Ax (↑(Mk.n m):Int)*3) Ab) hp ?_ (hp:=by omega);refine zBm (Mk.p m+1) ((0:Int)<=(↑(Mk.n m):Int)/\(↑(Mk.n m):Int)<=(↑(Mk.n m):Int)/\(↑(24:Nat):Int)*(↑(Mk.n m):Int)<=(281474976710656:Int)/\(↑(Mk.n m):Int)<=(281474976710656:Int)/\0<1/\1=1) (Ao (repL (Ax (↑(Mk.n m):Int)) [nl]) 182 1 Ab Ac<|kdOf<|zCq Ar (Tr2 (Mk.p m) ch) 179) (Af 0 0 (Ax (↑(Mk.n m):Int)) (Ax (↑(Mk.n m):Int)*1) Ab) (hl1 _) ?_ (hp:=by omega);refine zX 1 [] [] ((1=1/\1<=4/\1=1/\2<=4/\1=1/\4<=4/\True)/\Ab=Ab) [(28,Az [Af (Mk.p m) 0 (Ax (↑(Mk.n m):Int)) (Ax (↑(Mk.n m):Int)*3) Ab,Af (Mk.p m+1) 0 (Ax (↑(Mk.n m):Int)) (Ax (↑(Mk.n m):Int)*1) Ab,iD 0,AP (Fn.func 41) [] [Ag (Mk.cb m) 0]])] ?_ (hc:=by decide);refine zAp 28 (Az [Af (Mk.p m) 0 (Ax (↑(Mk.n m):Int)) (Ax (↑(Mk.n m):Int)*3) Ab,Af (Mk.p m+1) 0 (Ax (↑(Mk.n m):Int)) (Ax (↑(Mk.n m):Int)*1) Ab,iD 0,AP (Fn.func 41) [] [Ag (Mk.cb m) 0]]) (Az [Af (Mk.p m) 0 (Mk.n m) (Mk.n m*3) Ab,Af (Mk.p m+1) 0 (Mk.n m) (Mk.n m) Ab,iD 0,AP (Fn.func 41) [] [Ag (Mk.cb m) 0]]) (by simp(disch:=omega) only[Bm,Ba]) ?_;refine zBm (Mk.p m+2) (True) (Ao [Af (Mk.p m) 0 (Mk.n m) (Mk.n m*3) Ab,Af (Mk.p m+1) 0 (Mk.n m) (Mk.n m) Ab,iD 0,AP (Fn.func 41) [] [Ag (Mk.cb m) 0]] 181 0 Ac Ac Ap) (Ag 0 0) (hl2 _ _) ?_;refine zBa 1 [(8,Ag (Mk.p m+2) 0)] ?_;refine zAn ?_ (by kernel_rfl);refine zC ?_;obtain⟨X,hX⟩:∃X,X=st0++[roB (AF m.n ⟨0,0,[]⟩),(⟨repL m.n [nlD],182,1,Ab,Ac, .sh⟩:Bk),joB m]:=⟨_,rfl⟩;have hXl:X.length=m.p+3:=by rw[hX,AR,hp];rfl
 have hXn:∀b∈X,namB (m.p+3) b:=zVw hm hp hb hX;refine next_st X ?_ ?_
 ·rw[hX,Bd,Bd];unfold roB;rw[zWa];exact congrArg (st0++·) (by kernel_rfl)
 have hac:∀a:List Nat×List Rw,(atN a).length=3:=λ_=>rfl;refine zK<|zA<|vA<|zAh [0,2,23,24,25,26,27,28,29] [(30,(q7_ m)),(31,iD (Aa (Mk.A m):Int)),(32,iD 0)] ?_;refine zF<|zN (λ(a:Nat)=>fr 124 [(1,atsD<|Mk.A m),(8,Ag (Mk.p m+2) 0),(30,(q7_ m)),(31,iD (Aa (Mk.A m):Int)),(32,iD a)]) (λ(a:Nat)=>X) (λ(a:Nat)=>e-a) (λ(a:Nat)=>a<=e) 0 ?_ ?_ ?_
 ·omega
 ·refine vkp [1,8,30,31,32]
 intro a h1;have h2:a<m.A.length:=by omega
 have hg2:=zDo hac m.A a h2;have hle:=zHc hac m.A a h2;have hne:=zEk hac (by decide) m.A;rcases AG a e with h3|h3
 ·have hr1:=he1 a h3;obtain⟨hr2,hr3,hr4⟩:=ha.r _ (ha.get h2);generalize m.A.getD a Ak=x at*;have hlen:=rlen_c (x.1.length:Nat) (x.2.map rowV) x.2.length;have hpos:0<x.2.length:=List.length_pos_iff.2 hr1;refine vA<|zAh [] [(33,bD<|decide ((a:Int)<(Aa (Mk.A m):Int)))] ?_;refine zA<|vT ((a:Int)<(Aa (Mk.A m):Int))<|vKB<|vA<|zX 2 [] [] (ix ↑a (Aa (Mk.A m):Int) (AB atN (Mk.A m)≠[])/\3<=Aa (Ah (a*3)<|AB atN<|Mk.A m)) [(34,(q8_ a m)),(35,(q9_ a m))] ?_ (hc:=⟨⟨(by omega),⟨(by omega),(by assumption)⟩⟩,(by omega)⟩);refine zAp 35 (Az<|Au 3<|Ah (a*3)<|AB atN<|Mk.A m) (Az<|atN x) (by simp(disch:=omega) only[hg2]) ?_;refine zBm (Mk.p m+3) (True) (Ao [nl,iD 0,nl] 75 0 Ac Ac Ap) (Ag 0 0) hXl ?_;refine zCh (Ao [nl,iD 0,nl] 75 0 Ac Ac Ap) (Mk.p m+3) (Ac=Ac/\Ab=Ab/\3=3/\3<=3) (Ao [Ae (Ad (λ(v:Nat)=>iD v)<|An x)<|Aa<|An x,iD (Aa (An x):Int),Ae (Ad rowV<|AD x)<|Aa<|AD x] 75 0 Ac Ac Ap) (zA5 hXl) ⟨(by kernel_rfl),⟨(by kernel_rfl),(by omega)⟩⟩ ?_;rw[zFx hXl];refine zAh [33,34,35] [] ?_;refine vA<|zBa 1 [(36,Ag (Mk.p m+3) 1)] ?_;refine zAs (Ao [Ae (Ad (λ(v:Nat)=>iD v)<|An x)<|Aa<|An x,iD (Aa (An x):Int),Ae (Ad rowV<|AD x)<|Aa<|AD x] 75 0 Ac Ac Ap) (Mk.p m+3) (Bg 2 2) (Az [iD (Aa (An x):Int),Ae (Ad rowV<|AD x)<|Aa<|AD x]) (zA5 hXl) (by simp) ?_;refine zYn [Az [iD (Aa (An x):Int),Ae (Ad rowV<|AD x)<|Aa<|AD x]] (by exact hlen) ?_;refine zAh [10,36,37,38] [(39,bD ((Aa (AD x):Int)==(0:Int)))] ?_;refine vEf ((Aa (AD x):Int)) ((0:Int))<|zL<|zD<|vN<|zB rfl<|zX 2 [] [] (i6 (↑a+1)) [(32,iD (↑a+1)),(40,iD (↑a+1))] ?_;refine zAn ?_ (by kernel_rfl);refine zC<|⟨a+1,h3,by omega,?_⟩;rw[zQl];refine zKb (m.p+2<m.p+3/\True) hXl hXn (zJk _ _) ?_ (by kernel_rfl) ⟨by omega,trivial⟩;refine vkp [1,8,30,31,32]
 obtain rfl:a=e:=by omega
 obtain⟨x,hx⟩:∃x,x=m.A.getD a default:=⟨_,rfl⟩;rw[<-hx]at hg2 he0;have hlen:=rlen_c (x.1.length:Nat) (x.2.map rowV) x.2.length;have hz:x.2.length=0:=by rw[he0];rfl
 refine vA<|zAh [] [(33,bD<|decide ((a:Int)<(Aa (Mk.A m):Int)))] ?_;refine zA<|vT ((a:Int)<(Aa (Mk.A m):Int))<|vKB<|vA<|zX 2 [] [] (ix ↑a (Aa (Mk.A m):Int) (AB atN (Mk.A m)≠[])/\3<=Aa (Ah (a*3)<|AB atN<|Mk.A m)) [(34,(q8_ a m)),(35,(q9_ a m))] ?_ (hc:=⟨⟨(by omega),⟨(by omega),(by assumption)⟩⟩,(by omega)⟩);refine zAp 35 (Az<|Au 3<|Ah (a*3)<|AB atN<|Mk.A m) (Az<|atN x) (by simp(disch:=omega) only[hg2]) ?_;refine zBm (Mk.p m+3) (True) (Ao [nl,iD 0,nl] 75 0 Ac Ac Ap) (Ag 0 0) hXl ?_;refine zCh (Ao [nl,iD 0,nl] 75 0 Ac Ac Ap) (Mk.p m+3) (Ac=Ac/\Ab=Ab/\3=3/\3<=3) (Ao [Ae (Ad (λ(v:Nat)=>iD v)<|An x)<|Aa<|An x,iD (Aa (An x):Int),Ae (Ad rowV<|AD x)<|Aa<|AD x] 75 0 Ac Ac Ap) (zA5 hXl) ⟨(by kernel_rfl),⟨(by kernel_rfl),(by omega)⟩⟩ ?_;rw[zFx hXl];refine zAh [33,34,35] [] ?_;refine vA<|zBa 1 [(36,Ag (Mk.p m+3) 1)] ?_;refine zAs (Ao [Ae (Ad (λ(v:Nat)=>iD v)<|An x)<|Aa<|An x,iD (Aa (An x):Int),Ae (Ad rowV<|AD x)<|Aa<|AD x] 75 0 Ac Ac Ap) (Mk.p m+3) (Bg 2 2) (Az [iD (Aa (An x):Int),Ae (Ad rowV<|AD x)<|Aa<|AD x]) (zA5 hXl) (by simp) ?_;refine zYn [Az [iD (Aa (An x):Int),Ae (Ad rowV<|AD x)<|Aa<|AD x]] (by exact hlen) ?_;refine zAh [10,36,37,38] [(39,bD ((Aa (AD x):Int)==(0:Int)))] ?_;refine vEt ((Aa (AD x):Int)) ((0:Int))<|vA<|zAh [39] [(6,iD 0),(7,iD 0)] ?_;refine zG<|zH<|zE<|zE<|zH<|zE<|zT (True) [q2_,q2_] (.inr rfl) ?_;exact⟨by kernel_rfl,by rw[hX,<-hx,Bd];rfl⟩
theorem rs_it0(hL:∀r∈L,r.length=k)(hs:Rsc L)(hne:L≠[]):RS (it0 (zCn k L))=L:=by
 show rws (zCn k L) 0 (szT (zCn k L))=L;rcases CR k with h0|h0
 ·subst h0;have ht:zCn 0 L=[]:=CS.1 (zKf 0 L);rw[ht];show[[]]=L;have h1:∀r∈L,r=[]:=λr hr=>CS.1 (hL r hr);match L,hne,h1,hs with
  |[r],_,h1,_=>rw[h1 r (by simp)]
  |r::u::L,_,h1,hs=>
   have h2:=(Bp.1 hs).1 u (by simp);rw[h1 r (by simp),h1 u (by simp)]at h2;exact absurd h2 (by decide)
 grind [trie_rows,dst_of]
def jn(m:Mk):List Rw:=if m.A.all (λa=>!a.2.isEmpty)then(S1 m).ys else[]
theorem jn_spec(ha:AOk m):Rsc (jn m)/\∀y,y∈jn m↔(y.length=m.n/\∀a,a<m.A.length->prj m.vs a 0 y∈(m.A.getD a Ak).2):=by
 unfold jn;split
 ·rename_i h;have hne:∀a∈m.A,a.2≠[]:=λa h1=>by
   grind
  obtain⟨J,h1,h2,h3⟩:=(zLa ha.v m.n 0 (S0 m) (by omega) (itS_at ha hne) (by simp)).ys;rw[show(S1 m).ys=J from h1];refine⟨h2,λy=>?_⟩;rw[h3];have hrs:∀a,a<m.A.length->RS ((S0 m).its.getD a Ak)=(m.A.getD a Ak).2:=λa h=>by
   obtain⟨_,r3,r4⟩:=ha.r _ (ha.get h);rw[show(S0 m).its.getD a Ak=it0 (m.tr a)from zTr m h];grind [rs_it0]
  grind
 rename_i h;refine⟨BE.nil,λy=>⟨λh=>by simp at h,λ⟨_,k⟩=>?_⟩⟩;grind [Bq,Cn,AJ,prj]
theorem blk_low(S:Js)(hk:k<m.p):blk (qL m ch yb) S k=(yb S.ys k).getD (m.base k):=by
 unfold blk;rw[if_neg (show¬k=(qL m ch yb).jb from show¬k=m.p+2 by omega),if_neg (show¬k=(qL m ch yb).rb from show¬k=m.p by omega),zP6 (λi hi=>by show m.p+4+m.n+5*i+4≠k;omega)];show(yb S.ys k).getD (qblk m _ _ k)=_;unfold qblk;rw[if_pos hk]
theorem lay_low(S:Js):lay (qL m ch yb) S=((As m.p).map λk=>(yb S.ys k).getD (m.base k))++(Cj m.p (4+m.n+5*m.A.length)).map (blk (qL m ch yb) S):=by
 have e:As (m.p+4+m.n+5*m.A.length)=As m.p++Cj m.p (4+m.n+5*m.A.length):=by
  rw[List.range_eq_range',List.range_eq_range',show m.p+4+m.n+5*m.A.length=m.p+(4+m.n+5*m.A.length) by omega,<-List.range'_append_1,BI]
 show(As (m.p+4+m.n+5*m.A.length)).map (blk (qL m ch yb) S)=_;grind [BP,blk_low]
theorem low_nam(hm:MOk m)(hy:YbOk m ch yb)(ys:List (List Va)):∀b∈(As m.p).map (λk=>(yb ys k).getD (m.base k)),namB m.p b:=λb hb=>by
 obtain⟨k,hk,rfl⟩:=A_.1 hb;show namB m.p ((yb ys k).getD (m.base k));cases e:yb ys k with
 |none=>exact hm.bs k (BB.1 hk)
 |some b=>exact(hy.b ys k b e).2
theorem S2_le(m:Mk)(ha:AOk m)(hR:∀a∈m.A,a.2≠[])(M:Nat)(hM:∀a∈m.A,a.2.length+m.n<=M)(hC:(m.A.length+1)*(cE m.A.length M m.n)+1<=big):(S2 m m.A.length).s<=big:=by
 have hc0:1*cE m.A.length M m.n<=(m.A.length+1)*cE m.A.length M m.n:=BW _ (by omega);have hc1:0+cE m.A.length M m.n+1<=big:=by omega
 have hc2:∀a,a<m.A.length->((S0 m).its.getD a Ak).s+cE m.A.length M m.n<=big:=λa h=>by
  grind
 have hco:=zTz ha.v M m.n 0 (S0 m) (by omega) (itS_at ha hR) (by simp) (itS_sz ha hM) hc1 hc2;have hb2:sumS (S1 m).its m.A.length<=m.A.length*cE m.A.length M m.n:=zYl λj hj=>by
  grind
 grind
theorem run_a(m:Mk)(hm:MOk m)(ha:AOk m)(ch:List Nat)(yb:List (List Va)->Nat->Option Bk)(hy:YbOk m ch yb)(M K:Nat)(hM:∀a∈m.A,a.2.length+m.n<=M)(hY:YOk (qL m ch yb) K)(hK:(jn m).length<=K)(hC:(m.A.length+1)*(cE m.A.length M m.n)+1<=big)(st0:List Bk)(hp:st0.length=m.p)(hb:∀k,k<m.p->st0[k]?=Am (m.base k)):∃z:Nat,z<=big/\Acts Ar 40 [iD (m.n:Nat),atsD m.A,yCl m.cb] st0 ch (.tup [iD (z:Nat),iD 0]) ((As m.p).map λk=>(yb (jn m) k).getD (m.base k)):=by
 by_cases h:∀a∈m.A,a.2≠[]
 ·have hj:jn m=(S1 m).ys:=by
   grind [jn,Bq]
  rw[hj]at hK⊢;have hr:=run_k m hm ha ch yb hy h M K hM hY hK hC st0 hp hb;rw[lay_low]at hr;exact⟨_,S2_le m ha h M hM hC,hr.tail (N:=m.p) (by simp) (by omega) (low_nam hm hy _) (λj hj=>by simp only[refs,zAt,A1])⟩
 have hj:jn m=[]:=by
  grind [jn,Bq]
 have hx:∃e,e<m.A.length/\(m.A.getD e Ak).2=[]/\∀j,j<e->(m.A.getD j Ak).2≠[]:=by
  have h0:∃e,e<m.A.length/\(m.A.getD e Ak).2=[]:=by
   refine Classical.byContradiction λhn=>h λa h1 h2=>hn ?_;obtain⟨i,hi,rfl⟩:=Cn h1;simp_all
  obtain⟨e,he⟩:=h0;induction e using Nat.strongRecOn with
  |ind e ih=>
   grind
 obtain⟨e,e1,e2,e3⟩:=hx;obtain⟨bs,hr⟩:=run0_k m hm ha e e1 e2 e3 ch st0 hp hb;have hst:st0=(As m.p).map λk=>(yb (jn m) k).getD (m.base k):=by
  apply Bl;intro i;rcases AG i m.p with hi|hi
  ·rw[hb i hi,BH,CP hi,B8,hj];cases e:yb [] i with
   |none=>rfl
   |some b=>rw[hy.z i b e];rfl
  grind
 have hr2:=hr.tail (N:=m.p) hp (by omega) (by rw[hst];exact low_nam hm hy _) (λj hj=>by simp only[refs,zAt,A1]);grind
end
section
open Go.RowKit
structure At where
 V:List Int
 ar:Int
 R:List Rw
 deriving Inhabited
abbrev atC(a:At):List D:=[.row (a.V.map λz=>iD z) a.V.length,iD a.ar, .row (a.R.map rowV) a.R.length]
theorem atC_len(a:At):(atC a).length=3:=rfl
def aStep(V:List Int)(i:Nat):Bool:=decide (i=0)||decide (V.getD (i-1) 0<V.getD i 0)
def ascB(V:List Int):Bool:=(As V.length).all (aStep V)
def inB(n:Int)(v:Int):Bool:=decide (0<=v/\v<n)
def atE(n:Int)(a:At):Int:=if ascB a.V=Ac then 16 else if a.V.all (inB n)=Ac then 3 else if(a.V.length:Int)≠a.ar then 6 else 0
def atL(n:Int):List At->Int
 |[]=>0
 |a::l=>if atE n a≠0 then atE n a else atL n l
def useP(n:Nat)(ats:List At)(W:List Int):List Bool:=(As n).map λv:Nat=>(ats.any λa=>decide ((v:Int)∈a.V))||decide ((v:Int)∈W)
theorem zSc(n:Nat)(ats:List At)(W:List Int):(useP n ats W).length=n:=by simp[useP]
theorem useP_0(n:Nat):useP n [] []=AF n false:=by
 apply BX (by simp[useP]);intro i h1 h2;simp[useP]
theorem useP_set(n:Nat)(ats:List At)(W:List Int)(v:Nat)(h:v<n):(useP n ats W).set v Ab=useP n ats (W++[(v:Int)]):=by
 apply BX (by simp[useP]);intro i h1 h2;rw[List.getElem_set];simp only[useP,List.getElem_map,List.getElem_range,CE,Ca];grind
theorem useP_snoc(n:Nat)(ats:List At)(a:At):useP n ats a.V=useP n (ats++[a]) []:=by
 grind [useP,BP]
theorem atL_at{n:Int}:∀{L:List At}{i:Nat},(∀j,j<i->atE n (L.getD j Ak)=0)->i<L.length->atE n (L.getD i Ak)≠0->atL n L=atE n (L.getD i Ak)
 |x::l,0,_,_,h=>by
  have h:atE n x≠0:=h;simp only[atL,if_pos h];rfl
 |x::l,i+1,h,hi,he=>by
  have h0:atE n x=0:=h 0 (by omega);simp only[atL];rw[if_neg (by rw[h0];exact λk=>k rfl)]
  have:=atL_at (n:=n) (L:=l) (i:=i) (λj hj=>by have:=h (j+1) (by omega);simpa using this) (by simpa using hi) (by simpa using he)
  rw[this];simp
theorem atL_0{n:Int}:∀{L:List At},(∀j,j<L.length->atE n (L.getD j Ak)=0)->atL n L=0
 |[],_=>rfl
 |x::l,h=>by
  have h0:atE n x=0:=h 0 (by simp);simp only[atL];rw[if_neg (by rw[h0];exact λk=>k rfl)];exact atL_0 λj hj=>by have:=h (j+1) (by simpa using hj);simpa using this
end
section
open Go.RowKit
attribute [local irreducible] seqW awp zY zZ zR Weak updS zAe retL Pure Acts rP setP setQ cP nP fr
set_option maxRecDepth 4096
abbrev boD(bs:List Bool):List D:=bs.map λb=>bD b
theorem headD_bo(bs:List Bool)(i:Nat)(h:i<bs.length):((boD bs).drop i).headD .unk=bD (bs.getD i Ab):=by simp_all
theorem indexF_c(bs:List Bool)(n:Nat)(hn:bs.length=n)(hb:n<=1000000):∃z:Int,(0<=z↔bs.contains Ac=Ab)/\Pure Ar 123 [.row (boD bs) n,bD Ac] [] (iD z):=by
 subst hn;by_cases hc:bs.contains Ac=Ab
 ·obtain⟨p,hp,hq,hm⟩:∃p,p<bs.length/\bs.getD p Ab=Ac/\∀j,j<p->bs.getD j Ab=true:=by
   have hf:∃p,p<bs.length/\bs.getD p Ab=false:=by
    rw[List.contains_iff_mem]at hc;obtain⟨p,h1,h2⟩:=CT.1 hc;exact⟨p,h1,by rw[AX,AJ h1];exact h2⟩
   let p:=bs.findIdx (· ==Ac);have hlt:p<bs.length:=List.findIdx_lt_length_of_exists (by
    obtain⟨p,h1,h2⟩:=hf;exact⟨Ac,List.contains_iff_mem.1 hc,rfl⟩)
   refine⟨p,hlt,?_,λj hj=>?_⟩;all_goals grind
  refine⟨p,⟨λ_=>hc,λ_=>by omega⟩,?_⟩;refine zJ zFz mixed Tryz.func123 rfl<|vAu<|zA<|vAe<|zF<|zN (λ(i:Nat)=>fr 19 [(0,Ae (boD bs)<|Aa bs),(1,bD Ac),(7,iD (Aa bs:Int)),(8,iD (i:Int))]) (λ(i:Nat)=>[]) (λ(i:Nat)=>p-i) (λ(i:Nat)=>i<=p) 0 ?_ ?_ ?_
  ·omega
  ·refine vk 0
  rintro i h1;have hx:=headD_bo bs i (by omega);have hne:boD bs≠[]:=zV;rcases AG i p with h2|h2
  ·rw[hm i h2]at hx;refine vAu<|zA<|vT ((i:Int)<↑(Aa bs))<|vKB<|vAe<|vA<|vr 4 (ix ↑i ↑(Aa bs) (boD bs≠[]))<|vp 14 i (boD bs)<|vr 1 (0<Aa (Ah i<|boD bs))<|vsh 15 hx<|veT<|vf<|zL<|zD<|vN<|zB rfl<|vr 2 (i6 (↑i+1))<|vnil<|zC<|⟨i+1,by omega,by omega,?_⟩;refine vk 0
  obtain rfl:i=p:=by omega
  rw[hq]at hx;refine vAu<|zA<|vT ((i:Int)<↑(Aa bs))<|vKB<|vAe<|vA<|vr 4 (ix ↑i ↑(Aa bs) (boD bs≠[]))<|vp 14 i (boD bs)<|vr 1 (0<Aa (Ah i<|boD bs))<|vsh 15 hx<|veT<|vt<|vAe<|zG<|zH<|zE<|zE<|zH<|zE<|vret (True)<|.inr rfl
 refine⟨-1,⟨λh=>by omega,λh=>absurd h hc⟩,?_⟩;have hall:∀j,j<bs.length->bs.getD j Ab=true:=λj hj=>by
  grind
 refine zJ zFz mixed Tryz.func123 rfl<|vAu<|zA<|vAe<|zF<|zN (λ(i:Nat)=>fr 19 [(0,Ae (boD bs)<|Aa bs),(1,bD Ac),(7,iD (Aa bs:Int)),(8,iD (i:Int))]) (λ(i:Nat)=>[]) (λ(i:Nat)=>bs.length-i) (λ(i:Nat)=>i<=bs.length) 0 ?_ ?_ ?_
 ·omega
 ·refine vk 0
 rintro i h1;rcases AG i bs.length with h2|h2
 ·have hx:=headD_bo bs i h2;have hne:boD bs≠[]:=zV;rw[hall i h2]at hx;refine vAu<|zA<|vT ((i:Int)<↑(Aa bs))<|vKB<|vAe<|vA<|vr 4 (ix ↑i ↑(Aa bs) (boD bs≠[]))<|vp 14 i (boD bs)<|vr 1 (0<Aa (Ah i<|boD bs))<|vsh 15 hx<|veT<|vf<|zL<|zD<|vN<|zB rfl<|vr 2 (i6 (↑i+1))<|vnil<|zC<|⟨i+1,by omega,by omega,?_⟩;refine vk 0
 refine vAu<|zA<|vF ((i:Int)<(Aa bs:Int))<|vZ2<|vAe<|zG<|vret (True)<|.inr rfl
theorem zZy(bs:List Bool)(n:Nat)(hn:bs.length=n)(hb:n<=1000000):Pure Ar 75 [.row (boD bs) n,bD Ac] [] (bD (bs.contains Ac)):=by
 obtain⟨z,h1,h2⟩:=indexF_c bs n hn hb;cases hc:bs.contains Ac with
 |true=>
  refine zJ zFz mixed Tryz.func75 rfl<|vAu<|vA<|vrT 2<|vc (h2)<|veT<|zG<|vre (True) (Aj<|BS<|decide (z>=(0:Int))) (.inr rfl) ?_;grind
 |false=>
  refine zJ zFz mixed Tryz.func75 rfl<|vAu<|vA<|vrT 2<|vc (h2)<|veT<|zG<|vre (True) (Aj<|BS<|decide (z>=(0:Int))) (.inr rfl) ?_;grind
theorem repL_bo(n:Nat):repL n [.val (.bool Ac)]=boD (useP n [] []):=by simp_all [zGr,useP_0]
theorem set_bo(bs:List Bool)(v:Nat):(boD bs).set v (bD Ab)=boD (bs.set v Ab):=by simp
abbrev boB(bs:List Bool):Bk:=⟨boD bs,4,1,Ab,Ac, .plain⟩
abbrev atB(a:At):Bk:=⟨atC a,75,0,Ac,Ac, .plain⟩
set_option maxHeartbeats 4000000 in
theorem lfCheck_c(n:Nat)(ats:List At)(hn:n<=32)(hm:ats.length<=32)(hl:∀a∈ats,a.V.length<=2000000):Pure Ar 39 [iD (n:Nat), .row (ats.flatMap atC) ats.length] [] (iD (if atL n ats≠0 then atL n ats else if(useP n ats []).contains Ac then 22 else 0)):=by
 refine zJ zFz mixed Tryz.func39 rfl<|vAu<|zA<|vA<|vew [] [(2,Ac)] (decide ((n:Int)<0)=Ac)<|vF ((n:Int)>(32:Int))<|vK<|zA<|vAe<|vF ((Aa ats:Int)>(32:Int))<|vK<|vA<|vr 3 ((0:Int)<=(n:Int)/\(n:Int)<=(n:Int)/\(↑(1:Nat):Int)*(n:Int)<=(281474976710656:Int)/\(n:Int)<=(281474976710656:Int)/\0<1/\1=1)<|vs 5 (Af 0 0 (Ax (n:Int)) (Ax (n:Int)*1) Ab) (Af 0 0 n n Ab)<|veT<|zA<|vAe<|zF<|zN (λ(i:Nat)=>fr 75 [(0,iD (n:Int)),(5,Af 0 0 n n Ab),(22,Ae (AB atC ats)<|Aa ats),(23,iD (Aa ats:Int)),(24,iD (i:Int))]) (λ(i:Nat)=>[boB<|useP n (ats.take i) []]) (λ(i:Nat)=>ats.length-i) (λ(i:Nat)=>i<=ats.length/\∀j,j<i->atE n (ats.getD j Ak)=0) 0 ?_ ?_ ?_
 ·grind
 ·refine wkn (fr 75 [(0,iD (↑n:Int)),(4,iD 0),(5,Af 0 0 n n Ab),(22,Ae (AB atC ats) (Aa ats)),(23,iD (↑(Aa ats):Int)),(24,iD 0)]) [Ao (repL n [bD Ac]) 4 1 Ab Ac (kdOf Ac)] (zH1 [(0,1),(5,1),(22,1),(23,1),(24,1)] (iD (↑n:Int)=iD (↑n:Int)/\Af 0 0 n n Ab=Af 0 0 n n Ab/\Ae (AB atC ats) (Aa ats)=Ae (AB atC ats) (Aa ats)/\iD (↑(Aa ats):Int)=iD (↑(Aa ats):Int)/\iD 0=iD (↑(0:Nat):Int)) 1 [] (by kernel_rfl) ⟨rfl,rfl,rfl,rfl,(by kernel_rfl)⟩ (by kernel_rfl) (λ_ _=>rfl) (by simp[updB,repL_bo,zEr]))
 rintro i ⟨h1,h2⟩;rcases AG i ats.length with h3|h3;case inr=>
  have hco:=zZy (useP n ats []) n (zSc ..) (by omega);rw[if_neg (by rw[atL_0 λj hj=>h2 j (by omega)];exact λk=>k rfl),AU h3];have htn:(boD (useP n ats [])).take n=boD (useP n ats []):=AU (by simp[zSc]);by_cases hc:(useP n ats []).contains Ac=Ab
  ·rw[hc]at hco;rw[if_pos hc];refine vAu<|zA<|vF ((i:Int)<↑(Aa ats))<|vZ2<|zA<|vA<|vrT 1<|vcl [Ae (Au n<|Ah 0<|AH<|boB<|useP n ats []) n,bD Ac] [Ae (boD<|useP n ats []) n,bD Ac] (LeL.of_eq (by simp(disch:=omega) only[A2,htn])) (by exact hco)<|veT<|vt<|vAe<|zG<|zE<|vret (True)<|.inr rfl
  rw[if_neg hc];rw[Bool.not_eq_true]at hc;rw[hc]at hco;refine vAu<|zA<|vF ((i:Int)<↑(Aa ats))<|vZ2<|zA<|vA<|vrT 1<|vcl [Ae (Au n<|Ah 0<|AH<|boB<|useP n ats []) n,bD Ac] [Ae (boD<|useP n ats []) n,bD Ac] (LeL.of_eq (by simp(disch:=omega) only[A2,htn])) (by exact hco)<|veT<|vf<|vK<|vAe<|zG<|vret (True)<|.inr rfl
 have hg2:=zDo atC_len ats i h3;have hle:=zHc atC_len ats i h3;have hne:=zEk atC_len (by decide) ats;have hat:=atL_at h2 h3;have hvl:=hl _ (zAo ats Ak i h3);have htk:=zBl ats i h3;generalize hA:ats.getD i Ak=a at*;obtain⟨V,ar,R⟩:=a;simp only at hvl;refine vAu<|zA<|vT ((i:Int)<↑(Aa ats))<|vKB<|vA<|vr 2 (ix ↑i ↑(Aa ats) (AB atC ats≠[])/\3<=Aa (Ah (i*3)<|AB atC ats))<|vs 27 (Az<|Au 3<|Ah (i*3)<|AB atC ats) (Az<|atC<|At.mk V ar R)<|ve (an_)<|zA<|vAe<|zF<|zN (λ(k:Nat)=>fr 75 [(0,iD n),(5,Af 0 0 n n Ab),(7,Ag 1 0),(8,iD (↑k+1)),(22,Ae (AB atC ats)<|Aa ats),(23,iD<|Aa ats),(24,iD i)]) (λ(k:Nat)=>[boB<|useP n (ats.take i) [],atB ⟨V,ar,R⟩]) (λ(k:Nat)=>V.length-k) (λ(k:Nat)=>(k=0\/k+1<=V.length)/\∀j,j<=k->j<V.length->aStep V j=Ab) 0 ?_ ?_ ?_
 ·exact⟨.inl rfl,λj h _=>by
   obtain rfl:j=0:=by omega
   rfl⟩
 ·refine vk 2
 rintro k ⟨k1,k2⟩;rcases AG (k+1) V.length with k3|k3
 ·have hneV:(V.map λz=>iD z)≠[]:=zV;have hx:=zB0 V (k+1) k3;have hx0:=zB0 V k (by omega);have hst:aStep V (k+1)=decide (V.getD k 0<V.getD (k+1) 0):=by simp[aStep]
  have hno:aStep V (k+1)=Ac->atE n ⟨V,ar,R⟩=16:=λh=>by
   grind [ascB,zV8,atE]
  have e1:((k+1:Nat):Int)-1=(k:Int):=by omega
  have e2:((k:Int)+1)=((k+1:Nat):Int):=by omega
  by_cases hs:V.getD k 0<V.getD (k+1) 0
  ·generalize V.getD (k+1) 0=v at*;generalize V.getD k 0=u at*;refine zA<|vAs<|ve (ar_)<|vT ((↑(k+1):Int)<↑(Aa V))<|vKB<|zA<|vd [0,2,3,6,8,1,4,5,7,9,10,11]<|vr 3 (True/\i6 (↑(k+1)-1))<|vs 38 (iD (↑(k+1)-1)) (iD k)<|vr 4 (True/\0<3/\ix ↑k ↑(Aa V) (Ad (λ(z:Int)=>iD z) V≠[]))<|vp 39 k (Ad (λ(z:Int)=>iD z) V)<|vr 1 (0<Aa (Ah k<|Ad (λ(z:Int)=>iD z) V))<|vsh 40 hx0<|vr 2 (0<3/\ix ↑(k+1) ↑(Aa V) (Ad (λ(z:Int)=>iD z) V≠[]))<|vp 44 (k+1) (Ad (λ(z:Int)=>iD z) V)<|vr 1 (0<Aa (Ah (k+1)<|Ad (λ(z:Int)=>iD z) V))<|vsh 45 hx<|veT<|vF (u>=v)<|zL<|zD<|vN<|zB rfl<|vr 3 (i6 (↑(k+1)+1))<|vnil<|zC<|⟨k+1,⟨.inr k3,λj hj hjl=>?_⟩,by omega,?_⟩
   ·grind
   refine vk 2
  have he:atE n ⟨V,ar,R⟩=16:=hno (by rw[hst];exact decide_eq_false hs);rw[he]at hat;rw[if_pos (by rw[hat (by decide)];decide),hat (by decide)];generalize V.getD (k+1) 0=v at*;generalize V.getD k 0=u at*;refine zA<|vAs<|ve (ar_)<|vT ((↑(k+1):Int)<↑(Aa V))<|vKB<|zA<|vd [0,2,3,6,8,1,4,5,7,9,10,11]<|vr 3 (True/\i6 (↑(k+1)-1))<|vs 38 (iD (↑(k+1)-1)) (iD k)<|vr 4 (True/\0<3/\ix ↑k ↑(Aa V) (Ad (λ(z:Int)=>iD z) V≠[]))<|vp 39 k (Ad (λ(z:Int)=>iD z) V)<|vr 1 (0<Aa (Ah k<|Ad (λ(z:Int)=>iD z) V))<|vsh 40 hx0<|vr 2 (0<3/\ix ↑(k+1) ↑(Aa V) (Ad (λ(z:Int)=>iD z) V≠[]))<|vp 44 (k+1) (Ad (λ(z:Int)=>iD z) V)<|vr 1 (0<Aa (Ah (k+1)<|Ad (λ(z:Int)=>iD z) V))<|vsh 45 hx<|veT<|vT (u>=v)<|vAe<|zG<|zH<|zE<|zE<|zH<|zE<|zH<|zE<|zE<|zH<|zE<|vret (True)<|.inr rfl
 have hasc:ascB V=true:=zGp λj hj=>k2 j (by omega) hj;refine zA<|vAs<|ve (ar_)<|vF ((k:Int)+(1:Int)<(Aa V:Int))<|vZ2<|zA<|vA<|ve (ar_)<|zF<|zN (λ(j:Nat)=>fr 75 [(0,iD n),(5,Af 0 0 n n Ab),(7,Ag 1 0),(22,Ae (AB atC ats)<|Aa ats),(23,iD<|Aa ats),(24,iD i),(48,Ae (Ad (λ(z:Int)=>iD z) V)<|Aa V),(49,iD<|Aa V),(50,iD j)]) (λ(j:Nat)=>[boB<|useP n (ats.take i)<|V.take j,atB ⟨V,ar,R⟩]) (λ(j:Nat)=>V.length-j) (λ(j:Nat)=>j<=V.length/\∀t,t<j->t<V.length->inB n (V.getD t 0)=Ab) 0 ?_ ?_ ?_
 ·grind
 ·refine vk 2
 clear k1 k2 k3 k;rintro j ⟨j1,j2⟩;rcases AG j V.length with j3|j3
 ·have hneV:(V.map λz=>iD z)≠[]:=zV;have hx:=zB0 V j j3;have htv:V.take (j+1)=V.take j++[V.getD j 0]:=zBl V j j3;have hno:inB n (V.getD j 0)=Ac->atE n ⟨V,ar,R⟩=3:=λh=>by
   unfold atE;grind
  by_cases hs:0<=V.getD j 0/\V.getD j 0<n
  ·obtain⟨v,hv⟩:∃v:Nat,V.getD j 0=v:=⟨(V.getD j 0).toNat,by omega⟩;rw[hv]at hx htv hs hno;have hin:inB n (V.getD j 0)=true:=by rw[hv];exact decide_eq_true hs
   have hup:=useP_set n (ats.take i) (V.take j) v (by omega);rw[<-htv]at hup;have hsb:=set_bo (useP n (ats.take i) (V.take j)) v;rw[hup]at hsb;have hul:=zSc n (ats.take i) (V.take j);refine vAu<|zA<|vT ((j:Int)<↑(Aa V))<|vKB<|vA<|vr 1 (ix ↑j ↑(Aa V) (Ad (λ(z:Int)=>iD z) V≠[]))<|vp 52 j (Ad (λ(z:Int)=>iD z) V)<|vr 1 (0<Aa (Ah j<|Ad (λ(z:Int)=>iD z) V))<|vsh 53 hx<|veT<|zA<|vA<|vew [] [(2,Ac)] (decide ((v:Int)<0)=Ac)<|vF ((v:Int)>=(n:Int))<|vK<|zB rfl<|vr 3 ((0:Int)<=(v:Int)/\(v:Int)<↑n)<|vo 63 0 v<|vr 1 (Bk.fz (boB<|useP n (Au i ats)<|Au j V)=Ac/\Ab=Ab/\1=1/\v+1<=Aa (AH<|boB<|useP n (Au i ats)<|Au j V)/\¬0∈[])<|vb 0 (Ao (setAt (AH<|boB<|useP n (Au i ats)<|Au j V) v [bD Ab]) (A3<|boB<|useP n (Au i ats)<|Au j V) (A4<|boB<|useP n (Au i ats)<|Au j V) Ab Ac<|AL<|boB<|useP n (Au i ats)<|Au j V) (Ao (boD<|useP n (Au i ats)<|Au (j+1) V) (4:TypeId) 1 Ab Ac Ap)<|vnil<|zD<|vN<|zB rfl<|vr 2 (i6 (↑j+1))<|vnil<|zC<|⟨j+1,⟨by omega,λt ht htl=>?_⟩,by omega,?_⟩
   ·grind
   refine vk 2
  have he:=hno (decide_eq_false hs);rw[he]at hat;rw[if_pos (by rw[hat (by decide)];decide),hat (by decide)];generalize V.getD j 0=v at*;by_cases hv0:v<0
  ·refine vAu<|zA<|vT ((j:Int)<(Aa V:Int))<|vKB<|vA<|vr 1 (ix (j:Int) (Aa V:Int) (Ad (λ(z:Int)=>iD z) V≠[]))<|vp 52 (j) (Ad (λ(z:Int)=>iD z) V)<|vr 1 (0<Aa (Ah j<|Ad (λ(z:Int)=>iD z) V))<|vsh 53 hx<|veT<|zA<|vA<|vew [] [(2,Ab)] (decide (v<0)=Ab)<|vt<|vAe<|zG<|zE<|zH<|zE<|zE<|zH<|zE<|zH<|zE<|zE<|zH<|zE<|vret (True)<|.inr rfl
  have hvn:(n:Int)<=v:=by omega
  refine vAu<|zA<|vT ((j:Int)<↑(Aa V))<|vKB<|vA<|vr 1 (ix ↑j ↑(Aa V) (Ad (λ(z:Int)=>iD z) V≠[]))<|vp 52 j (Ad (λ(z:Int)=>iD z) V)<|vr 1 (0<Aa (Ah j<|Ad (λ(z:Int)=>iD z) V))<|vsh 53 hx<|veT<|zA<|vA<|vew [] [(2,Ac)] (decide (v<0)=Ac)<|vT (v>=(n:Int))<|vAe<|zG<|zE<|zH<|zE<|zE<|zH<|zE<|zH<|zE<|zE<|zH<|zE<|vret (True)<|.inr rfl
 have hrng:=zEm (p:=inB n) (d:=0) j3 j2;have hus:useP n (ats.take i) V=useP n (ats.take i++[⟨V,ar,R⟩]) []:=useP_snoc n _ ⟨V,ar,R⟩;rw[AU j3,hus];have hty:=rarity_c ar (R.map rowV) R.length;have htk2:ats.take (i+1)=ats.take i++[⟨V,ar,R⟩]:=htk;rw[<-htk2];by_cases hs:(V.length:Int)=ar
 ·subst hs;have he:atE n ⟨V,V.length,R⟩=0:=by
   grind [atE]
  refine vAu<|zA<|vF ((j:Int)<↑(Aa V))<|vZ2<|zA<|vd [0,3,1,2,4,5,6]<|vr 5 (True/\True/\0<3/\2<=2)<|vc hty<|veT<|zGf (t:=(Aa V:Int)!=(Aa V:Int)) (by kernel_rfl) (by simp)<|zL<|zD<|vN<|zB rfl<|vr 2 (i6 (↑i+1))<|vnil<|zC<|⟨i+1,⟨by omega,λt ht=>?_⟩,by omega,?_⟩
  ·grind
  refine vk 1
 have he:atE n ⟨V,ar,R⟩=6:=by
  grind [atE]
 rw[he]at hat;rw[if_pos (by rw[hat (by decide)];decide),hat (by decide)];refine vAu<|zA<|vF ((j:Int)<↑(Aa V))<|vZ2<|zA<|vd [0,3,1,2,4,5,6]<|vr 5 (True/\True/\0<3/\2<=2)<|vc hty<|veT<|zFr (t:=(Aa V:Int)!=ar) (by kernel_rfl) (by simpa using by omega)<|vAe<|zG<|zH<|zE<|zE<|zH<|zE<|vret (True)<|.inr rfl
def Tcu(N:Nat)(i:FuncId->Bool):Par:=⟨i,λ_ _=>AE,λk=>decide (k<N),λ_=>Ac,λ_=>Ac⟩
theorem Tcu_ok(N:Nat)(i:FuncId->Bool):zBg Ar (Tcu N i):=by intro t n f h;cases h
abbrev cuB(k:Nat):Bk:=⟨[.val (.int .u64 (k:Nat))],52,0,Ac,Ac, .plain⟩
def mkC(n:Nat)(A:List (List Nat×List Rw)):Mk:=⟨1,n,0,A,λ_=>cuB 0⟩
def ybC(ys:List (List Va))(k:Nat):Option Bk:=if k=0 then Am (cuB ys.length)else AE
theorem cu_nam(k:Nat):namB 1 (cuB k):= .inr λj _=>rfl
theorem mkC_ok(n:Nat)(A:List (List Nat×List Rw)):MOk (mkC n A):=⟨λk _=>cu_nam 0,Nat.zero_lt_one⟩
theorem ybC_ok(n:Nat)(A:List (List Nat×List Rw)):YbOk (mkC n A) [] ybC where
 c k hk:=by cases hk
 cb h:=by cases h
 b ys k b h:=by
  unfold ybC at h
  split at h
  ·rename_i e
   subst e
   cases h
   exact⟨Nat.zero_lt_one,cu_nam _⟩
  cases h
 z k b h:=by
  unfold ybC at h
  split at h
  ·cases h;rfl
  cases h
section
variable{n:Nat}{A:List (List Nat×List Rw)}
abbrev LC(n:Nat)(A:List (List Nat×List Rw)):Lay:=qL (mkC n A) [] ybC
theorem lc_c(S:Js):(lay (LC n A) S)[0]?=Am (cuB S.ys.length):=by
 rw[zHs (by show 0<1+4+n+5*A.length;omega)];unfold blk;rw[if_neg (show¬0=(LC n A).jb from show¬0=1+2 by omega),if_neg (show¬0=(LC n A).rb from show¬0=1 by omega),zP6 (λi hi=>by show 1+4+n+5*i+4≠0;omega)];rfl
theorem lc_set(S:Js):(lay (LC n A) S).set 0 (cuB (S.ys.length+1))=lay (LC n A) {S with ys:=S.ys++[S.row]}:=by
 refine zTl (λj hj=>?_) ?_
 ·have e:(LC n A).yb S.ys j=(LC n A).yb (S.ys++[S.row]) j:=by
   show ybC _ _=ybC _ _;grind [ybC]
  unfold blk;dsimp only;rw[e]
 have h:=lc_c (n:=n) (A:=A) {S with ys:=S.ys++[S.row]};rw[zHs (by show 0<1+4+n+5*A.length;omega)]at h;grind
theorem count1_a(hL:LOk (LC n A)):YOk (LC n A) 18446744073709551615:=λS hsn hsr hsk=>by
 have hlc:=lc_c (n:=n) (A:=A) S;have hs:=lc_set (n:=n) (A:=A) S;generalize S.ys.length=c at*;have m1:=zDx (k:= .u64) (x:=(c:Int)+1) (by simp only[inK];omega);show Acts Ar 41 [.osl (LC n A).rb 0 n (n*3) Ab, .own 0 0] (lay (LC n A) S) [] (bD Ab) _;rw[<-hs];refine zA1 (Tcu_ok (LC n A).N λ_=>Ac) mixed Tryz.func41 rfl (λk hk=>.inl<|decide_eq_true (by rwa[zBd]at hk))<|vA<|zAh [0] [(3,bD Ac)] ?_;refine vA<|zAs (Ao [Aj<|Al A5 (c:Int)] 52 0 Ac Ac Ap) (0) (Bg 1 1) (Aj<|Al A5 (c:Int)) hlc (by simp) ?_;refine zX 1 [] [] (u6 (↑c+1)) [(5,Aj<|Al A5 ((c:Int)+(1:Int)))] ?_;refine zCh (Ao [Aj<|Al A5 (c:Int)] 52 0 Ac Ac Ap) (0) (Ac=Ac/\Ab=Ab/\1=1/\1<=1) (Ao [Aj<|Al A5 ((c:Int)+(1:Int))] 52 0 Ac Ac Ap) hlc ⟨(by kernel_rfl),⟨(by kernel_rfl),(by omega)⟩⟩ ?_;refine zAh [1,4,5] [] ?_;refine vA<|zAh [] [(3,bD Ab)] ?_;refine zG<|zT (True) [Aj<|BS Ab] (.inr rfl) ?_;exact⟨rfl,rfl⟩
theorem lcount_c(hao:AOk (mkC n A))(M:Nat)(hM:∀a∈A,a.2.length+n<=M)(hj:(jn (mkC n A)).length<18446744073709551615)(hC:(A.length+1)*(cE A.length M n)+1<=big)(hchk:Pure Ar 39 [iD (n:Nat),atsD A] [] (iD 0)):∃z:Nat,Pure Ar 19 [iD (n:Nat),atsD A] [] (.tup [natD (jn (mkC n A)).length,iD (z:Nat),iD 0]):=by
 have hm:=mkC_ok n A;have hy:=ybC_ok n A;obtain⟨z,hz,hrun⟩:=run_a (mkC n A) hm hao [] ybC hy M _ hM (count1_a (qL_ok hm hao hy)) (Nat.le_of_lt hj) hC [cuB 0] rfl (λk hk=>by
  have hk:k<1:=hk;obtain rfl:k=0:=by omega
  rfl)
 refine⟨z,?_⟩;have hrun:Acts Ar 40 [iD (n:Nat),atsD A, .clo (.func 41) [] [.own 0 0]] [cuB 0] [] (.tup [iD (z:Nat),iD 0]) [cuB (jn (mkC n A)).length]:=hrun;generalize (jn (mkC n A)).length=c at*;have hof:=of_c c (by omega);refine zJ (Tcu_ok 0 λf=>f==40) mixed Tryz.func19 rfl<|vAu<|zA<|vA<|vrT 2<|vc (hchk)<|veT<|vAe<|vf<|vK<|vA<|ve (Ac=Ac/\Ab=Ab/\1=1/\1<=1)<|vA<|vrT 3<|vnt [Ao [Aj<|Al A5 (0:Int)] 52 0 Ac Ac Ap]<|zAi [] [] [iD (n:Int),Ae (AB atN A)<|Aa A,AP (Fn.func 41) [] [Ag 0 0]] [iD (n:Int),Ae (AB atN A)<|Aa A,AP (Fn.func 41) [] [Ag 0 0]] (Bb _) (by exact hrun) ?_;refine v0s<|ve (0<2/\1<2)<|zA<|vAe<|vf<|vK<|vA<|vr 1 (0<1)<|vc hof<|veT<|zG<|vret (True)<|.inr rfl
end
abbrev byB(l:List UInt8):Bk:=⟨zAr l,5,1,Ab,Ac, .plain⟩
def Ta:Par:=⟨λf=>f==163||f==177||f==193||f==201,λ_ _=>AE,λk=>k==1,λ_=>Ac,λ_=>Ac⟩
theorem Ta_ok:zBg Ar Ta:=by intro t n f h;cases h
theorem zDt(a b:List UInt8):zAr a++zAr b=zAr (a++b):=by simp[zAr]
theorem zBk(a:List UInt8):(zAr a).length=a.length:=by simp[zAr]
theorem zJ4(l:List UInt8):(CI l).map Aj=zAr l:=by simp[CI,zAr]
theorem zQk(l:List UInt8):(zAr l).map zMu=zAr l:=by simp[zAr,zMu]
theorem take_bytes(l:List UInt8)(r:List D)(n:Nat)(h:l.length=n):(zAr l++r).take n=zAr l:=by
 grind [zBk,AU]
theorem bs_dl(l:List UInt8):(bs l).data.toList=l:=rfl
theorem dd_len(u:Nat)(h:u<18446744073709551616):(AI u).length<=20:=by
 rw[Lib.decDigits_length];exact Lib.nDigits_le20 u h
set_option maxHeartbeats 2000000 in
theorem zX6(l:List UInt8)(u:Nat)(n:Nat)(hn:l.length=n)(hl:n<=1000000000)(hu:u<18446744073709551616):Acts Ar 193 [.osl 0 0 n n Ab, .val (.int .u64 u), .val (.int .i64 10)] [byB l] [0] (.osl 0 0 (n+(AI u).length) (n+(AI u).length) Ab) [byB (l++AI u)]:=by
 subst hn;have hd:=dd_len u hu;by_cases h1:u<100
 ·refine zA1 Ta_ok mixed Tryz.func193 rfl (by intro k hk;match k,hk with|0,_=>exact .inr (by simp)|1,_=>exact .inl rfl)<|vAu<|zA<|vAe<|vt<|zA<|vAe<|vT ((u:Int)<(100:Int))<|vA<|vr 3 (i6 (u:Int))<|vc (small_c u h1)<|vr 1 (Bc (byB l)=Ab/\Aa (AH<|byB l)=Aa l*1/\Aa l=Aa l*1/\A3 (byB l)=5/\A4 (byB l)=1/\Aa (zAr<|Br<|Bs<|AY<|BK<|AI u)=Aa (Br<|Bs<|AY<|BK<|AI u)*1/\0<1/\0<1/\5=5/\(Aa l+Aa (Br<|Bs<|AY<|BK<|AI u))*1<=140737488355328/\1=1/\AV (AL<|byB l)=Ac/\(Ac=Ac\/AW (AL<|byB l)=Ab)) (vb 0 (Ao (AH (byB l)++zAr (Br<|Bs<|AY<|BK<|AI u)) (A3<|byB l) (A4<|byB l) Ab Ac<|AL<|byB l) (Ao (zAr (l++AI u)) (5:TypeId) 1 Ab Ac Ap) (hd:=by simp(disch:=omega) only[zDt])<|vrT 1<|vs 6 (Af 0 0 (Aa l+Aa (Br<|Bs<|AY<|BK<|AI u)) ((Aa l+Aa (Br<|Bs<|AY<|BK<|AI u))*1) Ab) (Af 0 0 (Aa l+Aa (AI u)) (Aa l+Aa (AI u)) Ab)<|veT<|zG<|zE<|zE ?_) ⟨(by kernel_rfl),⟨(by simp[zBk]),⟨(by omega),⟨(by kernel_rfl),⟨(by kernel_rfl),⟨(by simp[zBk]),⟨(by omega),⟨(by omega),⟨(by kernel_rfl),⟨(by(simp;omega)),⟨(by kernel_rfl),⟨(by kernel_rfl),(by simp)⟩⟩⟩⟩⟩⟩⟩⟩⟩⟩⟩⟩;refine zT (True) [Af 0 0 (Aa l+Aa (AI u)) (Aa l+Aa (AI u)) Ab] (.inr rfl) ?_;exact⟨by kernel_rfl,by kernel_rfl⟩
 have h2:AO u<=20:=Lib.nDigits_le20 u hu;have hz:∀n,n<=20->(AF 24 (Aj (.int .u8 0))).take n=AF n (.val (.int .u8 0)):=λn h=>by rw[List.take_replicate,Nat.min_eq_left (by omega)]
 have hx:=Lib.decDigits_length u;have hk:∀r,(zAr (AI u)++r).take (AO u)=zAr (AI u):=λr=>take_bytes _ r _ hx;have main:Acts Ar 193 [.osl 0 0 l.length l.length Ab, .val (.int .u64 u), .val (.int .i64 10)] [byB l] [0] (.osl 0 0 (l.length+(AI u).length) (l.length+(AI u).length) Ab) [byB (l++AI u),⟨Ad (zAq 0) (zAr (AI u)++Ah (AO u) (AF 24 (.val (.int .u8 0)))),314,0,Ac,Ac, .plain⟩]:=by
  refine zA1 Ta_ok mixed Tryz.func193 rfl (by intro k hk;match k,hk with|0,_=>exact .inr (by simp)|1,_=>exact .inl rfl)<|vAu<|zA<|vAe<|vt<|zA<|vAe<|vF ((u:Int)<(100:Int))<|vK<|vAe<|vA<|vrT 1<|vc (zY2 u (by omega) hu)<|veT<|vA<|vr 2 (True/\(0:Int)<=(↑(AO u):Int)/\0<1/\Ax (↑(AO u):Int)<=24/\24<=maxLen)<|vs 21 (Af 1 0 (Ax (↑(AO u):Int)) (Ax (↑(AO u):Int)*1) Ac) (Af 1 0 (AO u) (AO u) Ac)<|vrT 1<|vnt [byB l,Ao [Aj<|Al Av (0:Int),Aj<|Al Av (0:Int),Aj<|Al Av (0:Int),Aj<|Al Av (0:Int),Aj<|Al Av (0:Int),Aj<|Al Av (0:Int),Aj<|Al Av (0:Int),Aj<|Al Av (0:Int),Aj<|Al Av (0:Int),Aj<|Al Av (0:Int),Aj<|Al Av (0:Int),Aj<|Al Av (0:Int),Aj<|Al Av (0:Int),Aj<|Al Av (0:Int),Aj<|Al Av (0:Int),Aj<|Al Av (0:Int),Aj<|Al Av (0:Int),Aj<|Al Av (0:Int),Aj<|Al Av (0:Int),Aj<|Al Av (0:Int),Aj<|Al Av (0:Int),Aj<|Al Av (0:Int),Aj<|Al Av (0:Int),Aj<|Al Av (0:Int)] 314 0 Ac Ac Ap]<|zAi [] [] [Af 1 0 (AO u) (AO u) Ac,Aj<|Al A5 (u:Int)] [Af 1 0 (AO u) (AO u) Ac,Aj<|Al A5 (u:Int)] (Bb _) (by exact zZj (k:=1) rfl rfl rfl rfl (hz _ h2) (by simp;omega) hu) ?_;refine v0s<|veT<|vA<|vr 3 (True/\(0:Int)<=(↑(AO u):Int)/\0<1/\Ax (↑(AO u):Int)<=24/\24<=maxLen)<|vs 26 (Af 1 0 (Ax (↑(AO u):Int)) (Ax (↑(AO u):Int)*1) Ac) (Af 1 0 (AO u) (AO u) Ac)<|vr 1 (Ab=Ab/\Aa (zAr l)=Aa l*1/\Aa l=Aa l*1/\5=5/\1=1/\Aa (Ad zMu<|Au (AO u)<|Ah 0 (Ad Aj (CI<|AI u)++Ah (AO u) [Aj<|Al Av 0,Aj<|Al Av 0,Aj<|Al Av 0,Aj<|Al Av 0,Aj<|Al Av 0,Aj<|Al Av 0,Aj<|Al Av 0,Aj<|Al Av 0,Aj<|Al Av 0,Aj<|Al Av 0,Aj<|Al Av 0,Aj<|Al Av 0,Aj<|Al Av 0,Aj<|Al Av 0,Aj<|Al Av 0,Aj<|Al Av 0,Aj<|Al Av 0,Aj<|Al Av 0,Aj<|Al Av 0,Aj<|Al Av 0,Aj<|Al Av 0,Aj<|Al Av 0,Aj<|Al Av 0,Aj<|Al Av 0]))=AO u*1/\0<1/\0<1/\5=5/\(Aa l+AO u)*1<=140737488355328/\1=1/\AV Ap=Ac/\(Ac=Ac\/AW Ap=Ab)) ?_ ⟨(by kernel_rfl),⟨(by simp[zBk]),⟨(by omega),⟨(by kernel_rfl),⟨(by kernel_rfl),⟨(by simp[zBk,hk,zQk,zJ4,hx]),⟨(by omega),⟨(by omega),⟨(by kernel_rfl),⟨(by omega),⟨(by kernel_rfl),⟨(by kernel_rfl),(by simp)⟩⟩⟩⟩⟩⟩⟩⟩⟩⟩⟩⟩;refine vb 0 (Ao (zAr l++Ad zMu (Au (AO u)<|Ah 0 (Ad Aj (CI<|AI u)++Ah (AO u) [Aj<|Al Av 0,Aj<|Al Av 0,Aj<|Al Av 0,Aj<|Al Av 0,Aj<|Al Av 0,Aj<|Al Av 0,Aj<|Al Av 0,Aj<|Al Av 0,Aj<|Al Av 0,Aj<|Al Av 0,Aj<|Al Av 0,Aj<|Al Av 0,Aj<|Al Av 0,Aj<|Al Av 0,Aj<|Al Av 0,Aj<|Al Av 0,Aj<|Al Av 0,Aj<|Al Av 0,Aj<|Al Av 0,Aj<|Al Av 0,Aj<|Al Av 0,Aj<|Al Av 0,Aj<|Al Av 0,Aj<|Al Av 0]))) 5 1 Ab Ac Ap) (Ao (zAr (l++AI u)) 5 1 Ab Ac Ap) (hd:=by simp(disch:=omega) only[zJ4,A2,zQk,zDt,hk])<|vrT 1<|vs 6 (Af 0 0 (Aa l+AO u) ((Aa l+AO u)*1) Ab) (Af 0 0 (Aa l+AO u) (Aa l+AO u) Ab)<|veT<|zG<|zE<|zT (True) [Af 0 0 (Aa l+AO u) (Aa l+AO u) Ab] (.inr rfl) ?_;exact⟨by rw[hx];rfl,by rw[<-zJ4 (AI u)];kernel_rfl⟩
 exact main.cut 1 (by simp) rfl
set_option maxHeartbeats 2000000 in
theorem appIntI_c(l:List UInt8)(z:Int)(n:Nat)(hn:l.length=n)(hl:n<=900000000)(h0:-9223372036854775808<=z)(h1:z<=9223372036854775807):Acts Ar 177 [.osl 0 0 n n Ab,iD z,iD 10] [byB l] [0] (.osl 0 0 (n+(Ai z).length) (n+(Ai z).length) Ab) [byB (l++Ai z)]:=by
 subst hn;by_cases hz:z<0
 ·have e:Ai z=45::AI z.natAbs:=by unfold Ai;rw[if_pos hz]
  have e1:(A5.wrap (0-A5.wrap z))=((z.natAbs:Nat):Int):=by
   simp only[A0,IntKind.bits,IntKind.signed,Bool.false_and,BT,if_false];omega
  have j1:=(zX6 (l++[45]) z.natAbs (l.length+1) (by simp) (by omega) (by omega)).atC 0 (st:=[byB (l++[45]),byB [45]]) rfl (.inl rfl) (.inl rfl) (only_osl [.int .u64 z.natAbs, .int .i64 10]) (λj e0 hj he=>by match j,hj,he with|0,hj,_=>exact absurd rfl hj|1,_,he=>cases he;exact .inl rfl);have main:Acts Ar 177 [.osl 0 0 l.length l.length Ab,iD z,iD 10] [byB l] [0] (.osl 0 0 (l.length+1+(AI z.natAbs).length) (l.length+1+(AI z.natAbs).length) Ab) [byB (l++[45]++AI z.natAbs),byB [45]]:=by
   refine zA1 Ta_ok mixed Tryz.func177 rfl (by intro k hk;match k,hk with|0,_=>exact .inr (by simp)|1,_=>exact .inl rfl)<|vAu<|vA<|vew [9] [] (True)<|zA<|vAe<|vT (z<0)<|vA<|vr 3 (al_ (Bc (byB l)=Ab/\Aa (AH<|byB l)=Aa l*1/\Aa l=Aa l*1/\A3 (byB l)=5/\A4 (byB l)=1/\1=1/\0<1/\0<1/\5=5/\(Aa l+1)*1<=140737488355328/\1=1/\AV (AL<|byB l)=Ac/\(Ac=Ac\/AW (AL<|byB l)=Ab))) (vb 0 (Ao (AH (byB l)++[Aj<|Al Av (45:Int)]) (A3<|byB l) (A4<|byB l) Ab Ac<|AL<|byB l) (Ao (zAr (l++[(45:UInt8)])) (5:TypeId) 1 Ab Ac Ap) (hd:=by simp(disch:=omega) only[zDt,show([Aj (Al Av 45)]:List D)=zAr [45]from rfl])<|vrT 1<|vs 0 (Af 0 0 (Aa l+1) ((Aa l+1)*1) Ab) (Af 0 0 (Aa l+1) (Aa l+1) Ab)<|veT<|zB rfl<|vw 2 [16] [] (True)<|vs 16 (Aj<|Al A5<|A0 A5 ((0:Int)-A0 A5 z)) (Aj<|Al A5 (↑(Co z):Int))<|veT<|vA<|vrT 3<|vnt [Ao (zAr (l++[(45:UInt8)])) (5:TypeId) 1 Ab Ac Ap,Ao (zAr [(45:UInt8)]) 5 1 Ab Ac Ap] ?_) ⟨⟨⟨(by kernel_rfl),⟨(by omega),trivial⟩⟩,(by omega)⟩,⟨(by kernel_rfl),⟨(by simp[zBk]),⟨(by omega),⟨(by kernel_rfl),⟨(by kernel_rfl),⟨(by kernel_rfl),⟨(by omega),⟨(by omega),⟨(by kernel_rfl),⟨(by omega),⟨(by kernel_rfl),⟨(by kernel_rfl),(by simp)⟩⟩⟩⟩⟩⟩⟩⟩⟩⟩⟩⟩⟩;refine zLn [] [] [Af 0 0 (Aa l+1) (Aa l+1) Ab,Aj<|Al A5 (↑(Co z):Int),iD 10] [Af 0 0 (Aa l+1) (Aa l+1) Ab,Aj<|Al A5 (↑(Co z):Int),iD 10] (by kernel_rfl) trivial (Bb _) (by exact j1) (by kernel_rfl) ?_;refine v0s<|veT<|zG<|zT (True) [Af 0 0 (Aa l+1+Aa (AI<|Co z)) (Aa l+1+Aa (AI<|Co z)) Ab] (.inr rfl) ?_;exact⟨by kernel_rfl,by kernel_rfl⟩
  have h2:=main.cut 1 (by simp) rfl;grind
 obtain⟨u,rfl⟩:∃u:Nat,z=u:=⟨z.toNat,by omega⟩;have e:Ai u=AI u:=Lib.itoa_nonneg u;have j1:=zX6 l u l.length rfl (by omega) (by omega);rw[e];refine zA1 Ta_ok mixed Tryz.func177 rfl (by intro k hk;match k,hk with|0,_=>exact .inr (by simp)|1,_=>exact .inl rfl)<|vAu<|vA<|ve (u6 (u:Int))<|zA<|vAe<|vF ((u:Int)<0)<|vK<|vA<|vrT 3<|vnt [byB l]<|zLn [] [] [Af 0 0 (Aa l) (Aa l) Ab,Aj<|Al A5 (u:Int),iD 10] [Af 0 0 (Aa l) (Aa l) Ab,Aj<|Al A5 (u:Int),iD 10] (by kernel_rfl) trivial (Bb _) (by exact j1) (by kernel_rfl) ?_;refine v0s<|veT<|zG<|zT (True) [Af 0 0 (Aa l+Aa (AI u)) (Aa l+Aa (AI u)) Ab] (.inr rfl) ?_;exact⟨by kernel_rfl,by kernel_rfl⟩
theorem appInt_c(l:List UInt8)(z:Int)(n:Nat)(hn:l.length=n)(hl:n<=900000000)(h0:-9223372036854775808<=z)(h1:z<=9223372036854775807):Acts Ar 163 [.osl 0 0 n n Ab,iD z,iD 10] [byB l] [0] (.osl 0 0 (n+(Ai z).length) (n+(Ai z).length) Ab) [byB (l++Ai z)]:=by
 refine zA1 Ta_ok mixed Tryz.func163 rfl (by intro k hk;match k,hk with|0,_=>exact .inr (by simp)|1,_=>exact .inl rfl)<|vAu<|vA<|vrT 3<|vnt [byB l]<|zLn [] [] [Af 0 0 n n Ab,iD z,iD 10] [Af 0 0 n n Ab,iD z,iD 10] (by kernel_rfl) trivial (Bb _) (by exact appIntI_c l z n hn hl h0 h1) (by kernel_rfl) ?_;refine v0s<|veT<|zG<|zT (True) [Af 0 0 (n+Aa (Ai z)) (n+Aa (Ai z)) Ab] (.inr rfl) ?_;exact⟨by kernel_rfl,by kernel_rfl⟩
theorem zQp(k:Nat)(l:List UInt8)(z:Int)(n:Nat)(hn:l.length=n)(hl:n<=900000000)(h0:-9223372036854775808<=z)(h1:z<=9223372036854775807)(he:st[k]?=Am (byB l))(hno:∀j e0,j≠k->st[j]?=Am e0->e0.nob=Ab\/zAt k e0.cells=Ac):Acts Ar 163 [.osl k 0 n n Ab,iD z,iD 10] st [k] (.osl k 0 (n+(Ai z).length) (n+(Ai z).length) Ab) (st.set k (byB (l++Ai z))):=
 (appInt_c l z n hn hl h0 h1).atC k he (.inl rfl) (.inl rfl) (only_osl [.int .i64 z, .int .i64 10]) hno
def idV(v:Va):List UInt8:=Ai v.kind++[32]++Ai v.int++[32]++Ai (v.str.length:Nat)++[32]++v.str
def idR(r:List Va):List UInt8:=r.flatMap idV
def Vs(v:Va):Prop:=(-9223372036854775808<=v.kind/\v.kind<=9223372036854775807)/\(-9223372036854775808<=v.int/\v.int<=9223372036854775807)/\v.str.length<=10000
theorem idV_len(v:Va)(h:Vs v):(idV v).length<=10100:=by
 have h1:=Cb v.kind h.1.1 h.1.2;have h2:=Cb v.int h.2.1.1 h.2.1.2;have h3:=Cb (v.str.length:Nat) (by omega) (by have:=h.2.2;omega);have h4:=h.2.2;grind [only,idV,AR,BC,Cp]
theorem idR_succ(r:List Va)(i:Nat)(h:i<r.length):idR (r.take (i+1))=idR (r.take i)++idV (r.getD i Ak):=by
 grind [BL,idR,AJ]
theorem idR_len(r:List Va)(h:∀v∈r,Vs v)(i:Nat)(hi:i<=r.length):(idR (r.take i)).length<=10100*i:=by
 induction i<;>grind [idR,idR_succ,AR,idV_len,AJ,Bn]
def isConv:Op->Bool
 | .convert s d _=>s==281&&d==9
 |_=>Ac
def Tiy:Par:=⟨λf=>f==163,λ_ _=>AE,λ_=>Ac,isConv,λ_=>Ac⟩
theorem Tiy_ok:zBg Ar Tiy:=by intro t n f h;cases h
theorem zXz(l:List UInt8):zG6 (zAr l)=Am l:=by
 induction l<;>simp_all [zG6,zAr]
theorem zT8(l:List UInt8):zR6 (zAr l)=l:=by
 induction l<;>simp_all [byteG,zR6,zAr]
theorem zJu(l:List UInt8)(n:Nat)(h:l.length=n):(zAr l).take n=zAr l:=by grind [AU,zBk]
def zRg(k:Nat)(st:List Bk):Bool:=st.zipIdx.all λp=>p.2==k||p.1.nob||!zAt k p.1.cells
theorem zGu(h:zRg k st=Ab):∀j e0,j≠k->st[j]?=Am e0->e0.nob=Ab\/zAt k e0.cells=false:=λj e0 hj he=>by
 unfold zRg at h;rw[Bq]at h
 have:=h (e0,j) (List.mem_zipIdx_iff_getElem?.2 he)
 simp only[Cc,beq_iff_eq,Cq]at this;rcases this with(h1|h1)|h1
 ·exact absurd h1 hj
 ·exact .inl h1
 exact .inr h1
set_option maxHeartbeats 4000000 in
theorem rkey_c(r:List Va)(n:Nat)(hn:r.length=n)(hl:n<=10000)(hv:∀v∈r,Vs v):Pure Ar 142 [.row (zM r) n] [] (strD (idR r)):=by
 subst hn;refine zJ Tiy_ok mixed Tryz.func142 rfl<|vAu<|vAe<|zA<|vAe<|zF<|zN (λ(i:Nat)=>fr 51 [(0,Ae (zM r)<|Aa r),(2,Aj<|AN (AY #[])),(3,Af 0 0 (Aa<|idR<|Au i r) (Aa<|idR<|Au i r) Ab),(6,iD (Aa r:Int)),(7,iD (i:Int))]) (λi=>[byB<|idR<|r.take i]) (λi=>r.length-i) (λi=>i<=r.length) 0 ?_ ?_ ?_
 ·omega
 ·rw[show idR (r.take 0)=[]from rfl];refine vk 0
 rintro i h1;have hb:=idR_len r hv i (by omega);generalize ex:idR (r.take i)=x at*;rcases AG i r.length with hi|hi
 ·have hvi:Vs (r.getD i Ak):=by rw[AX,AJ hi];exact hv _ (Bn _)
  have e2:=idR_succ r i hi;rw[ex]at e2;obtain⟨v,ev⟩:∃v,v=r.getD i default:=⟨_,rfl⟩;rw[<-ev]at e2 hvi;have l1:=Cb v.kind hvi.1.1 hvi.1.2;have l2:=Cb v.int hvi.2.1.1 hvi.2.1.2;have l3:=hvi.2.2;have l4:=Cb (v.str.length:Nat) (by omega) (by omega);have e3:x++idV v=x++Ai v.kind++[32]++Ai v.int++[32]++Ai (v.str.length:Nat)++[32]++v.str:=by simp[idV]
  have e4:=zXy r i hi;rw[<-ev]at e4;focus
   refine vAu<|zA<|vT ((i:Int)<↑(Aa r))<|vKB<|vAe<|vA<|vr 4 (ix ↑i ↑(Aa r) (zM r≠[])) (vs 13 (A8<|Ah (Ax (i:Int)*3)<|zM r) (A8 (iD (Aw v)::iD (AC v)::strD (AA v)::zM (Ah (i+1) r)))<|vr 2 (True/\0<Aa (iD (Aw v)::iD (AC v)::strD (AA v)::zM (Ah (i+1) r)))<|vnt [byB x] ?_) ⟨(by omega),⟨(by omega),(by exact zF1 _)⟩⟩;refine zLn [] [] [Af 0 0 (Aa x) (Aa x) Ab,iD<|Aw v,iD 10] [Af 0 0 (Aa x) (Aa x) Ab,iD<|Aw v,iD 10] (by kernel_rfl) trivial (Bb _) (by exact zQp 0 _ v.kind _ (by simp) (by omega) hvi.1.1 hvi.1.2 rfl (zGu rfl)) (by kernel_rfl) ?_;refine v0s<|veT<|vA<|vr 3 (am_ (Aa (zAr (x++Ai (Aw v)))=(Aa x+Aa (Ai<|Aw v))*1/\Aa x+Aa (Ai<|Aw v)=(Aa x+Aa (Ai<|Aw v))*1/\5=5/\1=1/\1=1/\0<1/\0<1/\5=5/\(Aa x+Aa (Ai<|Aw v)+1)*1<=140737488355328/\1=1/\AV Ap=Ac/\(Ac=Ac\/AW Ap=Ab))) (vb 0 (Ao (zAr (x++Ai (Aw v))++[Aj<|Al Av 32]) 5 1 Ab Ac Ap) (Ao (zAr (x++Ai (Aw v)++[(32:UInt8)])) 5 1 Ab Ac Ap) (hd:=by simp(disch:=omega) only[zDt,show([Aj (Al Av 32)]:List D)=zAr [32]from rfl])<|vrT 1<|vs 3 (Af 0 0 (Aa x+Aa (Ai<|Aw v)+1) ((Aa x+Aa (Ai<|Aw v)+1)*1) Ab) (Af 0 0 (Aa x+Aa (Ai<|Aw v)+1) (Aa x+Aa (Ai<|Aw v)+1) Ab) ?_) ⟨⟨⟨(by kernel_rfl),⟨(by omega),trivial⟩⟩,(by omega)⟩,⟨(by kernel_rfl),⟨(by simp[zBk]),⟨(by omega),⟨(by kernel_rfl),⟨(by kernel_rfl),⟨(by kernel_rfl),⟨(by omega),⟨(by omega),⟨(by kernel_rfl),⟨(by omega),⟨(by kernel_rfl),⟨(by kernel_rfl),(by simp)⟩⟩⟩⟩⟩⟩⟩⟩⟩⟩⟩⟩⟩;refine veT<|vA<|vr 4 (ix ↑i ↑(Aa r) (zM r≠[])) (vs 23 (A8<|Ah (Ax (i:Int)*3)<|zM r) (A8 (iD (Aw v)::iD (AC v)::strD (AA v)::zM (Ah (i+1) r)))<|vr 2 (True/\0<Aa (iD (AC v)::strD (AA v)::zM (Ah (i+1) r)))<|vnt [Ao (zAr (x++Ai (Aw v)++[(32:UInt8)])) 5 1 Ab Ac Ap,Ao (zAr [(32:UInt8)]) 5 1 Ab Ac Ap] ?_) ⟨(by omega),⟨(by omega),(by exact zF1 _)⟩⟩;refine zLn [] [] [Af 0 0 (Aa x+Aa (Ai<|Aw v)+1) (Aa x+Aa (Ai<|Aw v)+1) Ab,iD<|AC v,iD 10] [Af 0 0 (Aa x+Aa (Ai<|Aw v)+1) (Aa x+Aa (Ai<|Aw v)+1) Ab,iD<|AC v,iD 10] (by kernel_rfl) trivial (Bb _) (by exact zQp 0 _ v.int _ (by simp;omega) (by omega) hvi.2.1.1 hvi.2.1.2 rfl (zGu rfl)) (by kernel_rfl) ?_;refine v0s<|veT<|vA<|vr 3 (am_ (Aa (zAr (x++Ai (Aw v)++[(32:UInt8)]++Ai (AC v)))=(Aa x+Aa (Ai<|Aw v)+1+Aa (Ai<|AC v))*1/\Aa x+Aa (Ai<|Aw v)+1+Aa (Ai<|AC v)=(Aa x+Aa (Ai<|Aw v)+1+Aa (Ai<|AC v))*1/\5=5/\1=1/\1=1/\0<1/\0<1/\5=5/\(Aa x+Aa (Ai<|Aw v)+1+Aa (Ai<|AC v)+1)*1<=140737488355328/\1=1/\AV Ap=Ac/\(Ac=Ac\/AW Ap=Ab))) (vb 0 (Ao (zAr (x++Ai (Aw v)++[(32:UInt8)]++Ai (AC v))++[Aj<|Al Av 32]) 5 1 Ab Ac Ap) (Ao (zAr (x++Ai (Aw v)++[(32:UInt8)]++Ai (AC v)++[(32:UInt8)])) 5 1 Ab Ac Ap) (hd:=by simp(disch:=omega) only[zDt,show([Aj (Al Av 32)]:List D)=zAr [32]from rfl]) ?_) ⟨⟨⟨(by kernel_rfl),⟨(by omega),trivial⟩⟩,(by omega)⟩,⟨(by kernel_rfl),⟨(by(simp[zBk];omega)),⟨(by omega),⟨(by kernel_rfl),⟨(by kernel_rfl),⟨(by kernel_rfl),⟨(by omega),⟨(by omega),⟨(by kernel_rfl),⟨(by omega),⟨(by kernel_rfl),⟨(by kernel_rfl),(by simp)⟩⟩⟩⟩⟩⟩⟩⟩⟩⟩⟩⟩⟩;refine vrT 1<|vs 3 (Af 0 0 (Aa x+Aa (Ai<|Aw v)+1+Aa (Ai<|AC v)+1) ((Aa x+Aa (Ai<|Aw v)+1+Aa (Ai<|AC v)+1)*1) Ab) (Af 0 0 (Aa x+Aa (Ai<|Aw v)+1+Aa (Ai<|AC v)+1) (Aa x+Aa (Ai<|Aw v)+1+Aa (Ai<|AC v)+1) Ab)<|veT<|vA<|vr 4 (ix ↑i ↑(Aa r) (zM r≠[])) (vs 33 (A8<|Ah (Ax (i:Int)*3)<|zM r) (A8 (iD (Aw v)::iD (AC v)::strD (AA v)::zM (Ah (i+1) r)))<|vr 3 (True/\0<Aa (strD (AA v)::zM (Ah (i+1) r)))<|vnt [Ao (zAr (x++Ai (Aw v)++[(32:UInt8)]++Ai (AC v)++[(32:UInt8)])) 5 1 Ab Ac Ap,Ao [Aj<|Al Av (↑(32:Nat):Int)] 5 1 Ab Ac Ap,Ao (zAr [(32:UInt8)]) 5 1 Ab Ac Ap] ?_) ⟨(by omega),⟨(by omega),(by exact zF1 _)⟩⟩;refine zLn [] [] [Af 0 0 (Aa x+Aa (Ai<|Aw v)+1+Aa (Ai<|AC v)+1) (Aa x+Aa (Ai<|Aw v)+1+Aa (Ai<|AC v)+1) Ab,iD (Aa (AA v):Int),iD 10] [Af 0 0 (Aa x+Aa (Ai<|Aw v)+1+Aa (Ai<|AC v)+1) (Aa x+Aa (Ai<|Aw v)+1+Aa (Ai<|AC v)+1) Ab,iD (Aa (AA v):Int),iD 10] (by kernel_rfl) trivial (Bb _) (by exact zQp 0 _ (v.str.length:Nat) _ (by simp;omega) (by omega) (by omega) (by omega) rfl (zGu rfl)) (by kernel_rfl) ?_;refine v0s<|veT<|vA<|vr 3 (am_ (Aa (zAr (x++Ai (Aw v)++[(32:UInt8)]++Ai (AC v)++[(32:UInt8)]++Ai (Aa (AA v):Int)))=(Aa x+Aa (Ai<|Aw v)+1+Aa (Ai<|AC v)+1+Aa (Ai (Aa (AA v):Int)))*1/\Aa x+Aa (Ai<|Aw v)+1+Aa (Ai<|AC v)+1+Aa (Ai (Aa (AA v):Int))=(Aa x+Aa (Ai<|Aw v)+1+Aa (Ai<|AC v)+1+Aa (Ai (Aa (AA v):Int)))*1/\5=5/\1=1/\1=1/\0<1/\0<1/\5=5/\(Aa x+Aa (Ai<|Aw v)+1+Aa (Ai<|AC v)+1+Aa (Ai (Aa (AA v):Int))+1)*1<=140737488355328/\1=1/\AV Ap=Ac/\(Ac=Ac\/AW Ap=Ab))) ?_ ⟨⟨⟨(by kernel_rfl),⟨(by omega),trivial⟩⟩,(by omega)⟩,⟨(by kernel_rfl),⟨(by(simp[zBk];omega)),⟨(by omega),⟨(by kernel_rfl),⟨(by kernel_rfl),⟨(by kernel_rfl),⟨(by omega),⟨(by omega),⟨(by kernel_rfl),⟨(by omega),⟨(by kernel_rfl),⟨(by kernel_rfl),(by simp)⟩⟩⟩⟩⟩⟩⟩⟩⟩⟩⟩⟩⟩;refine vb 0 (Ao (zAr (x++Ai (Aw v)++[(32:UInt8)]++Ai (AC v)++[(32:UInt8)]++Ai (Aa (AA v):Int))++[Aj<|Al Av 32]) 5 1 Ab Ac Ap) (Ao (zAr (x++Ai (Aw v)++[(32:UInt8)]++Ai (AC v)++[(32:UInt8)]++Ai (Aa (AA v):Int)++[(32:UInt8)])) 5 1 Ab Ac Ap) (hd:=by simp(disch:=omega) only[zDt,show([Aj (Al Av 32)]:List D)=zAr [32]from rfl])<|vrT 1<|vs 3 (Af 0 0 (Aa x+Aa (Ai<|Aw v)+1+Aa (Ai<|AC v)+1+Aa (Ai (Aa (AA v):Int))+1) ((Aa x+Aa (Ai<|Aw v)+1+Aa (Ai<|AC v)+1+Aa (Ai (Aa (AA v):Int))+1)*1) Ab) (Af 0 0 (Aa x+Aa (Ai<|Aw v)+1+Aa (Ai<|AC v)+1+Aa (Ai (Aa (AA v):Int))+1) (Aa x+Aa (Ai<|Aw v)+1+Aa (Ai<|AC v)+1+Aa (Ai (Aa (AA v):Int))+1) Ab)<|veT<|zB rfl<|vr 4 (ix ↑i ↑(Aa r) (zM r≠[])) (vs 44 (A8<|Ah (Ax (i:Int)*3)<|zM r) (A8 (iD (Aw v)::iD (AC v)::strD (AA v)::zM (Ah (i+1) r))) ?_) ⟨(by omega),⟨(by omega),(by exact zF1 _)⟩⟩;refine vwh 3 [] [] (True/\0<Aa (strD (AA v)::zM (Ah (i+1) r))/\Ab=Ab/\Aa (zAr (x++Ai (Aw v)++[(32:UInt8)]++Ai (AC v)++[(32:UInt8)]++Ai (Aa (AA v):Int)++[(32:UInt8)]))=(Aa x+Aa (Ai<|Aw v)+1+Aa (Ai<|AC v)+1+Aa (Ai (Aa (AA v):Int))+1)*1/\Aa x+Aa (Ai<|Aw v)+1+Aa (Ai<|AC v)+1+Aa (Ai (Aa (AA v):Int))+1=(Aa x+Aa (Ai<|Aw v)+1+Aa (Ai<|AC v)+1+Aa (Ai (Aa (AA v):Int))+1)*1/\5=5/\1=1/\Aa (zAr<|Br<|Bs<|bs<|AA v)=Aa (Br<|Bs<|bs<|AA v)*1/\0<1/\0<1/\5=5/\(Aa x+Aa (Ai<|Aw v)+1+Aa (Ai<|AC v)+1+Aa (Ai (Aa (AA v):Int))+1+Aa (Br<|Bs<|bs<|AA v))*1<=140737488355328/\1=1/\AV Ap=Ac/\(Ac=Ac\/AW Ap=Ab)) ⟨trivial,(lb (by kernel_rfl)),?_⟩ ?_;rotate_left;refine vb 0 (Ao (zAr (x++Ai (Aw v)++[(32:UInt8)]++Ai (AC v)++[(32:UInt8)]++Ai (Aa (AA v):Int)++[(32:UInt8)])++zAr (Br<|Bs<|bs<|AA v)) 5 1 Ab Ac Ap) (Ao (zAr (x++Ai (Aw v)++[(32:UInt8)]++Ai (AC v)++[(32:UInt8)]++Ai (Aa (AA v):Int)++[(32:UInt8)]++AA v)) 5 1 Ab Ac Ap) (hd:=by simp(disch:=omega) only[bs_dl,zDt])<|vrT 1<|vs 3 (Af 0 0 (Aa x+Aa (Ai<|Aw v)+1+Aa (Ai<|AC v)+1+Aa (Ai (Aa (AA v):Int))+1+Aa (Br<|Bs<|bs<|AA v)) ((Aa x+Aa (Ai<|Aw v)+1+Aa (Ai<|AC v)+1+Aa (Ai (Aa (AA v):Int))+1+Aa (Br<|Bs<|bs<|AA v))*1) Ab) (Af 0 0 (Aa x+Aa (Ai<|Aw v)+1+Aa (Ai<|AC v)+1+Aa (Ai (Aa (AA v):Int))+1+Aa (AA v)) (Aa x+Aa (Ai<|Aw v)+1+Aa (Ai<|AC v)+1+Aa (Ai (Aa (AA v):Int))+1+Aa (AA v)) Ab) (hd:=by simp(disch:=omega) only[bs_dl,Ba])<|vnil<|zD<|vN<|zB rfl<|vr 2 (i6 (↑i+1))<|vnil<|zC ?_;rotate_left
  all_goals first|(refine⟨rfl,?_,?_,rfl,rfl,?_,by decide,by decide,rfl,?_,rfl,rfl, .inl rfl⟩<;>(try simp only[zBk,AR,BC,Cp,bs_dl])<;>omega)|skip
  refine⟨i+1,by omega,by omega,?_⟩;rw[e2,e3];refine wk 3 (Af 0 0 (Aa x+Aa (Ai (Aw v))+1+Aa (Ai (AC v))+1+Aa (Ai (↑(Aa (AA v)):Int))+1+Aa (AA v)) (Aa x+Aa (Ai (Aw v))+1+Aa (Ai (AC v))+1+Aa (Ai (↑(Aa (AA v)):Int))+1+Aa (AA v)) Ab) (Af 0 0 (Aa (x++Ai (Aw v)++[(32:UInt8)]++Ai (AC v)++[(32:UInt8)]++Ai (↑(Aa (AA v)):Int)++[(32:UInt8)]++AA v)) (Aa (x++Ai (Aw v)++[(32:UInt8)]++Ai (AC v)++[(32:UInt8)]++Ai (↑(Aa (AA v)):Int)++[(32:UInt8)]++AA v)) Ab) (by(simp;omega)) (vk 1)
 have e:i=r.length:=by omega
 subst e;rw[CH]at ex;refine vAu<|zA<|vF ((Aa r:Int)<↑(Aa r))<|vZ2<|vA<|vr 2 (zG6 (Au (Aa x)<|Ah 0<|AH<|byB x)=Am (zR6<|Au (Aa x)<|Ah 0<|AH<|byB x)/\Aa (Au (Aa x)<|Ah 0<|AH<|byB x)=Aa x/\Program.underlying Ar 5=Am (TypeDesc.int Av)) (vs 50 (Aj<|AN<|AY<|BK<|zR6<|Au (Aa x)<|Ah 0<|AH<|byB x) (Aj<|AN<|AY<|BK x) (hd:=by simp(disch:=omega) only[A2,zJu,zT8])<|veT<|zG ?_) ⟨(by simp[zXz,zT8,zJu,zBk]),⟨(by simp[zXz,zT8,zJu,zBk]),(by kernel_rfl)⟩⟩;refine vre (True) (Aj<|AN<|AY<|BK x) (.inr rfl) ?_;rw[ex];rfl
end
section
open Go.RowKit
def dvl(l:List UInt8):Nat:=l.foldl (λa b=>a*10+(b.toNat-48)) 0
theorem dec_ok(u:Nat):dvl (AI u)=u/\∀b∈AI u,48<=b.toNat/\b.toNat<=57:=by
 induction u using Nat.strongRecOn with
 | _ u ih=>
  rw[AI];split
  ·rename_i h;have e:(UInt8.ofNat (48+u)).toNat=48+u:=by rw[UInt8.toNat_ofNat'];omega
   grind [only,dvl,Ca]
  rename_i h;obtain⟨h1,h2⟩:=ih (u/10) (by omega);have e:(UInt8.ofNat (48+u%10)).toNat=48+u%10:=by rw[UInt8.toNat_ofNat'];omega
  grind [dvl,only,Ca]
theorem zTq{a b:Int}(h:Ai a=Ai b):a=b:=by
 have key:∀z:Int,z<0->∀u:Nat,Ai z≠AI u:=λz hz u e=>by
  unfold Ai at e;rw[if_pos hz]at e
  have:=(dec_ok u).2 45 (by rw[<-e];simp)
  grind
 by_cases ha:a<0<;>by_cases hb:b<0
 ·unfold Ai at h;grind [dvl,Cr.inj,dec_ok]
 ·have e:Ai b=AI b.toNat:=by unfold Ai;rw[if_neg hb]
  grind
 ·have e:Ai a=AI a.toNat:=by unfold Ai;rw[if_neg ha]
  grind
 unfold Ai at h;grind [dvl,dec_ok]
theorem zL0(z:Int):∀b∈Ai z,b≠32:=by
 intro b hb e;subst e;unfold Ai at hb;grind [dec_ok]
theorem cut_at:∀{a b s t:List UInt8},(∀x∈a,x≠32)->(∀x∈b,x≠32)->a++32::s=b++32::t->a=b/\s=t
 |[],[],s,t,_,_,h=>by simpa using h
 |[],y::b,s,t,_,hb,h=>by
  grind
 |x::a,[],s,t,ha,_,h=>by
  grind
 |x::a,y::b,s,t,ha,hb,h=>by
  simp only[B5,Cr.injEq]at h;obtain⟨h1,h2⟩:=cut_at (λz hz=>ha z (Bx _ hz)) (λz hz=>hb z (Bx _ hz)) h.2;exact⟨by rw[h.1,h1],h2⟩
theorem idV_inj{v w:Va}{s t:List UInt8}(h:idV v++s=idV w++t):v=w/\s=t:=by
 simp only[idV,Bd,CA,B5,B6]at h;obtain⟨h1,h⟩:=cut_at (zL0 _) (zL0 _) h;obtain⟨h2,h⟩:=cut_at (zL0 _) (zL0 _) h;obtain⟨h3,h⟩:=cut_at (zL0 _) (zL0 _) h;have g1:=zTq h1;have g2:=zTq h2;clear h1 h2;have h3:v.str.length=w.str.length:=by have:=zTq h3;omega
 obtain⟨h4,h5⟩:=List.append_inj h h3;obtain⟨vk,vi,vs⟩:=v;simp_all
theorem idV_ne(v:Va)(s:List UInt8):idV v++s≠[]:=by
 simp_all [Aa,idV]
theorem idR_inj:∀{r s:List Va},idR r=idR s->r=s
 |[],[],_=>rfl
 |[],w::s,h=>absurd h.symm (idV_ne w (idR s))
 |v::r,[],h=>absurd h (idV_ne v (idR r))
 |v::r,w::s,h=>by
  have h:idV v++idR r=idV w++idR s:=h;obtain⟨h1,h2⟩:=idV_inj h;rw[h1,idR_inj h2]
abbrev kyv(r:List Va):Value:= .string (bs (idR r))
theorem vEq_ky(r s:List Va):vEq (kyv r) (kyv s)=decide (r=s):=by
 simp only[vEq,kyv,bs];rw[Cd];grind [only,idR_inj]
theorem zEi(K:List (List Va))(r:List Va):zJm (K.map kyv) (kyv r)=K.findIdx? λs=>decide (r=s):=by
 unfold zJm;rw[List.findIdx?_map];congr 1;funext s;exact vEq_ky r s
theorem zDl(K:List (List Va)):(K.map kyv).all (zAb .string)=true:=by simp[zAb]
end
def zA7(rows:List (List Va))(i j:Nat):Int:=rcmp (rows.getD i []) (rows.getD j [])
theorem zYv{rows:List (List Va)}(hn:rows.Nodup):On (As rows.length) (zA7 rows):=by
 refine⟨λx hx y hy=>?_,λx _ y _=>rcw.neg _ _,λx _ y _ z _=>rcw.tr _ _ _⟩;have hx:x<rows.length:=by simpa using hx
 have hy:y<rows.length:=by simpa using hy
 unfold zA7;rw[rcw.eq,AX,AX,AJ hx,AJ hy];simp only[CC];grind [CU]
section
variable{α:Type}
def srtL(l:List (Rw×α)):List (Rw×α):=acc rcmp (λa _=>a) [] l
theorem zQt(f:α->α->α){l:List (Rw×α)}(h:Ndk l):acc rcmp f [] l=srtL l:=by
 have hs:=zG9 rcw (λ(a _:α)=>a) l [] BE.nil;refine Srt.uniq rcw (zG9 rcw f l [] BE.nil) hs λr=>?_;rw[zMx rcw f l [] r BE.nil];unfold srtL;rw[zMx rcw _ l [] r BE.nil];simp_all [kv,Rw,zXi]
theorem zEn[Inhabited α]{l:List (Rw×α)}(h:Ndk l):(zCy (zA7 (l.map (·.1))) (As l.length)).map (λi=>l.getD i Ak)=srtL l:=by
 have ho:=zYv (rows:=l.map (·.1)) (show(l.map (·.1)).Nodup from h);rw[AM]at ho;have hp:=zB5 (zA7 (l.map (·.1))) (As l.length);have hr:(As l.length).map (λi=>l.getD i Ak)=l:=by
  apply BX (by simp);grind
 refine perm_acc rcw _ ?_ ?_ h
 ·grind
 unfold Srt;rw[List.pairwise_map];have hs:=ho.sorted;have hnd:(zCy (zA7 (l.map (·.1))) (As l.length)).Nodup:=hp.nodup_iff.2 List.nodup_range;refine(hs.and hnd).imp_of_mem λ{a b} ha hb hab=>?_;have ha:=hp.mem_iff.1 ha;have hb:=hp.mem_iff.1 hb;have h1:=ho.neg a ha b hb;have h2:=ho.eq a ha b hb;grind [zA7]
end
section
open Go.RowKit
section
variable{α:Type}[Inhabited α]
theorem zQs{f:α->α->α}{r:Rw}{v:α}:∀{l:List (Rw×α)},(addT f r v l).map (·.2)=if r∈l.map (·.1)then(l.map (·.2)).set ((l.map (·.1)).idxOf r) (f ((l.map (·.2)).getD ((l.map (·.1)).idxOf r) Ak) v)else l.map (·.2)++[v]
 |[]=>rfl
 | (s,u)::l=>by
  simp only[addT];by_cases e:s=r
  ·subst e;simp
  have ih:=zQs (f:=f) (r:=r) (v:=v) (l:=l);grind
theorem zVr(f:α->α->α)(L:List (Rw×α))(i:Nat)(h:i<L.length):sumT f [] (L.take (i+1))=addT f (L.getD i Ak).1 (L.getD i Ak).2 (sumT f [] (L.take i)):=by
 grind [BL,sumT,AJ]
theorem zVy(f:α->α->α)(L:List (Rw×α)):srtL (sumT f [] L)=acc rcmp f [] L:=by
 have hn:=zKh f L [] (by simp[Ndk]);have hp:(srtL (sumT f [] L)).Perm (sumT f [] L):=by
  rw[<-zEn hn];have h1:=(zB5 (zA7 ((sumT f [] L).map (·.1))) (As (sumT f [] L).length)).map λi=>(sumT f [] L).getD i Ak;have hr:(As (sumT f [] L).length).map (λi=>(sumT f [] L).getD i Ak)=sumT f [] L:=by
   apply BX (by simp);grind
  rwa[hr]at h1
 exact perm_sumT rcw f hp (zG9 rcw _ _ _ BE.nil)
end
theorem addT_sum(r:Rw)(v:Nat):∀(l:List (Rw×Nat)),((addT (· +·) r v l).map (·.2)).sum=(l.map (·.2)).sum+v
 |[]=>by simp[addT]
 |(s,u)::l=>by
  simp only[addT];split
  ·grind
  simp only[A6,CJ,addT_sum r v l];omega
theorem sumT_sum:∀(L l:List (Rw×Nat)),((sumT (· +·) l L).map (·.2)).sum=(l.map (·.2)).sum+(L.map (·.2)).sum
 |[],l=>by simp[sumT]
 |p::L,l=>by
  have:=sumT_sum L (addT (· +·) p.1 p.2 l)
  grind [addT_sum,only,sumT]
theorem zRl{l:List Nat}{x:Nat}(h:x∈l):x<=l.sum:=by
 induction l<;>grind
theorem zSj{α:Type}(f:α->α->α):∀(L l:List (Rw×α)),(sumT f l L).length<=l.length+L.length
 |[],l=>by simp[sumT]
 |p::L,l=>by
  have:=zSj f L (addT f p.1 p.2 l)
  grind [addT,zGi,AM,only,sumT,BC]
theorem zSk{α:Type}(f:α->α->α):∀(L l:List (Rw×α))(p:Rw×α),p∈sumT f l L->p.1∈l.map (·.1)\/p.1∈L.map (·.1)
 |[],l,p,h=> .inl (A_.2 ⟨p,h,rfl⟩)
 |q::L,l,p,h=>by
  rcases zSk f L (addT f q.1 q.2 l) p h with h1|h1;all_goals grind [zGi,only,Ca,Bx]
theorem zCa(K:List Rw)(r:Rw):(K.findIdx? λs=>decide (r=s))=if r∈K then Am (K.idxOf r)else none:=by
 induction K<;>grind
theorem look_i(K:List Rw)(r:Rw):zLy Ab (iD 0) (K.map kyv) (nsD (As K.length)) (kyv r)=if r∈K then .tup [iD (K.idxOf r:Nat),bD Ab]else .tup [iD 0,bD Ac]:=by
 grind [zLy,zEi,zCa,only,Ck.injEq,Ce,ctD]
theorem snd_le_sum{l:List (Rw×Nat)}{p:Rw×Nat}(h:p∈l):p.2<=(l.map (·.2)).sum:=by
 induction l<;>grind
theorem zA6(l:List Nat)(k:Nat)(h:k<l.length):((nsD l).drop k).headD .unk=iD (l.getD k 0:Nat):=by simp_all
theorem zDy(l:List Nat)(k:Nat)(h:k<l.length):l.getD k 0∈l:=by
 grind
def mem32(m:Nat):List Nat:=(As 32).filter λv=>m.testBit v
theorem mem32_take(m i:Nat)(h:i<32):((As 32).take (i+1)).filter (λv=>m.testBit v)=((As 32).take i).filter (λv=>m.testBit v)++if m.testBit i then[i]else[]:=by
 rw[BL (by simpa using h),CD];grind
theorem zTd(l:List Nat)(i:Nat):nsD (l++[i])=nsD l++[iD i]:=by simp
theorem zPk(l:List Nat)(n:Nat)(h:l.length=n):(nsD l).take n=nsD l:=by grind [AU]
def zBo(p:Nat->Bool)(A:List Nat):List Nat:=(As A.length).filter λj=>p (A.getD j 0)
theorem zQg(p:Nat->Bool)(A:List Nat)(i:Nat)(h:i<A.length):((As A.length).take (i+1)).filter (λj=>p (A.getD j 0))=((As A.length).take i).filter (λj=>p (A.getD j 0))++if p (A.getD i 0)then[i]else[]:=by
 rw[BL (by simpa using h),CD];grind
abbrev intB(l:List D):Bk:=⟨l,3,1,Ab,Ac, .plain⟩
end
section
open Go.RowKit
attribute [local irreducible] seqW awp zY zZ zR Weak updS zAe retL Pure Acts rP setP setQ cP nP fr
set_option maxRecDepth 4096
abbrev fB1(a b c:D):Bk:=⟨[a,b,c],90,0,Ac,Ac, .plain⟩
set_option maxHeartbeats 1000000 in
theorem zRt(A:List Nat)(n:Nat)(hn:A.length=n)(hl:n<=1000)(hA:∀v∈A,v<32)(x y:List D)(k j:Nat):Pure Ar 87 [.agg [.row (nsD A) n, .row x k, .row y j]] [] (u32D (msk A)):=by
 subst hn;have hlt:∀i,msk (A.take i)<4294967296:=λi=>zCc λv hv=>hA v (List.mem_of_mem_take hv);refine zJ zCg mixed Tryz.func87 rfl<|vAu<|vAe<|zA<|vA<|ve (ar_)<|zF<|zN (λ(i:Nat)=>fr 19 [(2,Aj<|Al AK (0:Int)),(3,u32D<|msk<|Au i A),(7,Ae (nsD A)<|Aa A),(8,iD (Aa A:Int)),(9,iD (i:Int))]) (λi=>[fB1 (.row (nsD A) A.length) (.row x k)<|.row y j]) (λi=>A.length-i) (λi=>i<=A.length) 0 ?_ ?_ ?_
 ·omega
 ·refine vk 1
 rintro i h1;have hi:=hlt i;rcases AG i A.length with h2|h2
 ·have h3:=hA _ (zDy A i h2);have h4:=zS9 h3;have h5:=zQw hi h4;refine vAu<|zA<|vT ((i:Int)<↑(Aa A))<|vKB<|vA<|vr 1 (ix ↑i ↑(Aa A) (nsD A≠[])) ?_ ⟨(by omega),⟨(by omega),(by exact zV)⟩⟩;refine vp 11 i (nsD A)<|vr 1 (0<Aa (Ah i<|nsD A))<|vs 12 (AQ (Ah i<|nsD A) Uk) (iD ↑(Aq A i 0)) (hd:=by simp(disch:=omega) only[zA6])<|veT<|zB rfl<|vr 3 ((0:Int)<=(↑(Aq A i 0):Int))<|vs 15 (Aj<|Al AK<|A0 AK ((1:Int)*(2:Int)^min (Ax (↑(Aq A i 0):Int)) 32)) (dig ((2:Nat)^Aq A i 0)) (hd:=by simp(disch:=omega) only[Bm,zHf])<|vrT 1<|vs 16 (Aj<|Al AK<|A0 AK (↑(AS (Ay 32 (↑(msk<|Au i A):Int)|||Ay 32 (↑((2:Nat)^Aq A i 0):Int))):Int)) (dig (msk (Au i A)|||(2:Nat)^Aq A i 0)) (hd:=by simp(disch:=omega) only[zX0,zBw])<|vrT 1<|vnil<|zD<|vN<|zB rfl<|vr 2 (i6 (↑i+1))<|vnil<|zC<|⟨i+1,by omega,by omega,?_⟩;rw[msk_succ A i h2];refine vk 1
 refine vAu<|zA<|vF ((i:Int)<(Aa A:Int))<|vZ2<|vAe<|zG<|vre (True) (dig<|msk<|Au i A) (.inr rfl) ?_;rw[AU h2]
set_option maxHeartbeats 1000000 in
theorem zKr(m:Nat)(hm:m<4294967296):Pure Ar 88 [u32D m] [] (.row (nsD (mem32 m)) (mem32 m).length):=by
 refine zJ zCg mixed Tryz.func88 rfl<|vAu<|vAe<|zA<|vAe<|zF<|zBp (λ(i:Nat)(l:List Nat)=>fr 19 [(0,u32D m),(2,nl),(3,Af 0 0 (Aa l) (Aa l) Ab),(5,iD (i:Int))]) (λi l=>[intB<|nsD l]) (λi l=>32-i) (λ(i:Nat)(l:List Nat)=>i<=32/\l=((As 32).take i).filter λv=>m.testBit v) 0 [] ?_ ?_ ?_
 ·grind
 ·refine vk 0
 rintro i l ⟨h1,h2⟩;rcases AG i 32 with h3|h3
 ·have h4:=mem32_take m i h3;rw[<-h2]at h4;have hlen:l.length<=32:=by rw[h2];exact AT (Bt _ _) (by simp;omega)
  focus
   refine vAu<|zA<|vT ((i:Int)<(32:Int))<|vKB<|vAe<|vA<|vr 3 ((0:Int)<=(i:Int))<|vs 10 (Aj<|Al AK<|AZ (m:Int) ((2:Int)^min (Ax (i:Int)) 32)) (dig (m>>>i)) (hd:=by simp(disch:=omega) only[Bm,zHe])<|vrT 1<|vs 11 (Aj<|Al AK<|A0 AK (↑(AS (Ay 32 (↑(m>>>i):Int)&&&Ay 32 (1:Int))):Int)) (dig<|AS (Ay 32 (↑(m>>>i):Int)&&&Ay 32 (1:Int))) (hd:=by simp(disch:=omega) only[zBw])<|vrT 1<|vs 12 (bD ((↑(AS (Ay 32 (↑(m>>>i):Int)&&&Ay 32 (1:Int))):Int)==(1:Int))) (bD<|CK m i) (hd:=by simp(disch:=omega) only[bit_b])<|veT<|zAk (t:=CK m i) (by kernel_rfl) (λhc=>?_)<|λhc=>?_;refine zB rfl<|vr 5 (al_ (Bc (intB<|nsD l)=Ab/\Aa (AH<|intB<|nsD l)=Aa l*1/\Aa l=Aa l*1/\A3 (intB<|nsD l)=3/\A4 (intB<|nsD l)=1/\1=1/\0<1/\0<8/\3=3/\(Aa l+1)*8<=140737488355328/\1=1/\AV (AL<|intB<|nsD l)=Ac/\(Ac=Ac\/AW (AL<|intB<|nsD l)=Ab)))<|vs 3 (Af 0 0 (Aa l+1) ((Aa l+1)*1) Ab) (Af 0 0 (Aa l+1) (Aa l+1) Ab)<|vnil<|zD<|vN<|zB rfl<|vr 2 (i6 (↑i+1))<|vnil<|zC ?_;rotate_left;refine zL<|zD<|vN<|zB rfl<|vr 2 (i6 (↑i+1))<|vnil<|zC ?_;rotate_left
  ·have hc2:m.testBit i=true:=by assumption
   rw[hc2,if_pos rfl]at h4;refine⟨i+1,l++[i],⟨by omega,h4.symm⟩,by omega,?_⟩;rw[zTd,AR];refine vk 1
  have hc2:m.testBit i=false:=by assumption
  rw[hc2,if_neg (by decide),BQ]at h4;refine⟨i+1,l,⟨by omega,h4.symm⟩,by omega,?_⟩;refine vk 1
 refine vAu<|zA<|vF ((i:Int)<(32:Int))<|vZ2<|vAe<|zG<|zBt (True) (Ae (Au (Aa l)<|Ah 0<|AH<|intB<|nsD l)<|Aa l) (Ae (Au (Aa l)<|nsD l)<|Aa l) (.inr rfl) (by simp(disch:=omega) only[A2]) ?_;have e:i=32:=by omega
 subst e;rw[AU (by simp)]at h2;rw[h2,zPk _ _ rfl];rfl
set_option maxHeartbeats 1000000 in
theorem zD7(A B:List Nat)(n:Nat)(hn:A.length=n)(hA:∀v∈A,v<32)(m:Nat)(hm:m<4294967296)(hl:n<=1000:=by omega):Pure Ar 93 [.row (nsD A) n,u32D m] [] (.row (nsD (zBo (λv=>m.testBit v) A)) (zBo (λv=>m.testBit v) A).length):=by
 subst hn;refine zJ zCg mixed Tryz.func93 rfl<|vAu<|vAe<|zA<|vAe<|zF<|zBp (λ(i:Nat)(l:List Nat)=>fr 26 [(1,u32D m),(4,nl),(5,Af 0 0 (Aa l) (Aa l) Ab),(8,Ae (nsD A)<|Aa A),(9,iD (Aa A:Int)),(10,iD (i:Int))]) (λi l=>[intB<|nsD l]) (λi l=>A.length-i) (λ(i:Nat)(l:List Nat)=>i<=A.length/\l=((As A.length).take i).filter λj=>m.testBit (A.getD j 0)) 0 [] ?_ ?_ ?_
 ·grind
 ·refine vk 0
 rintro i l ⟨h1,h2⟩;rcases AG i A.length with h3|h3
 ·have h4:=zQg (λv=>m.testBit v) A i h3;rw[<-h2]at h4;have hlen:l.length<=1000:=by rw[h2];exact AT (Bt _ _) (by simp;omega)
  have h5:=hA _ (zDy A i h3);focus
   refine vAu<|zA<|vT ((i:Int)<↑(Aa A))<|vKB<|vA<|vr 2 (ix ↑i ↑(Aa A) (nsD A≠[])) ?_ ⟨(by omega),⟨(by omega),(by exact zV)⟩⟩;refine vp 13 i (nsD A)<|vr 1 (0<Aa (Ah i<|nsD A))<|vs 14 (AQ (Ah i<|nsD A) Uk) (iD ↑(Aq A i 0)) (hd:=by simp(disch:=omega) only[zA6])<|veT<|vA<|vr 3 ((0:Int)<=(↑(Aq A i 0):Int))<|vs 17 (Aj<|Al AK<|AZ (m:Int) ((2:Int)^min (Ax (↑(Aq A i 0):Int)) 32)) (dig (m>>>Aq A i 0)) (hd:=by simp(disch:=omega) only[Bm,zHe])<|vrT 1<|vs 18 (Aj<|Al AK<|A0 AK (↑(AS (Ay 32 (↑(m>>>Aq A i 0):Int)&&&Ay 32 (1:Int))):Int)) (dig<|AS (Ay 32 (↑(m>>>Aq A i 0):Int)&&&Ay 32 (1:Int))) (hd:=by simp(disch:=omega) only[zBw])<|vrT 1<|vs 19 (bD ((↑(AS (Ay 32 (↑(m>>>Aq A i 0):Int)&&&Ay 32 (1:Int))):Int)==(1:Int))) (bD<|CK m<|Aq A i 0) (hd:=by simp(disch:=omega) only[bit_b])<|veT<|zAk (t:=CK m (Aq A i 0)) (by kernel_rfl) (λhc=>?_)<|λhc=>?_;refine zB rfl<|vr 5 (al_ (Bc (intB<|nsD l)=Ab/\Aa (AH<|intB<|nsD l)=Aa l*1/\Aa l=Aa l*1/\A3 (intB<|nsD l)=3/\A4 (intB<|nsD l)=1/\1=1/\0<1/\0<8/\3=3/\(Aa l+1)*8<=140737488355328/\1=1/\AV (AL<|intB<|nsD l)=Ac/\(Ac=Ac\/AW (AL<|intB<|nsD l)=Ab)))<|vs 5 (Af 0 0 (Aa l+1) ((Aa l+1)*1) Ab) (Af 0 0 (Aa l+1) (Aa l+1) Ab)<|vnil<|zD<|vN<|zB rfl<|vr 2 (i6 (↑i+1))<|vnil<|zC ?_;rotate_left;refine zL<|zD<|vN<|zB rfl<|vr 2 (i6 (↑i+1))<|vnil<|zC ?_;rotate_left
  ·have hc2:m.testBit (A.getD i 0)=true:=by assumption
   rw[hc2,if_pos rfl]at h4;refine⟨i+1,l++[i],⟨by omega,h4.symm⟩,by omega,?_⟩;rw[zTd,AR];refine vk 1
  have hc2:m.testBit (A.getD i 0)=false:=by assumption
  rw[hc2,if_neg (by decide),BQ]at h4;refine⟨i+1,l,⟨by omega,h4.symm⟩,by omega,?_⟩;refine vk 1
 refine vAu<|zA<|vF ((i:Int)<(Aa A:Int))<|vZ2<|vAe<|zG<|zBt (True) (Ae (Au (Aa l)<|Ah 0<|AH<|intB<|nsD l)<|Aa l) (Ae (Au (Aa l)<|nsD l)<|Aa l) (.inr rfl) (by simp(disch:=omega) only[A2]) ?_;have e:i=A.length:=by omega
 subst e;rw[AU (by simp)]at h2;rw[h2,zPk _ _ rfl];rfl
theorem pickV_vs(x:List Va)(cols:List Nat)(h:∀v∈x,Vs v):∀v∈zQ x cols,Vs v:=by
 intro v hv;obtain⟨c,_,rfl⟩:=A_.1 hv;rw[AX];cases e:x[c]? with
 |none=>exact⟨by decide,by decide,by decide⟩
 |some u=>exact h u (B_ e)
theorem zTp(x:List Va)(cols:List Nat)(n m:Nat)(hn:x.length=n)(hm:cols.length=m)(hc:∀c∈cols,c<x.length)(hv:∀v∈x,Vs v)(ln:n<=10000:=by omega)(lm:m<=10000:=by omega):Pure Ar 94 [.row (zM x) n, .row (nsD cols) m] [] (strD (idR (zQ x cols))):=by
 have h1:=zH8 x cols n m hn hm (by omega) (by omega) hc;have h2:=rkey_c (zQ x cols) m (by simp[zQ,hm]) lm (pickV_vs x cols hv);refine zJ zCg mixed Tryz.func94 rfl<|vAu<|vA<|vrT 2<|vc (h1)<|ve (0<2/\1<2)<|vA<|vrT 1<|vc (h2)<|veT<|zG<|vret (True)<|.inr rfl
abbrev flC(f:List Nat×List (List Va)):List D:=[.row (nsD f.1) f.1.length, .mfz (f.2.map kyv) (f.2.map λ_=>bD Ab)]
theorem zJ2(f:List Nat×List (List Va)):(flC f).length=2:=rfl
theorem look_b(K:List (List Va))(r:List Va):zLy Ac (bD Ac) (K.map kyv) (K.map λ_=>bD Ab) (kyv r)=bD (decide (r∈K)):=by
 grind [zLy,zEi,List.findIdx?_eq_none_iff,ctD,C1,Bn]
abbrev flB1(a b:D):Bk:=⟨[a,b],203,0,Ac,Ac, .plain⟩
set_option maxHeartbeats 1000000 in
theorem passes_c(fs:List (List Nat×List (List Va)))(n:Nat)(hn:fs.length=n)(hl:n<=1000)(x:List Va)(m:Nat)(hm:x.length=m)(lm:m<=10000)(hv:∀v∈x,Vs v)(hcs:∀f∈fs,f.1.length<=1000/\∀c∈f.1,c<x.length):Pure Ar 96 [.row (fs.flatMap flC) n, .row (zM x) m] [] (bD (fs.all λf=>decide (zQ x f.1∈f.2))):=by
 subst hn;refine zJ zCg mixed Tryz.func96 rfl<|vAu<|zA<|vAe<|zF<|zN (λ(i:Nat)=>fr 22 [(1,Ae (zM x) m),(7,Ae (AB flC fs)<|Aa fs),(8,iD (Aa fs:Int)),(9,iD (i:Int))]) (λ_=>[]) (λi=>fs.length-i) (λi=>i<=fs.length/\(fs.take i).all (λf=>decide (zQ x f.1∈f.2))=Ab) 0 ?_ ?_ ?_
 ·grind
 ·refine vk 0
 rintro i ⟨h1,h2⟩;rcases AG i fs.length with h3|h3
 ·have hf:fs.getD i Ak∈fs:=by rw[AX,AJ h3];exact Bn h3
  have hk:=zTp x (fs.getD i Ak).1 m _ hm rfl (hcs _ hf).2 hv (ln:=lm) (lm:=by have:=(hcs _ hf).1;omega);have hs:=all_step (λf:List Nat×List (List Va)=>decide (zQ x f.1∈f.2)) Ak fs i h3;rw[h2,Bool.true_and]at hs;have hg:=zDo zJ2 fs i h3;have hle:=zHc zJ2 fs i h3;have hne:=zEk zJ2 (by decide) fs;generalize hfe:fs.getD i Ak=f at*;focus
   refine vAu (zA (vT ((i:Int)<↑(Aa fs)) (vKB (vA (vr 2 (ix ↑i ↑(Aa fs) (AB flC fs≠[])/\2<=Aa (Ah (i*2) (AB flC fs))) (vs 12 (Az (Au 2 (Ah (i*2) (AB flC fs)))) (Az (flC f)) (ve (Ac=Ac/\Ab=Ab/\2=2/\2<=2) (zA (vd [0,2,3,1,4,5,6,7] (vr 5 (True/\True/\0<1/\0<2) (vc hk (vwh 1 [] [] (zAb (Bh (Bi Bj "string" 1 16 Ab 8 8 (Am (AN (AY #[]))) Ab #[])) (AN (bs (idR (zQ x (An f)))))=Ab/\BY (Ad kyv (AD f)) (zAb (Bh (Bi Bj "string" 1 16 Ab 8 8 (Am (AN (AY #[]))) Ab #[])))=Ab) ?_ ?_))))))))))));rotate_left;refine vs 19 (zLy Ac (bD Ac) (Ad kyv (AD f)) (Ad (λ(x:List Va)=>bD Ab) (AD f)) (AN (bs (idR (zQ x (An f)))))) (bD (decide (zQ x (An f)∈AD f))) (hd:=by simp(disch:=omega) only[look_b]) (veT (zAk (t:=!decide (zQ x (An f)∈AD f)) (by kernel_rfl) (λhc=>?_) (λhc=>?_)));simp only[Cq]at hc;refine vAe (zG (zH (zE (zE (zH (zE (vre (True) (Aj (BS Ac)) (.inr rfl) ?_)))))));rotate_left;simp only[CV]at hc;refine zL (zD (vN (zB rfl (vr 2 (i6 (↑i+1)) (vnil (zC ?_))))));rotate_left
  ·exact⟨rfl,zDl _⟩
  ·grind
  refine⟨i+1,⟨by omega,?_⟩,by omega,?_⟩
  ·rw[hs];simpa using hc
  refine vk 0
 refine vAu<|zA<|vF ((i:Int)<(Aa fs:Int))<|vZ2<|vAe<|zG<|vre (True) (Aj<|BS Ab) (.inr rfl) ?_;grind
def addK(K:List (List Va))(r:List Va):List (List Va):=if r∈K then K else K++[r]
def allK(L:List (List Va)):List (List Va):=L.foldl addK []
theorem zLd(L:List (List Va))(r:List Va):r∈allK L↔r∈L:=by
 have key:∀(L K:List (List Va)),r∈L.foldl addK K↔r∈K\/r∈L:=by
  intro L;induction L<;>grind [addK,Bx]
 rw[allK,key];simp
theorem zX8(L:List (List Va))(i:Nat)(h:i<L.length):allK (L.take (i+1))=addK (allK (L.take i)) (L.getD i []):=by
 grind [BL,allK,AJ]
abbrev mapB(K:List (List Va)):Bk:=⟨K.map λ_=>bD Ab,201,0,Ab,Ac, .map (K.map kyv)⟩
theorem mput_b(K:List (List Va))(r:List Va):mput (mapB K) (K.map kyv) (kyv r) (bD Ab)=mapB (addK K r):=by
 unfold mput addK;rw[zEi];cases e:K.findIdx? λs=>decide (r=s)with
 |none=>
  grind
 | some i=>
  rw[C1]at e;obtain⟨h,h1,_⟩:=e;have:r∈K:=by
   grind
  rw[if_pos this];simp only[mapB];congr 1;apply BX (by simp);grind
abbrev q10_(x0:List Nat):=Ae (nsD x0) (Aa x0)
set_option maxHeartbeats 1000000 in
theorem filterOf_c(A U:List Nat)(a u nv:Nat)(ha:A.length=a)(hu:U.length=u)(la:a<=32)(lu:u<=32)(hA:∀v∈A,v<32)(hU:∀v∈U,v<32)(rows:List (List Va))(n:Nat)(hn:rows.length=n)(ln:n<=1000000)(hr:∀r∈rows,r.length=a)(hv:∀r∈rows,∀v∈r,Vs v)(y:List D)(m:Nat)(hm:m<4294967296):
  Pure Ar 92 [.agg [.row (nsD A) a, .row (rows.map rowV) n, .row y nv], .row (nsD U) u,u32D m] [] (.agg (flC (zBo (λv=>(msk A&&&m).testBit v) U,allK (rows.map λr=>zQ r (zBo (λv=>(msk A&&&m).testBit v) A))))):=by
 subst hn ha hu;have hma:=zCc hA;have h1:=zRt A _ rfl (by omega) hA (rows.map rowV) y rows.length nv;have h5:=zX7 (b:=m) hma;have h2:=zD7 U U _ rfl hU _ h5;have h3:=zD7 A A _ rfl hA _ h5;refine zJ zCg mixed Tryz.func92 rfl<|vAu<|vA<|vr 1 (3<=3)<|vc (h1)<|vrT 2<|vs 15 (Aj<|Al AK<|A0 AK (↑(AS (Ay 32 (↑(msk A):Int)&&&Ay 32 (m:Int))):Int)) (dig (msk A&&&m)) (hd:=by simp(disch:=omega) only[bv_and,zBw])<|veT<|vA<|vrT 2<|vc (h2)<|ve (True/\((1=1/\1<=2/\1=1/\2<=2/\True)/\Ab=Ab)/\Ac=Ac/\Ab=Ab/\2=2/\2<=2)<|vA<|vr 3 (ar_)<|vc (h3)<|veT<|zA<|vA<|ve (as_)<|zF ?_;obtain⟨cA,hcA⟩:∃cA,cA=zBo (λv=>(msk A&&&m).testBit v) A:=⟨_,rfl⟩;obtain⟨cU,hcU⟩:∃cU,cU=zBo (λv=>(msk A&&&m).testBit v) U:=⟨_,rfl⟩;have hcl:∀c∈cA,c<A.length:=λc h=>by
  rw[hcA]at h;simpa using(BD.1 h).1
 have hcn:cA.length<=1000:=by rw[hcA];exact AT (Bt _ _) (by simp;omega)
 rw[<-hcA,<-hcU];refine zN (λ(i:Nat)=>fr 39 [(6,Ag 1 0),(8,Ag 3 0),(9,(q10_ cA)),(26,Ae (Ad rowV rows)<|Aa rows),(27,iD<|Aa rows),(28,iD i)]) (λi=>[fB1 (.row (nsD A) A.length) (.row (rows.map rowV) rows.length)<|.row y nv,flB1 nl<|.val<|.map AE,mapB<|allK<|(rows.map λr=>zQ r cA).take i,flB1 (.row (nsD cU) cU.length)<|.mref 2]) (λi=>rows.length-i) (λi=>i<=rows.length) 0 ?_ ?_ ?_
 ·omega
 ·refine vk 4
 rintro i h6;rcases AG i rows.length with h7|h7
 ·have hd:((rows.map rowV).drop i).headD .unk=rowV (rows.getD i []):=zCe rowV rows [] i h7;have hm:rows.getD i []∈rows:=by rw[AX,AJ h7];exact Bn h7
  have hk:=zTp (rows.getD i []) cA _ _ rfl rfl (by rw[hr _ hm];exact hcl) (hv _ hm) (ln:=by rw[hr _ hm];omega);have hs:=zX8 (rows.map λr=>zQ r cA) i (by simpa using h7);rw[show(rows.map λr=>zQ r cA).getD i []=zQ (rows.getD i []) cA by simp[AX,h7]]at hs;generalize allK ((rows.map λr=>zQ r cA).take i)=K at*;focus
   refine vAu (zA (vT ((i:Int)<↑(Aa rows)) (vKB (vA (vr 1 (ix ↑i ↑(Aa rows) (Ad rowV rows≠[])) ?_ ⟨(by omega),⟨(by omega),(by exact zV)⟩⟩)))));refine vp 30 i (Ad rowV rows) (vr 1 (0<Aa (Ah i (Ad rowV rows))) (vsh 31 hd (veT (vd [0,2,3,1,4,5] (vr 4 (True/\0<1) (vc hk (vwh 1 [] [] (Bk.fz (mapB K)=Ac/\zAb (Bh (Bi Bj "string" 1 16 Ab 8 8 (Am (AN (AY #[]))) Ab #[])) (AN (bs (idR (zQ (Aq rows i []) cA))))=Ab/\BY (Ad kyv K) (zAb (Bh (Bi Bj "string" 1 16 Ab 8 8 (Am (AN (AY #[]))) Ab #[])))=Ab/\¬2∈[]) ?_ ?_)))))));rotate_left;refine vnil (zD (vN (zB rfl (vr 2 (i6 (↑i+1)) (vnil (zC ?_))))));rotate_left
  ·exact⟨rfl,rfl,zDl _,by simp⟩
  refine⟨i+1,by omega,by omega,?_⟩;rw[hs];have hmp:=mput_b K (zQ (rows.getD i []) cA);refine wkn (fr 39 [(6,Ag 1 0),(8,Ag 3 0),(9,(q10_ cA)),(11,Ae (zM (Aq rows i [])) (Aa (Aq rows i []))),(26,Ae (Ad rowV rows) (Aa rows)),(27,iD (Aa rows)),(28,iD ↑(i+1)),(32,Ag 3 1),(33,D.mref 2),(34,Ae (zM (Aq rows i [])) (Aa (Aq rows i []))),(35,(q10_ cA)),(36,Aj (AN (bs (idR (zQ (Aq rows i []) cA))))),(37,iD ↑(i+1))]) [fB1 ((q10_ A)) (Ae (Ad rowV rows) (Aa rows)) (Ae y nv),flB1 nl (Aj (Value.map AE)),mput (mapB K) (Ad kyv K) (AN (bs (idR (zQ (Aq rows i []) cA)))) (bD Ab),flB1 ((q10_ cU)) (D.mref 2)] ?_;rw[hmp];refine vk 4
 refine vAu<|zA<|vF ((i:Int)<(Aa rows:Int))<|vZ2<|vA<|ve (2<=2/\Ac=Ac/\Ab=Ab/\2=2/\2<=2)<|zG<|vre (2<=2) (Az [Ae (nsD cU)<|Aa cU,D.mfz (Ad kyv<|allK<|Au i<|Ad (λ(r:List Va)=>zQ r cA) rows)<|Ad (λ(x:List Va)=>bD Ab)<|allK<|Au i<|Ad (λ(r:List Va)=>zQ r cA) rows]) (.inr rfl) ?_;grind [AU]
end
variable{e:Bk}{wh:Bool}{ks:List Nat}
section
open Go.RowKit Go.Sort Go.Lib Go.Shelf
theorem pdq_ints{lim:Nat}{zs:List Nat}{cf:Nat->Nat->Int}{g:FuncId}{caps caps':List D}(he:st[k]?=Am e)(ha:e.arr=Ab)(hkd:e.kd= .plain)(hf:e.fz=Ac)(hc:e.cells=nsD zs)(hn:zs.length=n)(hb:n<=1000000)(hpos:0<n)(hlim:lim<4611686018427387904)
  (hfr:frz Ab st zAz (.clo (.func g) [] caps)=Am (.clo (.func g) [] caps',ks))(hnk:k∉ks)(eg:∀args w,(callFunc g args).run Ar w= .ok (.enter g args) w)
  (hO:On zs cf)(hcmp:∀x∈zs,∀y∈zs,Pure Ar g (iD x::iD y::caps') [] (iD (cf x y))):
  Acts Ar 164 [.osl k 0 n n wh, .val (.int .i64 (0:Nat)), .val (.int .i64 n), .val (.int .i64 lim), .clo (.func g) [] caps] st [] (.val (.tuple #[])) ((zA3 st ks).set k {e with cells:=nsD (zCy cf zs)}):=by
 have hsl:(zCy cf zs).length=n:=by rw[(zB5 cf zs).length_eq,hn]
 refine zMd (us3:=[.int .i64 0, .int .i64 n, .int .i64 lim]) he ha hkd hf (by rw[hc,AM,hn]) (by rw[AM,hsl]) hpos hfr hnk ?_;intro I b c w us cb hi hgl hno hcb hr hcur hcell hfz hcap;rw[hc]at hr;let α:={z//z∈zs};let xs:List α:=zs.attach;let enc:α->Value:=λx=> .int .i64 (x.1:Nat);have hat:xs.map (·.1)=zs:=List.attach_map_subtype_val zs;have hxl:xs.length=n:=by rw[<-hn,<-AM (f:=λz:α=>z.1),hat]
 have hus:us=xs.map enc:=by
  have:∀(zs:List Nat)(us:List Value),RelL I w noB (nsD zs) us->us=zs.map λz=>Al .i64 (z:Nat):=by
   intro zs;induction zs with
   |nil=>intro us h;simp only[BA,RelL]at h;rw[h];rfl
   |cons z zs ih=>
    intro us h;simp only[A6,RelL,Rel]at h;grind
  rw[this zs us hr];conv=>lhs;rw[<-hat,BM]
  rfl
 obtain⟨x0,hx0⟩:∃x0,xs[0]?=Am x0:=⟨xs[0]'(by omega),AJ (by omega)⟩
 haveI:Inhabited α:=⟨x0⟩;have hH:Holds enc w b 0 xs.toArray:=λj hj=>by
  grind
 obtain⟨cur,t,hcur⟩:=hcur;have hblk:b<w.heap.size:=by
  grind
 have hone:OneCell enc:=λx=>rfl;have hworld:∀(m:Nat)(os:Array Obj)(ys:List α),ys.length=n->sortWorld enc w b 0 m ys.toArray os=grow ((w.drewN m).setCells b 0 (ys.map enc)) os:=λm os ys hy=>by
  unfold sortWorld;rw[putRow_eq_setCells enc w b 0 xs.toArray ys m hH (by simp[hy,hxl])]
 have hfix:∀(m:Nat)(os:Array Obj)(dk:Array α),dk.size=n->Fix I w I (sortWorld enc w b 0 m dk os)/\w.heap.size<=(sortWorld enc w b 0 m dk os).heap.size:=λm os dk hd=>by
  have e1:=hworld m os dk.toList (by simpa using hd);simp only[CW]at e1;rw[e1];obtain⟨s1,s2,s3,s4,s5,s6⟩:=zDg b t (dk.toList.map enc) 0 (w.drewN m) cur.toList (by simpa using hcur);refine⟨λb' o' hb'=>?_,?_⟩
  ·have hne:b'≠b:=λe=>hno o' (e▸hb');have hlt:=hi b' o' hb';refine⟨hb',λv hv=>?_,λks vs hm=>?_⟩
   ·simp only[World.cell?]at hv⊢;rw[zC0 _ os (by rw[s3];exact hlt),s2 b' hne];exact hv
   refine hm.of_heap ?_;rw[zC0 _ os (by rw[s3];exact hlt),s2 b' hne];rfl
  simp_all
 have hcmp:CmpLays1 Ar g cb.toArray enc (λx y:α=>cf x.1 y.1) b 0 xs.toArray.size w:=by
  intro m os dk hd x y;have hd':dk.size=n:=by simpa[hxl]using hd
  obtain⟨hfx,hsz⟩:=hfix m os dk hd';have hr2:RelT I (sortWorld enc w b 0 m dk os) noB (iD (x.1:Nat)::iD (y.1:Nat)::caps') (enc x::enc y::cb):=by
   simp only[RelT,Rel];exact⟨_,_,rfl,rfl,_,_,rfl,rfl,RelT.mono hfx noB noB (BeLe.refl _) _ _ hcb⟩
  have e1:(#[enc x,enc y]++cb.toArray)=(enc x::enc y::cb).toArray:=by apply Array.ext';simp
  rw[e1];refine(hcmp x.1 x.2 y.1 y.2 I _ _ hr2 (λb o h=>Nat.lt_of_lt_of_le (hi b o h) hsz) (hgl.mono hfx)).mono ?_;rintro e' w' ⟨v,I',γ,rfl,hx,_,_,_,_,_,_,_,_,hv,_⟩;simp only[Rel]at hv;grind [zTy]
 have hsz:xs.toArray.size=n:=by simp[hxl]
 have main:=Tryz.pdqsortCmpFunc_all_f164 enc (λx y:α=>cf x.1 y.1) g cb.toArray hO.swo b 0 c xs.toArray w eg hcmp ⟨hone,hH,hblk⟩ (n+1) 0 n lim xs.toArray w (by omega) rfl (SW.start hH) (BJ _) (by omega) (by omega) hlim (.inl rfl);rw[hsz]at main;refine main.mono ?_;rintro x w' ⟨rfl,q,os,rfl⟩;obtain⟨hp,hso⟩:=pdq_sorts (ltOf λx y:α=>cf x.1 y.1) hO.swo xs.toArray 0 n lim Ab Ab (BJ _) (by omega) (.inl rfl);generalize pdq (ltOf λx y:α=>cf x.1 y.1) xs.toArray 0 n lim Ab Ab=d' at*;have hd':d'.size=n:=by rw[hp.1,hsz]
 have hperm:d'.toList.Perm xs:=by
  have:=hp.2.2
  grind [Array.extract_size]
 have hl2:d'.toList.map (·.1)=zCy cf zs:=by
  refine hO.uniq ?_ ?_
  ·grind
  rw[List.pairwise_map,List.pairwise_iff_getElem];intro i j hi' hj' hij;have hi2:i<d'.size:=by simpa using hi'
  have hj2:j<d'.size:=by simpa using hj'
  have:=hso i j (BJ _) hij (by omega)
  rw[getElem!_pos d' j hj2,getElem!_pos d' i hi2]at this;simpa[ltOf]using this
 refine⟨rfl,d'.toList.map enc,q,os,?_,?_⟩
 ·simp_all
 rw[<-hl2];have:∀(l:List α),RelL I w noB (nsD (l.map (·.1))) (l.map enc):=by
  intro l;induction l with
  |nil=>simp only[BA,RelL]
  |cons x l ih=>
   simp only[A6,RelL,Rel];exact⟨_,_,rfl,rfl,rfl,by simpa using ih⟩
 exact this _
end
variable{α:Type}
section
open Go.RowKit
attribute [local irreducible] seqW awp zY zZ zR Weak updS zAe retL Pure Acts rP setP setQ cP nP fr
set_option maxRecDepth 4096
theorem blen_c(n:Nat)(hn:n<18446744073709551616):Pure Ar 152 [.val (.int .u64 n)] [] (.val (.int .i64 (Cs n))):=
 zC6 (us:=[.int .u64 n]) (λw=>(Tryz.bits_Len n w (by omega) (by omega)).mono λe w' h=>⟨by rw[h.1];simp,h.2.symm⟩)
theorem zAl(l:List (List Va))(k:Nat)(h:k<l.length):((l.map rowV).drop k).headD .unk=rowV (l.getD k []):=zCe rowV l [] k h
def Ts:Par:=⟨λf=>f==143||f==164||f==178,λ_ _=>AE,λk=>decide (k<3),λ_=>Ac,λ_=>Ac⟩
theorem zQ3:zBg Ar Ts:=by intro t n f h;cases h
theorem zW2(h:st.length=3):∀k,k<st.length->Ts.keep k=true:=λk hk=>by
 show decide (k<3)=Ab;rw[decide_eq_true_eq];omega
theorem keep3F:∀k,3<=k->Ts.keep k=false:=λk hk=>by
 show decide (k<3)=Ac;rw[decide_eq_false_iff_not];omega
theorem less_c(rows:List (List Va))(n:Nat)(x y:D)(hn:rows.length=n)(i j:Nat)(hi:i<n)(hj:j<n)(hl:∀r∈rows,r.length<=1000000):Pure Ar 144 [iD i,iD j, .ptr [x, .row (rows.map rowV) n,y]] [] (iD (zA7 rows i j)):=by
 subst hn;have g:∀i,i<rows.length->(rows.getD i []).length<=1000000:=λi hi=>by
  grind
 have g1:=g i hi;have g2:=g j hj;refine zJ zQ3 mixed Tryz.func144 rfl<|vAu<|zA<|vd [0,2,5,7,1,3,4,6,8,9,10,11]<|vr 6 (True/\True/\0<2/\ix (i:Int) (Aa rows:Int) (Ad rowV rows≠[])) (vp 9 (i) (Ad rowV rows)<|vr 1 (0<Aa (Ah i<|Ad rowV rows))<|vs 10 (AQ (Ah i<|Ad rowV rows) Uk) (rowV<|Aq rows i []) (hd:=by simp(disch:=omega) only[zAl])<|vr 2 (0<2/\ix (j:Int) (Aa rows:Int) (Ad rowV rows≠[])) (vp 14 (j) (Ad rowV rows)<|vr 1 (0<Aa (Ah j<|Ad rowV rows))<|vs 15 (AQ (Ah j<|Ad rowV rows) Uk) (rowV<|Aq rows j []) (hd:=by simp(disch:=omega) only[zAl]) ?_) ⟨(by omega),⟨(by omega),⟨(by omega),(by exact zV)⟩⟩⟩) ⟨trivial,trivial,(by omega),⟨(by omega),⟨(by omega),(by exact zV)⟩⟩⟩;refine vca [Ae (zM<|Aq rows i [])<|Aa<|Aq rows i [],Ae (zM<|Aq rows j [])<|Aa<|Aq rows j []] (by exact zDr _ _ _ _ rfl rfl (by omega) (by omega))<|veT<|zG<|vret (True)<|.inr rfl
theorem insertion0(b0 b1 b2:Bk)(c:List D):Acts Ar 178 [.osl 2 0 0 0 Ab, .val (.int .i64 0), .val (.int .i64 0), .clo (.func 144) [] [.own 0 0]] [b0,b1,b2] [] (.tup []) [b0,b1,b2]:=by
 refine zS zQ3 mixed Tryz.func178 rfl (zW2 rfl)<|vAs<|ve (i6 ((0:Int)+(1:Int)))<|zF<|zN (λ(i:Nat)=>fr 53 [(0,Af 2 0 0 0 Ab),(1,iD 0),(2,iD 0),(3,AP (Fn.func (144:FuncId)) [] [Ag 0 0]),(8,iD 1)]) (λ(i:Nat)=>[b0,b1,b2]) (λ(i:Nat)=>0) (λ(i:Nat)=>True) 0 ?_ ?_ ?_
 ·trivial
 ·refine vk 3 ?_;exact keep3F
 rintro i-
 refine zA<|vAu<|vf<|vY2<|zT (True) [] (.inl rfl) ?_;exact⟨by kernel_rfl,by kernel_rfl⟩
theorem pdq0(b0 b1 b2:Bk)(c:List D)(lim:Int):Acts Ar 164 [.osl 2 0 0 0 Ab, .val (.int .i64 0), .val (.int .i64 0), .val (.int .i64 lim), .clo (.func 144) [] [.own 0 0]] [b0,b1,b2] [] (.tup []) [b0,b1,b2]:=by
 refine zS zQ3 mixed Tryz.func164 rfl (zW2 rfl)<|vAu<|vAe<|zF<|zN (λ(i:Nat)=>fr 148 [(0,Af 2 0 0 0 Ab),(1,iD 0),(2,iD 0),(3,iD lim),(4,AP (Fn.func (144:FuncId)) [] [Ag 0 0]),(10,bD Ab),(11,bD Ab)]) (λ(i:Nat)=>[b0,b1,b2]) (λ(i:Nat)=>0) (λ(i:Nat)=>True) 0 ?_ ?_ ?_
 ·trivial
 ·refine vk 3 ?_;exact keep3F
 rintro i-
 refine zF<|vAs<|ve (i6 ((0:Int)-(0:Int)))<|zA<|vAe<|vt<|vA<|vrT 4<|vnt [b0,b1,b2]<|zAi [] [] [Af 2 0 0 0 Ab,iD 0,iD 0,AP (Fn.func 144) [] [Ag 0 0]] [Af 2 0 0 0 Ab,iD 0,iD 0,AP (Fn.func 144) [] [Ag 0 0]] (Bb _) (by exact insertion0 _ _ _ []) ?_;refine v0s<|veT<|zG<|zE<|zH<|zE<|zH ?_;refine zT (True) [] (.inr rfl) ?_;exact⟨by kernel_rfl,by kernel_rfl⟩
set_option maxHeartbeats 1000000 in
theorem sortfunc_c(A:List D)(a:Nat)(ys:List D)(m:Nat)(rows:List (List Va))(n:Nat)(b1:Bk)(hn:rows.length=n)(hb:n<=1000000)(hl:∀r∈rows,r.length<=1000000)(hd:rows.Nodup):Acts Ar 143 [.osl 2 0 n n Ab, .clo (.func 144) [] [.own 0 0]] [fB1 (.row A a) (.row (rows.map rowV) n) (.row ys m),b1,intB (nsD (As n))] [] (.tup []) [⟨[.row A a, .row (rows.map rowV) n, .row ys m],90,0,Ac,if n=0 then Ac else Ab, .plain⟩,b1,intB (nsD (zCy (zA7 rows) (As n)))]:=by
 have hlim:Cs n<4611686018427387904:=Nat.lt_of_le_of_lt (Lib.bitLen_le n 62 (by omega) (by omega)) (by omega);rcases CR n with h0|hpos
 ·subst h0;refine zS zQ3 mixed Tryz.func143 rfl (zW2 rfl)<|vAu<|zB rfl<|vr 4 (u6 (↑(0:Nat):Int))<|vc (blen_c 0 (by omega))<|vrT 1<|vnt [fB1 (Ae A a) (Ae (Ad rowV rows) 0)<|Ae ys m,b1,intB<|nsD<|As 0]<|zAi [] [] [Af 2 0 0 0 Ab,iD 0,iD (↑(0:Nat):Int),iD (↑(0:Nat):Int),AP (Fn.func 144) [] [Ag 0 0]] [Af 2 0 0 0 Ab,iD 0,iD (↑(0:Nat):Int),iD (↑(0:Nat):Int),AP (Fn.func 144) [] [Ag 0 0]] (Bb _) (by exact pdq0 _ _ _ [] _) ?_;refine vnil<|zT (True) [] (.inl rfl) ?_;exact⟨rfl,by simp[zCy]⟩
 have ho:=zYv hd;rw[hn]at ho;have hp:=pdq_ints (st:=[fB1 (.row A a) (.row (rows.map rowV) n) (.row ys m),b1,intB (nsD (As n))]) (k:=2) (lim:=Cs n) (wh:=Ab) (cf:=zA7 rows) (g:=144) (caps:=[.own 0 0]) (caps':=[.ptr [.row A a, .row (rows.map rowV) n, .row ys m]]) (ks:=[0]) rfl rfl rfl rfl rfl (by simp) hb hpos hlim rfl (by decide) (enters_of Tryz.func144 (by kernel_rfl) rfl) ho
  (λx hx y hy=>less_c rows n _ _ hn x y (by simpa using hx) (by simpa using hy) hl)
 refine zS zQ3 mixed Tryz.func143 rfl (zW2 rfl)<|vAu<|zB rfl<|vr 4 (u6 (n:Int))<|vc (blen_c n (by omega))<|vrT 1<|vnt [fB1 (Ae A a) (Ae (Ad rowV rows) n)<|Ae ys m,b1,intB<|nsD<|As n]<|zAi [] [] [Af 2 0 n n Ab,iD 0,iD (n:Int),iD (↑(Cs n):Int),AP (Fn.func 144) [] [Ag 0 0]] [Af 2 0 n n Ab,iD 0,iD (n:Int),iD (↑(Cs n):Int),AP (Fn.func 144) [] [Ag 0 0]] (Bb _) (by exact hp) ?_;refine vnil<|zT (True) [] (.inl rfl) ?_;refine⟨rfl,?_⟩;first|(rw[if_neg (by omega)];done)|(rw[if_neg (by omega)];rfl)
theorem repL_ns(n:Nat):repL n [.val (.int .i64 0)]=nsD (AF n 0):=by
 induction n with
 |zero=>rfl
 |succ n ih=>simp only[repL,Cl,List.flatten_cons]at ih⊢;rw[ih];rfl
theorem set_ns(l:List Nat)(i k:Nat):(nsD l).set i (iD k)=nsD (l.set i k):=by simp
abbrev rowB(l:List D):Bk:=⟨l,110,1,Ab,Ac, .plain⟩
abbrev natB(l:List D):Bk:=⟨l,50,1,Ab,Ac, .plain⟩
def Tq:Par:=⟨λf=>f==143,λ_ _=>AE,λ_=>Ac,λ_=>Ac,λ_=>Ac⟩
theorem Tq_ok:zBg Ar Tq:=by intro t n f h;cases h
set_option maxHeartbeats 2000000 in
theorem sortedW(A:List Nat)(a:Nat)(rows:List (List Va))(vals:List Nat)(n:Nat)(hn:rows.length=n)(hm:vals.length=n)(hb:n<=1000000)(hl:∀r∈rows,r.length<=1000000)(hd:rows.Nodup):
  Pure Ar 97 [.agg [.row (nsD A) a, .row (rows.map rowV) n, .row (vals.map natD) n]] [] (.agg [.row (nsD A) a, .row (((zCy (zA7 rows) (As n)).map λi=>rows.getD i []).map rowV) n, .row (((zCy (zA7 rows) (As n)).map λi=>vals.getD i 0).map natD) n]):=by
 have hs:=sortfunc_c (nsD A) a (vals.map natD) n rows n (fB1 nl nl nl) hn hb hl hd;refine zJ Tq_ok mixed Tryz.func97 rfl<|vAu<|vA<|vr 5 (True/\0<2/\(0:Int)<=(n:Int)/\(n:Int)<=(n:Int)/\(↑(8:Nat):Int)*(n:Int)<=(281474976710656:Int)/\(n:Int)<=(281474976710656:Int)/\0<1/\1=1)<|vs 3 (Af 2 0 (Ax (n:Int)) (Ax (n:Int)*1) Ab) (Af 2 0 n n Ab)<|veT<|zA<|vAe<|zF<|zBp (λ(i:Nat)(c:List Nat)=>fr 56 [(1,Ag 0 0),(2,Ag 1 0),(3,Af 2 0 n n Ab),(13,iD (n:Int)),(14,iD (i:Int))]) (λ(i:Nat)(c:List Nat)=>[fB1 (.row (nsD A) a) (.row (rows.map rowV) n)<|.row (vals.map natD) n,fB1 nl nl nl,intB<|nsD c]) (λi c=>n-i) (λ(i:Nat)(c:List Nat)=>i<=n/\c.length=n/\c.take i=(As n).take i) 0 (AF n 0) ?_ ?_ ?_
 ·grind
 ·refine wkn (fr 56 [(1,Ag 0 0),(2,Ag 1 0),(3,Af 2 0 n n Ab),(13,iD (↑n:Int)),(14,iD 0)]) [Ao [Ae (nsD A) a,Ae (Ad rowV rows) n,Ae (Ad natD vals) n] 90 0 Ac Ac Ap,Ao [nl,nl,nl] 90 0 Ac Ac Ap,Ao (repL n [iD 0]) 3 1 Ab Ac (kdOf Ac)] (zH1 [(1,1),(2,1),(3,1),(13,1),(14,1)] (Ag 0 0=Ag 0 0/\Ag 1 0=Ag 1 0/\Af 2 0 n n Ab=Af 2 0 n n Ab/\iD (↑n:Int)=iD (↑n:Int)/\iD 0=iD (↑(0:Nat):Int)) 3 [] (by kernel_rfl) ⟨rfl,rfl,rfl,rfl,(by kernel_rfl)⟩ (by kernel_rfl) (λ_ _=>rfl) (by simp[updB,repL_ns,zEr]))
 rintro i c ⟨h1,h2,h3⟩;rcases AG i n with h4|h4
 ·refine vAu<|zA<|vT ((i:Int)<(n:Int))<|vKB<|vAe<|zB rfl<|vr 4 ((0:Int)<=(i:Int)/\(i:Int)<(n:Int))<|vo 20 2 (i)<|vr 1 (Bk.fz (intB<|nsD c)=Ac/\Ab=Ab/\1=1/\i+1<=Aa (AH<|intB<|nsD c)/\¬2∈[])<|vnil<|zD<|vN<|zB rfl<|vr 2 (i6 ((i:Int)+(1:Int)))<|vnil<|zC<|⟨i+1,c.set i i,⟨by omega,by simpa using h2,?_⟩,by omega,?_⟩
  ·have:=zSs 0 (a:=c) (b:=As n) (i:=i) (by omega) (by simpa using h4) h3
   grind
  rw[<-set_ns];refine vk 3
 have e:c=As n:=by
  grind
 subst e;refine vAu<|zA<|vF ((i:Int)<↑n)<|vZ2<|vA<|vrT 2<|vnt [fB1 (Ae (nsD A) a) (Ae (Ad rowV rows) n)<|Ae (Ad natD vals) n,fB1 nl nl nl,intB<|nsD<|As n]<|zAi [] [] [Af 2 0 n n Ab,AP (Fn.func 144) [] [Ag 0 0]] [Af 2 0 n n Ab,AP (Fn.func 144) [] [Ag 0 0]] (Bb _) (by exact hs) ?_;refine v0s<|veT<|vA<|vr 5 (True/\0<3/\((1=1/\1<=3/\True)/\Ab=Ab)/\Ac=Ac/\Ab=Ab/\3=3/\3<=3)<|vnil<|zC<|vnn (fr 56 [(1,Ag 0 0),(2,Ag 1 0),(3,Af 2 0 n n Ab),(5,Ag 3 0),(25,Ag 0 0),(26,Ae (nsD A) a),(27,Az [Ae (nsD A) a,nl,nl])]) [Ao [Ae (nsD A) a,Ae (Ad rowV rows) n,Ae (Ad natD vals) n] 90 0 Ac (if n=0 then Ac else Ab) Ap,Ao [nl,nl,nl] 90 0 Ac Ac Ap,Ao (nsD<|zCy (zA7 rows)<|As n) 3 1 Ab Ac Ap,Ao [Ae (nsD A) a,nl,nl] 90 0 Ac Ac Ap]<|zBh ((BZ (j:=3) (i:=1) (rowB []) rfl rfl rfl rfl).trans<|BZ (j:=3) (i:=2) (natB []) rfl rfl rfl rfl) ?_;refine zA<|vAu<|zF ?_;have hol:(zCy (zA7 rows) (As n)).length=n:=by rw[(zB5 _ _).length_eq];simp
 have hom:∀i∈zCy (zA7 rows) (As n),i<n:=λi h=>by
  grind [zB5]
 generalize zCy (zA7 rows) (As n)=od at*;refine zN (λ(t:Nat)=>fr 56 [(1,Ag 0 0),(2,Ag 1 0),(5,Ag 3 0),(28,Af 2 0 n n Ab),(29,iD n),(30,iD t)]) (λ(t:Nat)=>[⟨[.row (nsD A) a,.row (rows.map rowV) n,.row (vals.map natD) n],90,0,Ac,if n=0 then Ac else Ab,.plain⟩,fB1 nl nl nl,intB<|nsD od,fB1 (.row (nsD A) a) (.osl 4 0 t t Ab)<|.osl 5 0 t t Ab,rowB<|((od.take t).map λi=>rows.getD i []).map rowV,natB<|((od.take t).map λi=>vals.getD i 0).map natD]) (λt=>n-t) (λ(t:Nat)=>t<=n) 0 ?_ ?_ ?_
 ·omega
 ·refine vk 6
 rintro t h5;rcases AG t n with h6|h6
 ·have hi:=hom _ (zDy od t (by omega));have e0:od.take (t+1)=od.take t++[od.getD t 0]:=by
   simp_all
  have e1:((od.take (t+1)).map λi=>rows.getD i []).map rowV=((od.take t).map λi=>rows.getD i []).map rowV++[rowV (rows.getD (od.getD t 0) [])]:=by rw[e0];simp
  have e2:((od.take (t+1)).map λi=>vals.getD i 0).map natD=((od.take t).map λi=>vals.getD i 0).map natD++[natD (vals.getD (od.getD t 0) 0)]:=by rw[e0];simp
  focus
   refine vAu<|zA<|vT ((t:Int)<↑n)<|vKB<|vA<|vr 1 ((0:Int)<=(t:Int)/\(t:Int)<↑n)<|vo 32 2 t<|vr 1 (0<Aa (Ah t<|AH<|intB<|nsD od))<|vs 33 (AQ (Ah t<|AH<|intB<|nsD od) Uk) (iD ↑(Aq od t 0)) (hd:=by simp(disch:=omega) only[zA6])<|veT<|zA<|vd [0,2,4,1,3,5,6,7,8,9,10]<|vr 6 (True/\True/\0<2/\0<2/\ix ↑(Aq od t 0) ↑n (Ad rowV rows≠[])) (vp 39 (Aq od t 0) (Ad rowV rows) ?_) ⟨trivial,trivial,(by omega),(by omega),⟨(by omega),⟨(by omega),(by exact zV)⟩⟩⟩;refine vwh 1 [] [] (0<Aa (Ah (Aq od t 0)<|Ad rowV rows)) ?_ ?_;rotate_left;refine vs 40 (AQ (Ah (Aq od t 0)<|Ad rowV rows) Uk) (rowV<|Aq rows (Aq od t 0) []) (hd:=by simp(disch:=omega) only[zAl])<|vr 4 (al_ ((Bc (rowB<|Ad rowV<|Ad (λ(i:Nat)=>Aq rows i [])<|Au t od)=Ab/\Aa (AH<|rowB<|Ad rowV<|Ad (λ(i:Nat)=>Aq rows i [])<|Au t od)=t*1/\t=t*1/\A3 (rowB<|Ad rowV<|Ad (λ(i:Nat)=>Aq rows i [])<|Au t od)=110/\A4 (rowB<|Ad rowV<|Ad (λ(i:Nat)=>Aq rows i [])<|Au t od)=1/\1=1/\0<1/\0<24/\110=110/\(t+1)*24<=140737488355328/\1=1/\AV (AL<|rowB<|Ad rowV<|Ad (λ(i:Nat)=>Aq rows i [])<|Au t od)=Ac/\(Ac=Ac\/AW (AL<|rowB<|Ad rowV<|Ad (λ(i:Nat)=>Aq rows i [])<|Au t od)=Ab))/\ap_))<|vb 3 (Ao [Ae (nsD A) a,Af 4 0 (t+1) ((t+1)*1) Ab,Af 5 0 t t Ab] 90 0 Ac Ac Ap) (Ao [Ae (nsD A) a,Af 4 0 (t+1) (t+1) Ab,Af 5 0 t t Ab] 90 0 Ac Ac Ap)<|veT<|vd [0,2,4,1,3,5,6,7,8,9,10]<|vr 6 (True/\True/\0<1/\0<1/\ix ↑(Aq od t 0) ↑n (Ad natD vals≠[])) ?_ ⟨trivial,trivial,(by omega),(by omega),⟨(by omega),⟨(by omega),(by exact zV)⟩⟩⟩;refine vp 49 (Aq od t 0) (Ad natD vals)<|vwh 1 [] [] (0<Aa (Ah (Aq od t 0)<|Ad natD vals)) ?_ ?_;rotate_left;refine vs 50 (AQ (Ah (Aq od t 0)<|Ad natD vals) Uk) (natD<|Aq vals (Aq od t 0) 0) (hd:=by simp(disch:=omega) only[zGe])<|vr 4 (al_ ((Ab=Ab/\Aa (Ad natD<|Ad (λ(i:Nat)=>Aq vals i 0)<|Au t od)=t*1/\t=t*1/\50=50/\1=1/\1=1/\0<1/\0<24/\50=50/\(t+1)*24<=140737488355328/\1=1/\AV Ap=Ac/\(Ac=Ac\/AW Ap=Ab))/\aq_))<|vb 3 (Ao [Ae (nsD A) a,Af 4 0 (t+1) (t+1) Ab,Af 5 0 (t+1) ((t+1)*1) Ab] 90 0 Ac Ac Ap) (Ao [Ae (nsD A) a,Af 4 0 (t+1) (t+1) Ab,Af 5 0 (t+1) (t+1) Ab] 90 0 Ac Ac Ap)<|vnil<|zD<|vN<|zB rfl<|vr 2 (i6 (↑t+1))<|vnil<|zC ?_;rotate_left
  ·grind
  ·grind
  refine⟨t+1,by omega,by omega,?_⟩;rw[e1,e2];refine vk 6
 refine vAu<|zA<|vF ((t:Int)<(n:Int))<|vZ2<|vA<|ve (3<=3/\Ac=Ac/\Ab=Ab/\3=3/\3<=3)<|zG<|zBt (3<=3) (Az [Ae (nsD A) a,Ae (Au t<|Ah 0<|AH<|rowB<|Ad rowV<|Ad (λ(i:Nat)=>Aq rows i [])<|Au t od) t,Ae (Au t<|Ah 0<|AH<|natB<|Ad natD<|Ad (λ(i:Nat)=>Aq vals i 0)<|Au t od) t]) (Az [Ae (nsD A) a,Ae (Au t<|Ad rowV<|Ad (λ(i:Nat)=>Aq rows i [])<|Au t od) t,Ae (Au t<|Ad natD<|Ad (λ(i:Nat)=>Aq vals i 0)<|Au t od) t]) (.inr rfl) (by simp(disch:=omega) only[A2]) ?_ (hc:=by omega);grind
abbrev rwsD(l:List (Rw×Nat)):List D:=(l.map (·.1)).map rowV
abbrev vlsD(l:List (Rw×Nat)):List D:=(l.map (·.2)).map natD
abbrev fcD(A:List Nat)(l:List (Rw×Nat)):D:= .agg [.row (nsD A) A.length, .row (rwsD l) l.length, .row (vlsD l) l.length]
theorem srtL_len[Inhabited α]{l:List (Rw×α)}(h:Ndk l):(srtL l).length=l.length:=by
 rw[<-zEn h,AM,(zB5 _ _).length_eq];simp
theorem sorted_c(A:List Nat)(l:List (Rw×Nat))(hb:l.length<=1000000)(hl:∀p∈l,p.1.length<=1000000)(hd:Ndk l):Pure Ar 97 [fcD A l] [] (fcD A (srtL l)):=by
 have h:=sortedW A A.length (l.map (·.1)) (l.map (·.2)) l.length (by simp) (by simp) hb (λr hr=>by
  obtain⟨p,hp,rfl⟩:=A_.1 hr;exact hl p hp) (show(l.map (·.1)).Nodup from hd)
 have hi:∀i∈zCy (zA7 (l.map (·.1))) (As l.length),i<l.length:=λi h=>by
  grind [zB5]
 have e1:(zCy (zA7 (l.map (·.1))) (As l.length)).map (λi=>(l.map (·.1)).getD i [])=(srtL l).map (·.1):=by
  grind [zEn,BM,BP]
 have e2:(zCy (zA7 (l.map (·.1))) (As l.length)).map (λi=>(l.map (·.2)).getD i 0)=(srtL l).map (·.2):=by
  grind [zEn,BM,BP]
 rw[e1,e2]at h;have e3:=srtL_len hd;grind
theorem czero_c(z:Nat)(hz:z=0):Pure Ar 228 [.agg []] [] (natD z):=by
 refine zJ zCg mixed Tryz.func228 rfl<|vAu<|vAe<|zG<|vre (True) (Ae [] 0) (.inr rfl) ?_;rw[hz,natD_zero]
theorem cone_c(o:Nat)(ho:o=1):Pure Ar 227 [.agg []] [] (natD o):=by
 have h:=of_c 1 (by decide);rw[<-ho]at h;refine zJ zCg mixed Tryz.func227 rfl ?_;subst ho;refine vAu<|vA<|vc h<|veT<|zG<|vret (True)<|.inr rfl
theorem cadd_c(a b:Nat)(ha:Sm a)(hb:Sm b):Pure Ar 225 [.agg [],natD a,natD b] [] (natD (a+b)):=by
 refine zJ zCg mixed Tryz.func225 rfl<|vAu<|vA<|vrT 2<|vc (nadd_c a b ha hb)<|veT<|zG<|vret (True)<|.inr rfl
theorem cmul_c(a b:Nat)(ha:Sm a)(hb:Sm b):Pure Ar 226 [.agg [],natD a,natD b] [] (natD (a*b)):=by
 refine zJ zCg mixed Tryz.func226 rfl<|vAu<|vA<|vrT 2<|vc (nmul_c a b ha hb)<|veT<|zG<|vret (True)<|.inr rfl
abbrev cntD:D:= .ifc 29 (.agg [])
noncomputable abbrev Tc:Par:=TM Ar (λ_=>Ac) (λ_=>Ac)
abbrev mapI(K:List Rw):Bk:=⟨nsD (As K.length),262,0,Ab,Ac, .map (K.map kyv)⟩
theorem mput_i(K:List Rw)(r:Rw)(h:r∉K):mput (mapI K) (K.map kyv) (kyv r) (iD K.length)=mapI (K++[r]):=by
 simp_all [mput,zEi,zCa,Bv]
abbrev q11_(x0:List (List Va×Nat)):=Ae (rwsD x0) (Aa x0)
abbrev q12_(x0:List (List Va×Nat)):=Ae (vlsD x0) (Aa x0)
set_option maxHeartbeats 4000000 in
theorem sumOut_c(A:List Nat)(l:List (Rw×Nat))(v:Int)(ha:A.length<=32)(hb:l.length<=1000000)(hl:∀p∈l,p.1.length=A.length)(hv:∀p∈l,∀x∈p.1,Vs x)(hs:Sm (l.map (·.2)).sum):
  Pure Ar 91 [cntD,fcD A l,iD v] [] (fcD ((zBo (λu=>decide ((u:Int)≠v)) A).map λj=>A.getD j 0) (srtL (sumT (· +·) [] (l.map λp=>(zQ p.1 (zBo (λu=>decide ((u:Int)≠v)) A),p.2))))):=by
 refine zJ (T:=Tc) (zVd _ _ _) mixed Tryz.func91 rfl<|vAu<|vAe<|vA<|vrT 1<|vnil<|zC<|vnn (fr 108 [(0,cntD),(2,iD v),(4,Ag 0 0),(6,Ag 1 0),(7,nl),(8,Ag 2 0)]) [Ao [Ae (nsD A)<|Aa A,Ae (rwsD l)<|Aa l,Ae (vlsD l)<|Aa l] 90 0 Ac Ac Ap,Ao [nl,nl,nl] 90 0 Ac Ac Ap,Ao [nl,nl,nl] 90 0 Ac Ac Ap]<|zBh (BZ (j:=2) (i:=0) (intB []) rfl rfl rfl rfl) ?_;refine zA<|vAs<|ve (ar_)<|zF<|zBp (λ(i:Nat)(c:List Nat)=>fr 108 [(0,cntD),(2,iD v),(4,Ag 0 0),(6,Ag 1 0),(7,Af 4 0 (Aa c) (Aa c) Ab),(8,Ag 2 0),(20,(q10_ A)),(21,iD<|Aa A),(22,iD i)]) (λ(i:Nat)(c:List Nat)=>[fB1 (.row (nsD A) A.length) (.row (rwsD l) l.length)<|.row (vlsD l) l.length,fB1 nl nl nl,fB1 (.osl 3 0 c.length c.length Ab) nl nl,intB<|nsD (c.map λj=>A.getD j 0),intB<|nsD c]) (λi c=>A.length-i) (λ(i:Nat)(c:List Nat)=>i<=A.length/\c=((As A.length).take i).filter λj=>decide (((A.getD j 0:Nat):Int)≠v)) 0 [] ?_ ?_ ?_
 ·grind
 ·refine vk 4
 rintro i c ⟨h1,h2⟩;have hlen:c.length<=32:=by rw[h2];exact AT (Bt _ _) (by simp;omega)
 rcases AG i A.length with h3|h3
 ·have h4:=zQg (λu=>decide ((u:Int)≠v)) A i h3;rw[<-h2]at h4;focus
   refine vAu<|zA<|vT ((i:Int)<↑(Aa A))<|vKB<|vA<|vr 2 (ix ↑i ↑(Aa A) (nsD A≠[])) ?_ ⟨(by omega),⟨(by omega),(by exact zV)⟩⟩;refine vp 25 i (nsD A)<|vr 1 (0<Aa (Ah i<|nsD A))<|vs 26 (AQ (Ah i<|nsD A) Uk) (iD ↑(Aq A i 0)) (hd:=by simp(disch:=omega) only[zA6])<|veT<|vAe<|zAk (t:=(↑(Aq A i 0):Int)!=v) (by kernel_rfl) (λhc=>?_)<|λhc=>?_;simp only[bne_iff_ne]at hc;refine vA<|vr 5 (al_ (Bc (intB<|nsD c)=Ab/\Aa (AH<|intB<|nsD c)=Aa c*1/\Aa c=Aa c*1/\A3 (intB<|nsD c)=3/\A4 (intB<|nsD c)=1/\1=1/\0<1/\0<8/\3=3/\(Aa c+1)*8<=140737488355328/\1=1/\AV (AL<|intB<|nsD c)=Ac/\(Ac=Ac\/AW (AL<|intB<|nsD c)=Ab)))<|vs 7 (Af 4 0 (Aa c+1) ((Aa c+1)*1) Ab) (Af 4 0 (Aa c+1) (Aa c+1) Ab)<|veT<|zB rfl<|vr 7 (True/\0<3/\((1=1/\1<=1/\True)/\0<1/\1=1/\1<=16777216/\1<=9223372036854775807)/\(Ab=Ab/\Aa (nsD<|Ad (λ(j:Nat)=>Aq A j 0) c)=Aa c*1/\Aa c=Aa c*1/\3=3/\1=1/\1=1/\0<1/\0<8/\3=3/\(Aa c+1)*8<=140737488355328/\1=1/\AV Ap=Ac/\(Ac=Ac\/AW Ap=Ab))/\True/\Ac=Ac/\Ab=Ab/\1=1/\1<=3)<|vb 2 (Ao [Af 3 0 (Aa c+1) ((Aa c+1)*1) Ab,nl,nl] 90 0 Ac Ac Ap) (Ao [Af 3 0 (Aa c+1) (Aa c+1) Ab,nl,nl] 90 0 Ac Ac Ap)<|vnil<|zD<|vN<|zB rfl<|vr 2 (i6 (↑i+1))<|vnil<|zC ?_;rotate_left;simp only[bne_eq_false_iff_eq]at hc;refine zL<|zD<|vN<|zB rfl<|vr 2 (i6 (↑i+1))<|vnil<|zC ?_;rotate_left
  ·rw[if_pos (by simpa using hc)]at h4;refine⟨i+1,c++[i],⟨by omega,h4.symm⟩,by omega,?_⟩;rw[show nsD ((c++[i]).map λj=>A.getD j 0)=nsD (c.map λj=>A.getD j 0)++[iD (A.getD i 0:Nat)] by simp,zTd,AR];refine vk 5
  rw[if_neg (by simpa using hc),BQ]at h4;refine⟨i+1,c,⟨by omega,h4.symm⟩,by omega,?_⟩;refine vk 5
 have ec:c=zBo (λu=>decide ((u:Int)≠v)) A:=by
  rw[AU (by simpa using h3)]at h2;exact h2
 rw[<-ec];clear h1 h2;refine vAu<|zA<|vF ((i:Int)<↑(Aa A))<|vZ2<|vA<|vrT 2<|vnil<|zC<|vnn (fr 108 [(0,cntD),(2,iD v),(4,Ag 0 0),(6,Ag 1 0),(7,Af 4 0 (Aa c) (Aa c) Ab),(8,Ag 2 0),(11,D.mref 5),(20,(q10_ A)),(21,iD<|Aa A),(22,iD i),(23,bD<|decide ((i:Int)<↑(Aa A))),(41,D.mref 5)]) [fB1 ((q10_ A)) ((q11_ l))<|(q12_ l),fB1 nl nl nl,fB1 (Af 3 0 (Aa c) (Aa c) Ab) nl nl,intB<|nsD<|Ad (λ(j:Nat)=>Aq A j 0) c,intB<|nsD c,Ao [] 262 0 Ab Ac<|Kd.map []] ?_;have hc0:=zPk c _ rfl;refine zBh (((BZ (j:=2) (i:=1) (rowB []) rfl rfl rfl rfl).trans (BZ (j:=2) (i:=2) (natB []) rfl rfl rfl rfl)).trans<|Weak.osr (s:=7) (k:=4) (off:=0) (n:=c.length) (m:=c.length) (wh:=Ab) (cs:=nsD c) (by kernel_rfl) (show Am (Ae (((nsD c).drop 0).take c.length) c.length,[4])=_ by rw[A2,hc0])) ?_;refine zA<|vAs<|ve (as_)<|zF ?_;obtain⟨z,hz⟩:∃z:Nat,z=0:=⟨0,rfl⟩;have hcl:∀j∈c,j<A.length:=λj h=>by
  rw[ec]at h;simpa using(BD.1 h).1
 generalize hL:(l.map λp=>(zQ p.1 c,p.2))=L;have hLl:L.length=l.length:=by rw[<-hL];simp
 have hLs:(L.map (·.2)).sum=(l.map (·.2)).sum:=by rw[<-hL];simp[Function.comp_def]
 have hLg:∀i,i<l.length->L.getD i Ak=(zQ ((l.map (·.1)).getD i []) c,(l.map (·.2)).getD i 0):=λi hi=>by
  grind
 have hbnd:∀i,∀x∈(sumT (· +·) [] (L.take i)).map (·.2),x<=(l.map (·.2)).sum:=λi x hx=>by
  have h1:x<=((L.take i).map (·.2)).sum:=by
   have:=zRl hx
   grind [sumT_sum]
  grind [List.map_take,sum_le]
 refine zA0 (λ(i:Nat)(K:List Rw)(W:List Nat)=>fr 108 [(0,cntD),(4,Ag 0 0),(6,Ag 1 0),(7,D.osr 4 0 (Aa c) (Aa c) Ab<|nsD c),(8,Ag 2 0),(11,D.mref 5),(43,(q11_ l)),(44,iD<|Aa l),(45,iD i)]) (λ(i:Nat)(K:List Rw)(W:List Nat)=>[fB1 (.row (nsD A) A.length) (.row (rwsD l) l.length)<|.row (vlsD l) l.length,fB1 nl nl nl,fB1 (.osl 3 0 c.length c.length Ab) (.osl 6 0 W.length W.length Ab)<|.osl 7 0 W.length W.length Ab,intB<|nsD (c.map λj=>A.getD j 0),⟨nsD c,3,1,Ab,Ab,.plain⟩,mapI K,rowB<|K.map rowV,natB<|W.map natD]) (λi K W=>l.length-i) (λ(i:Nat)(K:List Rw)(W:List Nat)=>i<=l.length/\K=(sumT (· +·) []<|L.take i).map (·.1)/\W=(sumT (· +·) []<|L.take i).map (·.2)) 0 [] [] ?_ ?_ ?_
 ·grind [sumT]
 ·refine vk 8
 rintro i K W ⟨g1,g2,g3⟩;have hKW:W.length=K.length:=by rw[g2,g3];simp
 have hKl:K.length<=1000000:=by
  have:=zSj (· +·) (L.take i) ([]:List (Rw×Nat))
  grind
 rcases AG i l.length with h4|h4
 ·have hne:rwsD l≠[]:=zV (h:=by simp;omega);have hne2:vlsD l≠[]:=zV (h:=by simp;omega);have hrow:(l.map (·.1)).getD i []∈l.map (·.1):=by
   grind
  obtain⟨p,hp,he⟩:=A_.1 hrow;have hlen2:=hl p hp;have hvs:=hv p hp;rw[he]at hlen2 hvs;have hsu:=zVr (· +·) L i (by omega);rw[hLg i h4]at hsu;have hk1:=congrArg (Ad (·.1)) hsu;have hw1:=congrArg (Ad (·.2)) hsu;simp only[zGi,<-g2]at hk1;simp only[zQs,<-g2,<-g3]at hw1;have hb1:=hbnd (i+1);have hx1:=zAl (l.map (·.1)) i (by simpa using h4);have hx2:=zGe (l.map (·.2)) i (by simpa using h4);generalize (l.map (·.1)).getD i []=row at*;generalize (l.map (·.2)).getD i 0=w at*;have hk:=zTp row c _ _ rfl rfl (by rw[hlen2];exact hcl) hvs;have hpj:=zH8 row c _ _ rfl rfl (by omega) (by omega) (by rw[hlen2];exact hcl);have hlk:=look_i K (zQ row c);by_cases hm:zQ row c∈K
  ·rw[if_pos hm]at hk1 hw1 hlk;have hid:=Ce.2 hm;generalize K.idxOf (zQ row c)=d at*;rw[hw1]at hb1;have hs1:Sm (W.getD d 0+w):=hs.le (hb1 _ (List.mem_set (by omega) _));have hs2:=hs1.le (Nat.le_add_right _ w);have hs3:=hs1.le (Nat.le_add_left w _);focus
    refine vAu (zA (vT ((i:Int)<↑(Aa l)) (vKB (vA (vr 2 (ix ↑i ↑(Aa l) (rwsD l≠[])) (vp 48 i (rwsD l) (vr 1 (0<Aa (Ah i (rwsD l))) (vsh 49 hx1 (veT (vA (vrT 2 (vc hk (veT (vA (vwh 3 [] [] (zAb (Bh (Bi Bj "string" 1 16 Ab 8 8 (Am (AN (AY #[]))) Ab #[])) (AN (bs (idR (zQ row c))))=Ab/\BY (Ad kyv K) (zAb (Bh (Bi Bj "string" 1 16 Ab 8 8 (Am (AN (AY #[]))) Ab #[])))=Ab) ?_ ?_)))))))))))))));rotate_left;refine vsh 56 hlk (ve (0<2/\1<2) (zA (vAe (vf (vK (vd [0,2,3,4,6,9,11,14,15,16,1,5,7,8,10,12,13,17,18,19] (vr 13 (au_ ((0:Int)<=(d:Int)/\(d:Int)<↑(Aa W))) (vo 93 7 d (vr 1 (0<Aa (Ah d (AH (natB (Ad natD W))))) (vs 94 (AQ (Ah d (AH (natB (Ad natD W)))) Uk) (natD (Aq W d 0)) (hd:=by simp(disch:=omega) only[zGe]) (vr 2 (0<1/\ix ↑i ↑(Aa l) (vlsD l≠[])) (vp 98 i (vlsD l) (vr 1 (0<Aa (Ah i (vlsD l))) (vsh 99 hx2 (vc (cadd_c _ _ hs2 hs3) (vr 1 ((0:Int)<=(d:Int)/\(d:Int)<↑(Aa W)) (vo 104 7 d (vr 1 (Bk.fz (natB (Ad natD W))=Ac/\Ab=Ab/\1=1/\d+1<=Aa (AH (natB (Ad natD W)))/\¬7∈[]) (vnil (zD (vN (zB rfl (vr 2 (i6 (↑i+1)) (vnil (zC ?_)))))))))))))))))))))))));rotate_left
   ·grind [zDl]
   refine⟨i+1,K,W.set d (W.getD d 0+w),⟨by omega,hk1.symm,hw1.symm⟩,by omega,?_⟩;rw[show(W.set d (W.getD d 0+w)).map natD=(W.map natD).set d (natD (W.getD d 0+w)) by simp,show(W.set d (W.getD d 0+w)).length=W.length by simp];refine vk 8
  rw[if_neg hm]at hk1 hw1 hlk;have hs1:Sm w:=hs.le (hb1 _ (by rw[hw1];simp));have hmp:=mput_i K (zQ row c) hm;rw[<-hKW]at hmp;have hzw:z+w=w:=by omega
  have hca:=cadd_c z w (hs1.le (by omega)) hs1;rw[hzw]at hca;have hla:∀d:D,((W.map natD++[d]).drop W.length).headD .unk=d:=λd=>by rw[List.drop_left' (by simp)];rfl
  have hse:∀d e:D,(W.map natD++[d]).set W.length e=W.map natD++[e]:=λd e=>by
   grind
  focus
   refine vAu (zA (vT ((i:Int)<↑(Aa l)) (vKB (vA (vr 2 (ix ↑i ↑(Aa l) (rwsD l≠[])) (vp 48 i (rwsD l) (vr 1 (0<Aa (Ah i (rwsD l))) (vsh 49 hx1 (veT (vA (vrT 2 (vc hk (veT (vA (vwh 3 [] [] (zAb (Bh (Bi Bj "string" 1 16 Ab 8 8 (Am (AN (AY #[]))) Ab #[])) (AN (bs (idR (zQ row c))))=Ab/\BY (Ad kyv K) (zAb (Bh (Bi Bj "string" 1 16 Ab 8 8 (Am (AN (AY #[]))) Ab #[])))=Ab) ?_ ?_)))))))))))))));rotate_left;refine vsh 56 hlk (ve (0<2/\1<2) (zA (vAe (vt (vA (ve (as_) (vA (vwh 4 [] [] (Bk.fz (mapI K)=Ac/\zAb (Bh (Bi Bj "string" 1 16 Ab 8 8 (Am (AN (AY #[]))) Ab #[])) (AN (bs (idR (zQ row c))))=Ab/\BY (Ad kyv K) (zAb (Bh (Bi Bj "string" 1 16 Ab 8 8 (Am (AN (AY #[]))) Ab #[])))=Ab/\¬5∈[]) ?_ ?_))))))));rotate_left;refine vb 5 (mput (mapI K) (Ad kyv K) (AN (bs (idR (zQ row c)))) (iD (Aa W))) (mapI (K++[zQ row c])) (hd:=by simp(disch:=omega) only[hmp]) (veT (vA (vrT 2 (vc hpj (ve (0<2/\1<2) (vA (vr 7 (ao_ ((Bc (rowB (Ad rowV K))=Ab/\Aa (AH (rowB (Ad rowV K)))=Aa W*1/\Aa W=Aa W*1/\A3 (rowB (Ad rowV K))=110/\A4 (rowB (Ad rowV K))=1/\1=1/\0<1/\0<24/\110=110/\(Aa W+1)*24<=140737488355328/\1=1/\AV (AL (rowB (Ad rowV K)))=Ac/\(Ac=Ac\/AW (AL (rowB (Ad rowV K)))=Ab))/\ap_)) (vb 2 (Ao [Af 3 0 (Aa c) (Aa c) Ab,Af 6 0 (Aa W+1) ((Aa W+1)*1) Ab,Af 7 0 (Aa W) (Aa W) Ab] 90 0 Ac Ac Ap) (Ao [Af 3 0 (Aa c) (Aa c) Ab,Af 6 0 (Aa W+1) (Aa W+1) Ab,Af 7 0 (Aa W) (Aa W) Ab] 90 0 Ac Ac Ap) ?_))))))));refine veT (vd [0,2,1,3,4,5,6,7] (vr 3 (True/\0<1) (vc (czero_c z hz) (vr 4 (al_ ((Ab=Ab/\Aa (Ad natD W)=Aa W*1/\Aa W=Aa W*1/\50=50/\1=1/\1=1/\0<1/\0<24/\50=50/\(Aa W+1)*24<=140737488355328/\1=1/\AV Ap=Ac/\(Ac=Ac\/AW Ap=Ab))/\aq_)) (vb 2 (Ao [Af 3 0 (Aa c) (Aa c) Ab,Af 6 0 (Aa W+1) (Aa W+1) Ab,Af 7 0 (Aa W+1) ((Aa W+1)*1) Ab] 90 0 Ac Ac Ap) (Ao [Af 3 0 (Aa c) (Aa c) Ab,Af 6 0 (Aa W+1) (Aa W+1) Ab,Af 7 0 (Aa W+1) (Aa W+1) Ab] 90 0 Ac Ac Ap) (veT (vd [0,2,3,4,6,9,11,14,15,16,1,5,7,8,10,12,13,17,18,19] (vr 13 (au_ ((0:Int)<=(Aa W:Int)/\(Aa W:Int)<(↑(Aa W+1):Int))) (vo 93 7 (Aa W) (vr 1 (0<Aa (Ah (Aa W) (Ad natD W++[natD z]))) (vs 94 (AQ (Ah (Aa W) (Ad natD W++[natD z])) Uk) (natD z) (hd:=by simp(disch:=omega) only[hla]) (vr 2 (0<1/\ix ↑i ↑(Aa l) (vlsD l≠[])) (vp 98 i (vlsD l) (vr 1 (0<Aa (Ah i (vlsD l))) (vsh 99 hx2 (vc hca (vr 1 ((0:Int)<=(Aa W:Int)/\(Aa W:Int)<(↑(Aa W+1):Int)) (vo 104 7 (Aa W) (vr 1 (Ac=Ac/\Ab=Ab/\1=1/\Aa W+1<=Aa (Ad natD W++[natD z])/\¬7∈[]) (vnil (zD (vN (zB rfl (vr 2 (i6 (↑i+1)) (vnil (zC ?_))))))))))))))))))))))))));rotate_left
  ·grind [zDl]
  ·grind [zDl]
  refine⟨i+1,K++[zQ row c],W++[w],⟨by omega,hk1.symm,hw1.symm⟩,by omega,?_⟩;refine wkn (fr 108 [(0,cntD),(4,Ag 0 0),(6,Ag 1 0),(7,D.osr 4 0 (Aa c) (Aa c) Ab (nsD c)),(8,Ag 2 0),(11,D.mref 5),(12,iD ↑i),(15,iD ↑(Aa W)),(43,(q11_ l)),(44,iD ↑(Aa l)),(45,iD ↑(i+1)),(86,Ag 2 2),(87,Af 7 0 (Aa W+1) (Aa W+1) Ab),(88,iD ↑(Aa W)),(89,D.ifc 29 (Az [])),(90,Ag 2 2),(91,Af 7 0 (Aa W+1) (Aa W+1) Ab),(92,iD ↑(Aa W)),(93,Ag 7 (Aa W)),(94,natD z),(95,Ag 0 2),(96,(q12_ l)),(97,iD ↑i),(98,A8 (Ah i (vlsD l))),(99,natD w),(100,AP (Fn.method "Add") [D.ifc 29 (Az [])] []),(101,AP (Fn.method "Add") [D.ifc 29 (Az [])] []),(102,D.ifc 29 (Az [])),(103,natD w),(104,Ag 7 (Aa W)),(105,iD ↑(i+1))]) [Ao [(q10_ A),(q11_ l),(q12_ l)] (90:TypeId) 0 Ac Ac Ap,Ao [nl,nl,nl] (90:TypeId) 0 Ac Ac Ap,Ao [Af 3 0 (Aa c) (Aa c) Ab,Af 6 0 (Aa W+1) (Aa W+1) Ab,Af 7 0 (Aa W+1) (Aa W+1) Ab] 90 0 Ac Ac Ap,Ao (nsD (Ad (λ(j:Nat)=>Aq A j 0) c)) (3:TypeId) 1 Ab Ac Ap,Ao (nsD c) (3:TypeId) 1 Ab Ab Ap,Ao (nsD (As (Aa (K++[zQ row c])))) (262:TypeId) 0 Ab Ac (Kd.map (Ad kyv (K++[zQ row c]))),Ao (Ad rowV K++[Ae (zM (zQ row c)) (Aa c)]) (110:TypeId) 1 Ab Ac Ap,Ao (List.set (Ad natD W++[natD z]) (Aa W) (natD w)) 50 1 Ab Ac Ap,Ao [Ae (zM (zQ row c)) (Aa c)] 110 1 Ab Ac Ap,Ao [natD z] 50 1 Ab Ac Ap] ?_;rw[hse];have hpl:(zQ row c).length=c.length:=by simp[zQ]
  rw[show(K++[zQ row c]).map rowV=K.map rowV++[.row (zM (zQ row c)) c.length] by rw[<-hpl];simp,show(W++[w]).map natD=W.map natD++[natD w] by simp,show(W++[w]).length=W.length+1 by simp];refine vk 8
 have hn:Ndk (sumT (· +·) [] L):=zKh _ L [] (by simp[Ndk]);rw[AU (by omega)]at g2 g3;have hso:=sorted_c (c.map λj=>A.getD j 0) (sumT (· +·) [] L) (by rw[<-AM (f:=λp:Rw×Nat=>p.1),<-g2];exact hKl) (λp hp=>by
  have:=(zSk _ L [] p hp).resolve_left (by simp)
  obtain⟨q,hq,e⟩:=A_.1 this;rw[<-hL]at hq;obtain⟨q',_,rfl⟩:=A_.1 hq;rw[<-e];simp only[zQ,AM];omega) hn
 have hT:(sumT (· +·) [] L).length=W.length:=by rw[g3,AM]
 have ht1:=zPk (c.map λj=>A.getD j 0) c.length (by simp);have ht2:(K.map rowV).take W.length=K.map rowV:=AU (by simp[hKW]);have ht3:(W.map natD).take W.length=W.map natD:=AU (by simp);simp only[fcD,rwsD,vlsD,<-g2,<-g3,hT]at hso;rw[AM]at hso;refine vAu<|zA<|vF ((i:Int)<↑(Aa l))<|vZ2<|vA<|vr 1 (3<=3)<|vcl [Az [Ae (Au (Aa c)<|Ah 0<|AH<|intB<|nsD<|Ad (λ(j:Nat)=>Aq A j 0) c)<|Aa c,Ae (Au (Aa W)<|Ah 0<|AH<|rowB<|Ad rowV K)<|Aa W,Ae (Au (Aa W)<|Ah 0<|AH<|natB<|Ad natD W)<|Aa W]] [Az [Ae (nsD<|Ad (λ(j:Nat)=>Aq A j 0) c)<|Aa c,Ae (Ad rowV K)<|Aa W,Ae (Ad natD W)<|Aa W]] (LeL.of_eq (by simp(disch:=omega) only[A2,ht2,ht1,ht3])) (by exact hso)<|ve (an_)<|zG<|vre (3<=3) (Az [Ae (nsD<|Ad (λ(j:Nat)=>Aq A j 0) c)<|Aa c,Ae (Ad rowV<|Ad (λ(x:Rw×Nat)=>An x)<|srtL<|sumT (λ(x1 x2:Nat)=>x1+x2) [] L)<|Aa<|srtL<|sumT (λ(x1 x2:Nat)=>x1+x2) [] L,Ae (Ad natD<|Ad (λ(x:Rw×Nat)=>AD x)<|srtL<|sumT (λ(x1 x2:Nat)=>x1+x2) [] L)<|Aa<|srtL<|sumT (λ(x1 x2:Nat)=>x1+x2) [] L]) (.inr rfl) (by simp)
end
variable{b:Code}{d:D}{U A:List Nat}{p:Nat->Bool}{r:Rw}
section
open Go.RowKit
theorem zHp(h:Asc U):mem32 (msk U)=U:=by
 refine Asc.ext ⟨(List.pairwise_lt_range (n:=32)).filter _,λv hv=>?_⟩ h λv=>?_
 ·have:=(BD.1 hv).1;simpa using this
 simp only[mem32,BD,zC7,decide_eq_true_eq,BB];exact⟨λh=>h.2,λhv=>⟨h.2 v hv,hv⟩⟩
theorem zCx(h:Asc A):A.length<=32:=by
 rw[<-zHp h];exact AT (Bt _ _) (by simp)
theorem asc_less(h:Asc A)(p:Nat->Bool):Asc (A.filter p):=⟨h.1.filter _,λv hv=>h.2 v (BD.1 hv).1⟩
theorem zT6(p:Nat->Bool)(A:List Nat):(zBo p A).map (λj=>A.getD j 0)=A.filter p:=by
 have e:A=(As A.length).map (λj=>A.getD j 0):=by
  apply BX (by simp);grind
 conv=>rhs;rw[e]
 rw[CX];rfl
theorem zG4:j∈zBo p A↔j<A.length/\p (A.getD j 0)=true:=by simp[zBo]
theorem zJh(p:Nat->Bool)(A:List Nat):(zBo p A).length<=A.length:=AT (Bt _ _) (by simp)
theorem zFn(hA:A.Nodup)(p:Nat->Bool)(x:List Va):zQ x (zBo p A)=(A.filter p).map (asg A x):=by
 rw[<-zT6,BM];refine BP λj hj=>?_;grind [zG4,only,asg,AJ,List.Nodup.idxOf_getElem]
theorem zZn{B:List Nat}(hA:Asc A)(hB:Asc B){q:Nat->Bool}(h:∀v,(v∈A/\p v=Ab)↔(v∈B/\q v=Ab)):A.filter p=B.filter q:=by grind [Asc.ext,asc_less]
theorem zMb(A B:List Nat)(v:Nat):(msk A&&&msk B).testBit v=(decide (v∈A)&&decide (v∈B)):=by grind [zC7]
theorem key_mt{B:List Nat}(hA:Asc A)(hB:Asc B)(x y:List Va):zQ y (zBo (λv=>(msk A&&&msk B).testBit v) B)=zQ x (zBo (λv=>(msk A&&&msk B).testBit v) A)↔mt A x B y=true:=by
 rw[zFn hA.nd,zFn hB.nd,zZn hB hA (p:=λv=>(msk A&&&msk B).testBit v) (q:=λv=>(msk A&&&msk B).testBit v) (λv=>by rw[zMb];simp only[Bu,decide_eq_true_eq];constructor<;>(rintro⟨h1,h2,h3⟩;exact⟨by assumption,h2,h3⟩))];rw[zE4];simp only[mt,Bq,BD,zMb,Bu,decide_eq_true_eq];grind
def posL(L:List Rw)(r:Rw):List Nat:=(As L.length).filter λk=>decide (L.getD k []=r)
theorem posn_get[Inhabited α](l:List α)(key:α->Rw)(r:Rw)(hd:∀k,k<l.length->(l.map key).getD k []=key (l.getD k Ak)):(posL (l.map key) r).map (λk=>l.getD k Ak)=l.filter λq=>decide (key q=r):=by
 have e:l=(As l.length).map (λj=>l.getD j Ak):=by
  apply BX (by simp);grind
 grind [posL,AM,Ct,only]
theorem pos_succ(L:List Rw)(i:Nat)(h:i<L.length)(r:Rw):posL (L.take (i+1)) r=posL (L.take i) r++if L.getD i []=r then[i]else[]:=by
 grind [posL,Bv,Ct,only]
theorem pos_lt(h:k∈posL L r):k<L.length:=by
 have:=(BD.1 h).1;simpa using this
theorem zM8(h:r∉L):posL L r=[]:=by
 grind [posL,List.filter_eq_nil_iff,AJ,Bn]
abbrev Fn:Type:=List Nat×List (Rw×Nat)
def fltF(U:List Nat)(o:Fn):List Nat×List (List Va):=(zBo (λv=>(msk o.1&&&msk U).testBit v) U,allK ((o.2.map (·.1)).map λr=>zQ r (zBo (λv=>(msk o.1&&&msk U).testBit v) o.1)))
def faN(o:Fn):Fa Nat:=⟨o.1,o.2⟩
theorem flt_ok(hU:Asc U){o:Fn}(ho:Asc o.1)(s:List Va):decide (zQ s (fltF U o).1∈(fltF U o).2)=okO U s (faN o):=by
 rw[Cd];simp only[fltF,decide_eq_true_eq,zLd,A_,BM,okO,CY,Bq,faN,Function.comp];have e:U.filter (λv=>(msk o.1&&&msk U).testBit v)=o.1.filter (λv=>(msk o.1&&&msk U).testBit v):=zZn hU ho λv=>by
  rw[zMb];simp only[Bu,decide_eq_true_eq];grind
 have key:∀q:Rw×Nat,zQ q.1 (zBo (λv=>(msk o.1&&&msk U).testBit v) o.1)=zQ s (zBo (λv=>(msk o.1&&&msk U).testBit v) U)↔∀v∈o.1,v∈U->asg o.1 q.1 v=asg U s v:=by
  intro q;rw[zFn ho.nd,zFn hU.nd,e,zE4];simp only[BD,zMb,Bu,decide_eq_true_eq];grind
 constructor
 ·rintro⟨q,hq,h⟩;exact⟨q,hq,λv hv=>decide_eq_true ((key q).1 h v hv)⟩
 rintro⟨q,hq,h⟩;exact⟨q,hq,(key q).2 λv hv=>of_decide_eq_true (h v hv)⟩
theorem allK_nd(L:List Rw):(allK L).Nodup:=by
 have key:∀(L K:List Rw),K.Nodup->(L.foldl addK K).Nodup:=by
  intro L;induction L<;>grind [addK,List.nodup_append,only,Ca]
 exact key L [] List.nodup_nil
theorem zX9(L:List Rw)(r:Rw):allK (L++[r])=addK (allK L) r:=by simp[allK]
theorem zGt(L:List Rw)(r s:Rw):posL (L++[r]) s=posL L s++if r=s then[L.length]else[]:=by
 have h:=pos_succ (L++[r]) L.length (by simp) s;grind
mutual
/-- does the data name blocks below m alone? -/
def rwG(m:Nat):D->Bool
 | .own j _=>decide (j<m)
 | .osl j _ _ _ _=>decide (j<m)
 | .osr j _ _ _ _ _=>decide (j<m)
 | .mref j=>decide (j<m)
 | .agg cs=>rBL m cs
 | .tup cs=>rBL m cs
 | .clo _ x y=>rBL m x&&rBL m y
 | .ifc _ d=>rwG m d
 |_=>Ab
def rBL(m:Nat):List D->Bool
 |[]=>Ab
 |d::ds=>rwG m d&&rBL m ds
end
mutual
theorem zYz{m k:Nat}(hk:m<=k):∀d:D,rwG m d=Ab->refs k d=Ac
 | .own j o,h=>by simp only[rwG,decide_eq_true_eq]at h;simp only[refs,beq_eq_false_iff_ne];omega
 | .osl j _ _ _ _,h=>by simp only[rwG,decide_eq_true_eq]at h;simp only[refs,beq_eq_false_iff_ne];omega
 | .osr j _ _ _ _ _,h=>by simp only[rwG,decide_eq_true_eq]at h;simp only[refs,beq_eq_false_iff_ne];omega
 | .mref j,h=>by simp only[rwG,decide_eq_true_eq]at h;simp only[refs,beq_eq_false_iff_ne];omega
 | .agg cs,h=>by simp only[rwG]at h;simp only[refs];exact zGs hk cs h
 | .tup cs,h=>by simp only[rwG]at h;simp only[refs];exact zGs hk cs h
 | .clo _ x y,h=>by
  simp only[rwG,Bu]at h;simp only[refs,zGs hk x h.1,zGs hk y h.2,A1]
 | .ifc _ d,h=>by simp only[rwG]at h;simp only[refs];exact zYz hk d h
 | .unk,_| .val _,_| .row _ _,_| .ptr _,_| .mfz _ _,_| .fx _,_=>by simp only[refs]
theorem zGs{m k:Nat}(hk:m<=k):∀ds:List D,rBL m ds=Ab->zAt k ds=Ac
 |[],_=>by simp only[zAt]
 |d::ds,h=>by
  simp only[rBL,Bu]at h;simp only[zAt,zYz hk d h.1,zGs hk ds h.2,A1]
end
theorem zNd(h:refs k d=Ac):zAq k d=d:=by unfold zAq;rw[h];rfl
theorem zTo{m k:Nat}(hk:m<=k):∀{ds:List D},rBL m ds=Ab->ds.map (zAq k)=ds
 |[],_=>rfl
 |d::ds,h=>by
  simp only[rBL,Bu]at h;rw[A6,zNd (zYz hk d h.1),zTo hk h.2]
def bBL(m:Nat)(bs:List Bk):Bool:=bs.all λe=>e.nob||rBL m e.cells
def zDk(L:List Rw):List Nat->List Rw->List D
 |n::ns,r::K=> .osl n 0 (posL L r).length (posL L r).length Ab::zDk L ns K
 |_,_=>[]
abbrev gArr(it:TypeId)(L:List Rw)(r:Rw):Bk:=⟨nsD (posL L r),it,1,Ab,Ac, .plain⟩
structure Grp(m:Nat)(mt it:TypeId)(L:List Rw)(base st:List Bk)(ns:List Nat):Prop where
 pre:st.take m=base
 mp:st[m]?=Am ⟨zDk L ns (allK L),mt,0,Ac,Ac, .map ((allK L).map kyv)⟩
 len:ns.length=(allK L).length
 nd:ns.Nodup
 at_:∀(j k:Nat)(r:Rw),ns[j]?=Am k->(allK L)[j]?=Am r->m<k/\st[k]?=Am (gArr it L r)
theorem zEt{L:List Rw}:∀{ns:List Nat}{K:List Rw}(j:Nat),(zDk L ns K)[j]?=match ns[j]?,K[j]? with
  |some n,Am r=>Am (.osl n 0 (posL L r).length (posL L r).length Ab)
  |_,_=>AE
 |[],K,j=>by simp[zDk]
 |n::ns,[],j=>by
  grind [only,zDk]
 |n::ns,r::K,0=>by simp[zDk]
 |n::ns,r::K,j+1=>by simp only[zDk,List.getElem?_cons_succ];exact zEt j
theorem zEs{L:List Rw}:∀{ns:List Nat}{K:List Rw},ns.length=K.length->(zDk L ns K).length=K.length
 |[],[],_=>rfl
 |n::ns,r::K,h=>by simp only[zDk,BC];rw[zEs (by simpa using h)]
section
variable{P:Program}{T:Par}{ops:Array Oper}{dr:Bool}{l:List Oper}{sl:List D}{st base:List Bk}{K:List D->List Bk->Prop}{m:Nat}{mt it:TypeId}{L:List Rw}{ns:List Nat}
theorem Grp.lt(h:Grp m mt it L base st ns):m<st.length:=(BF.1 h.mp).1
theorem Grp.more(h:Grp m mt it L base st ns)(hb:bBL m base=Ab)(hr:r∈allK L)(hk:ns[(allK L).idxOf r]?=Am k)(tmp:Bk)(ht:tmp.nob=Ab){e':Bk}(hb':b'=gArr it (L++[r]) r)
  (he':e'=⟨((zDk L ns (allK L)).map (zAq k)).set ((allK L).idxOf r) (.osl k 0 (posL (L++[r]) r).length (posL (L++[r]) r).length Ab),mt,0,Ac,Ac, .map ((allK L).map kyv)⟩):
  Grp m mt it (L++[r]) base ((((st++[tmp]).map (zAu k)).set k b').set m e') ns:=by
 subst hb' he';have hj:=Ce.2 hr;have hrr:(allK L)[(allK L).idxOf r]?=Am r:=by rw[AJ hj];simp
 obtain⟨hmk,hkst⟩:=h.at_ _ k r hk hrr;have hall:allK (L++[r])=allK L:=by rw[zX9,addK,if_pos hr]
 have hml:=h.lt;have hkl:k<st.length:=(BF.1 hkst).1;have hget:∀i,i<st.length->i≠m->i≠k->((((st++[tmp]).map (zAu k)).set k (gArr it (L++[r]) r)).set m ⟨((zDk L ns (allK L)).map (zAq k)).set ((allK L).idxOf r) (.osl k 0 (posL (L++[r]) r).length (posL (L++[r]) r).length Ab),mt,0,Ac,Ac, .map ((allK L).map kyv)⟩)[i]?=(st[i]?).map (zAu k):=λi hi h1 h2=>by
  grind
 refine⟨?_,?_,by rw[hall];exact h.len,h.nd,λj n s hn hs=>?_⟩
 ·apply Bl;intro i;rw[Cu];split
  ·rename_i hi;rw[hget i (by omega) (by omega) (by omega)];have:base[i]?=st[i]?:=by rw[<-h.pre,Cu,if_pos hi]
   rw[this];cases e:st[i]? with
   |none=>rfl
   | some x=>
    simp only[B8,Ck.injEq];have hx:x∈base:=B_ (this.trans e)
    have:=Bq.1 hb x hx
    simp only[Cc]at this;unfold zAu;split
    ·rfl
    rename_i hn;rw[zTo (m:=m) (by omega) (this.resolve_left hn)]
  rename_i hi;rw[<-h.pre,Cu,if_neg hi]
 ·rw [List.getElem?_set_self (by simp;omega),hall];congr 2;apply Bl;intro i;rw[zEt,B7,BH,zEt];have hcl:((zDk L ns (allK L)).map (zAq k)).length=(allK L).length:=by rw[AM,zEs h.len]
  by_cases hi:(allK L).idxOf r=i
  ·grind
  rw [if_neg hi];cases e1:ns[i]? with
  |none=>rfl
  | some n=>
   cases e2:(allK L)[i]? with
   |none=>rfl
   | some s=>
    have hne:n≠k:=λe=>by
     subst e;have h1:=(BF.1 e1);have h2:=(BF.1 hk);exact hi ((CU h.nd).1 (h2.2.trans h1.2.symm))
    have hsr:r≠s:=λe=>by
     grind [BF,allK_nd]
    grind [only,zNd,refs,zGt]
 rw[hall]at hs;obtain⟨h1,h2⟩:=h.at_ j n s hn hs;refine⟨h1,?_⟩;by_cases hnk:n=k
 ·subst hnk;have:s=r:=by
   obtain⟨g1,g2⟩:=BF.1 hn;obtain⟨g3,g4⟩:=BF.1 hk;have e:j=(allK L).idxOf r:=(CU h.nd).1 (g2.trans g4.symm);grind
  grind
 have hnl:n<st.length:=(BF.1 h2).1;rw[hget n hnl (by omega) hnk,h2];have hsr:r≠s:=λe=>by
  subst e;obtain⟨g1,g2⟩:=BF.1 hs;have e:(allK L).idxOf r=j:=by rw[<-g2];exact(allK_nd L).idxOf_getElem j g1
  grind
 simp only[B8,Ck.injEq];unfold zAu gArr;rw[zGt,if_neg hsr,BQ];rfl
theorem Grp.new(h:Grp m mt it L base st ns)(hr:r∉allK L)(tmp:Bk){e':Bk}(hb':b'=gArr it (L++[r]) r)
  (he':e'=⟨zDk L ns (allK L)++[.osl (st.length+1) 0 1 1 Ab],mt,0,Ac,Ac, .map ((allK L++[r]).map kyv)⟩):
  Grp m mt it (L++[r]) base ((st++[tmp]++[b']).set m e') (ns++[st.length+1]):=by
 subst hb' he';have hall:allK (L++[r])=allK L++[r]:=by rw[zX9,addK,if_neg hr]
 have hml:=h.lt;have hrL:r∉L:=λhm=>hr ((zLd L r).2 hm);have hns:∀n∈ns,m<n/\n<st.length:=λn hn=>by
  obtain⟨j,hj,rfl⟩:=Cn hn;obtain⟨h1,h2⟩:=h.at_ j ns[j] _ (AJ hj) (AJ (by rw[<-h.len];exact hj));grind
 have hne:∀s∈allK L,r≠s:=λs hs e=>hr (e▸hs);refine⟨?_,?_,by rw[hall];simp[h.len],?_,λj n s hn hs=>?_⟩
 ·rw[<-h.pre,List.take_set_of_le (A7 _),Bd,List.take_append_of_le_length (by omega)]
 ·rw[List.getElem?_set_self (by simp;omega),hall];congr 2;apply Bl;intro i;rw[zEt];rcases Nat.lt_trichotomy i ns.length with hi|hi|hi
  ·have hi2:i<(allK L).length:=by rw[<-h.len];exact hi
   grind [BO,zEs,zEt,AJ,only,zGt,Bn]
  ·subst hi;have hp:posL (L++[r]) r=[L.length]:=by rw[zGt,if_pos rfl,zM8 hrL];rfl
   rw[B9 (by rw[zEs h.len,h.len];exact A7 _),zEs h.len,B9 (A7 _),B9 (by rw[h.len];exact A7 _),h.len];simp[hp]
  have hle:=h.len;grind [BV,AR,zEs]
 ·rw[List.nodup_append];refine⟨h.nd,by simp,λx hx y hy=>?_⟩;grind
 rw[hall]at hs;rcases Nat.lt_trichotomy j ns.length with hj|hj|hj
 ·have hj2:j<(allK L).length:=by rw[<-h.len];exact hj
  rw[BO hj]at hn;rw[BO hj2]at hs;obtain⟨h1,h2⟩:=h.at_ j n s hn hs;have h3:=(hns n (B_ hn)).2;refine⟨h1,?_⟩;rw[Cz (by omega),Bd,BO h3,h2];unfold gArr;grind [zGt,B_]
 ·subst hj;rw[B9 (A7 _)]at hn;rw[B9 (by rw[h.len];exact A7 _),h.len]at hs;grind
 grind
end
section
variable(A B:List Nat)(lb:List (Rw×Nat))(ok:Rw->Bool)
def selB(p:Rw×Nat):List (Rw×Nat):=lb.filter λq=>mt A p.1 B q.1
def prQ(p q:Rw×Nat):Rw×Nat:=(mg A p.1 B q.1,p.2*q.2)
def zHm(p:Rw×Nat)(l:List (Rw×Nat)):List (Rw×Nat):=(l.map (prQ A B p)).filter λs=>ok s.1
theorem zRe(la:List (Rw×Nat)):(zB9 (· *·) A la B lb).filter (λp=>ok p.1)=la.flatMap λp=>zHm A B ok p (selB A B lb p):=by
 unfold zB9 zHm selB prQ;rw[List.filter_flatMap]
variable{A B lb ok}
theorem partQ_succ(p:Rw×Nat)(l:List (Rw×Nat))(t:Nat)(h:t<l.length):zHm A B ok p (l.take (t+1))=zHm A B ok p (l.take t)++if ok (mg A p.1 B (l.getD t Ak).1)then[prQ A B p (l.getD t Ak)]else[]:=by
 unfold zHm;rw[BL h,Cy,CD,AX,AJ h];congr 1;simp only[A6,BA,CZ,List.filter_nil,CC];rfl
theorem zWm(p:Rw×Nat)(l:List (Rw×Nat)):(zHm A B ok p l).length<=l.length:=by
 grind [zHm,AT,Bt]
theorem zXe(la:List (Rw×Nat)):∀i,((la.take i).flatMap λp=>zHm A B ok p (selB A B lb p)).length<=i*lb.length:=by
 induction la with
 |nil=>intro i;simp
 |cons p la ih=>
  intro i;cases i<;>grind [AR,CG,zWm,selB,lb,Bt]
theorem flatQ_succ(la:List (Rw×Nat))(i:Nat)(h:i<la.length):(la.take (i+1)).flatMap (λp=>zHm A B ok p (selB A B lb p))=(la.take i).flatMap (λp=>zHm A B ok p (selB A B lb p))++zHm A B ok (la.getD i Ak) (selB A B lb (la.getD i Ak)):=by
 grind [BL,AJ]
theorem pos_sel(hA:Asc A)(hB:Asc B)(p:Rw×Nat):(posL ((lb.map (·.1)).map λr=>zQ r (zBo (λv=>(msk A&&&msk B).testBit v) B)) (zQ p.1 (zBo (λv=>(msk A&&&msk B).testBit v) A))).map (λk=>lb.getD k Ak)=selB A B lb p:=by
 have h:=posn_get lb (λq=>zQ q.1 (zBo (λv=>(msk A&&&msk B).testBit v) B)) (zQ p.1 (zBo (λv=>(msk A&&&msk B).testBit v) A)) (λk hk=>by simp[AX,hk]);rw[BM];refine Eq.trans h ?_;unfold selB;refine Ct λq _=>?_;rw[Cd,decide_eq_true_eq];exact key_mt hA hB p.1 q.1
end
def zXa(L:List Rw):List D:=(allK L).map λr=> .row (nsD (posL L r)) (posL L r).length
theorem look_g(L:List Rw)(r:Rw):zLy Ac nl ((allK L).map kyv) (zXa L) (kyv r)=if r∈L then .row (nsD (posL L r)) (posL L r).length else nl:=by
 unfold zLy zXa;rw[zEi,zCa];grind [zLd,Ce,ctD,allK]
section
variable{T:Par}{sl:List D}{st:List Bk}
theorem Weak.frzSlot(hs:sl[s]?=Am d)(hx:frz Ab st zAz d=Am (x,ks)):Weak T sl st (sl.set s x) (zA3 st ks):=by
 intro β I w tm h;obtain⟨v,hv,hr⟩:=h.rel.get s _ hs;have hfr:=zCp h.sr.weak _ _ _ _ v hx hr;have h0:=h.fzAll ks;refine⟨β,fixI I β st ks,⟨?_,h0.sr,h0.inj,h0.fz,h0.dom,h0.imb,h0.gl⟩,Stp.fzAll h ks,Kp.refl _ _⟩;refine RelT.of_get (by rw[Ci,h0.rel.length]) λi d' u hd hu=>?_;rw[B7]at hd;split at hd
 ·grind [Rel.no]
 obtain⟨u',g1,g2⟩:=h0.rel.get i d' hd;rw[hu]at g1;cases g1;exact g2
theorem frz_osl{st:List Bk}{off l m:Nat}(h:st[k]?=Am e)(hm:e.kd.isMap=Ac)(hn:e.nob=Ab):frz Ab st (n+1) (.osl k off l m wh)=Am (.row ((e.cells.drop off).take m) l,[k]):=by
 grind [only,frz,BT]
end
theorem getDD_ne(d:D)(h:j≠i):(sl.set i d).getD j .unk=sl.getD j .unk:=by
 grind
theorem zG2(d:D)(h:i<sl.length):(sl.set i d).getD i .unk=d:=by
 grind
section
variable{P:Program}{T:Par}{ops:Array Oper}{dr:Bool}{l:List Oper}{sl:List D}{st base:List Bk}{K:List D->List Bk->Prop}{m:Nat}{mt it kt tS:TypeId}{L:List Rw}{ns:List Nat}{inf:TypeInfo}
structure GTy(P:Program)(T:Par)(mt kt tS it:TypeId)(inf:TypeInfo):Prop where
 hmt:P.underlying mt=Am (.map kt tS)
 hkt:P.underlying kt=Am .string
 hts:P.underlying tS=Am (.slice it)
 hzv:zeroV P tS=Am nl
 hsz:tySz P it=Am 1
 hzd:zJ9 P it=Am [iD 0]
 hif:P.info? it=Am inf
 hi1:inf.size=1
 hi8:inf.bytes=8
 hsh:T.sh it=Ac
theorem st_group(ty:GTy P T mt kt tS it inf)(hkp:∀k,m<k->T.keep k=Ac)(hi:i=L.length)(hil:i<=1000000){o1 o2 o3 o4 o5:Oper}{a1 a2 a3 b1 b2 s1 s2 s3 s4:Nat}
  (g1:o1.guard=AE)(g2:o2.guard=AE)(g3:o3.guard=AE)(g4:o4.guard=AE)(g5:o5.guard=AE)
  (p1:o1.op= .lookup mt (.tmp a1) (.tmp a2) Ac)(p2:o2.op= .move (.tmp a3))(p3:o3.op= .buildSlice tS 1 #[(0, .tmp s2)])(p4:o4.op= .call {callee:= .builtin .append,args:=#[.tmp s1, .tmp s3],argTypes:=#[tS,tS]})(p5:o5.op= .mapUpdate mt (.tmp b1) (.tmp b2) (.tmp s4))
  (d1:o1.dst=Am s1)(d2:o2.dst=Am s2)(d3:o3.dst=Am s3)(d4:o4.dst=Am s4)(d5:o5.dst=AE)
  (hlen:(decide (s1<sl.length)&&decide (s2<sl.length)&&decide (s3<sl.length)&&decide (s4<sl.length))=Ab)(hne:(s1≠s2/\s1≠s3/\s1≠s4/\s2≠s3/\s2≠s4/\s3≠s4)/\(a3≠s1/\b1≠s1/\b1≠s2/\b1≠s3/\b1≠s4/\b2≠s1/\b2≠s2/\b2≠s3/\b2≠s4))
  (v1:sl.getD a1 .unk= .mref m)(v2:sl.getD a2 .unk= .val (kyv r))(v3:sl.getD a3 .unk=iD i)(v4:sl.getD b1 .unk= .mref m)(v5:sl.getD b2 .unk= .val (kyv r))
  (hrb:rBL (m+1) sl=Ab)(hbb:bBL m base=Ab)(hG:Grp m mt it L base st ns)
  (next:∀st' ns' e1 e3 e4,Grp m mt it (L++[r]) base st' ns'->seqW P T ops dr l ((((sl.set s1 e1).set s2 (iD i)).set s3 e3).set s4 e4) st' K):
  seqW P T ops dr (o1::o2::o3::o4::o5::l) sl st K:=by
 simp only[Bu,decide_eq_true_eq]at hlen;obtain⟨⟨⟨l1,l2⟩,l3⟩,l4⟩:=hlen;obtain⟨⟨n1,n2,n3,n4,n5,n6⟩,m1,m2,m3,m4,m5,m6,m7,m8,m9⟩:=hne;have hml:=hG.lt;have hpl:(posL L r).length<=1000000:=by
  grind [posL,AT,Bt]
 have hkeyf:(zAb .string (kyv r)=Ab/\((allK L).map kyv).all (zAb .string)=Ab):=⟨rfl,zDl _⟩;have e1:aeff P T o1.op o1.type (evD sl) st= .get (zAb .string (kyv r)=Ab/\((allK L).map kyv).all (zAb .string)=Ab) (zLy Ac nl ((allK L).map kyv) (zDk L ns (allK L)) (kyv r)):=by
  rw[p1];simp only[aeff,evD,v1,v2,zMe,ty.hmt,hG.mp,zH0,ty.hkt,ty.hzv]
 refine zBz g1<|go_get e1 (by rw[p1];rfl) hkeyf rfl ?_;rw[d1];simp only[putD];generalize hd1:zLy Ac nl ((allK L).map kyv) (zDk L ns (allK L)) (kyv r)=D1;have e2:aeff P T o2.op o2.type (evD (sl.set s1 D1)) st= .lit True (iD i):=by
  grind [only,aeff,evD,getDD_ne]
 refine zBz g2<|go_lit e2 (by rw[p2];rfl) trivial rfl ?_;rw[d2];simp only[putD];have e3:aeff P T o3.op o3.type (evD ((sl.set s1 D1).set s2 (iD i))) st= .new (True/\0<1/\1=1/\1*1<=16777216/\1<=9223372036854775807) ⟨[iD i],it,1,Ab,Ac, .plain⟩ (.osl st.length 0 1 (1*1) Ab) []:=by
  rw[p3];have hev:evD ((sl.set s1 D1).set s2 (iD i)) (.tmp s2)=iD i:=by
   grind [only,evD,zG2]
  have hes:zCq P T tS=false:=by simp only[zCq,ty.hts,ty.hsh]
  simp only[aeff,hes,BT,if_false,A6,BA,hev,zC9,ty.hts,ty.hsz,ty.hzd];simp[zEj,frz,zAz,zLg,repL,setAt,zGd,cellsOf,zHt];rfl
 refine zBz g3<|go_new e3 (by rw[p3];rfl) (by decide) rfl rfl ?_;rw[d3];simp only[putD,zA3,CL,Ba];generalize htmp:(⟨[iD i],it,1,Ab,Ac, .plain⟩:Bk)=tmp;have htn:tmp.nob=true:=by rw[<-htmp];rfl
 have hs3:(((sl.set s1 D1).set s2 (iD i)).set s3 (.osl st.length 0 1 1 Ab)).getD s3 .unk= .osl st.length 0 1 1 true:=zG2 _ (by simpa using l3);have hs1:(((sl.set s1 D1).set s2 (iD i)).set s3 (.osl st.length 0 1 1 Ab)).getD s1 .unk=D1:=by
  grind
 have hnew:(st++[tmp])[st.length]?=Am tmp:=by simp
 have hsrc:zEg Ac (st++[tmp]) (.osl st.length 0 1 1 Ab)=Am ([iD i],1):=by
  simp only[zEg,hnew];rw[<-htmp];rfl
 have hsh:zCq P T tS=false:=by simp only[zCq,ty.hts,ty.hsh]
 have hmu:∀(sl':List D)(st':List Bk)(e:Bk)(d:D),sl'.getD b1 .unk= .mref m->sl'.getD b2 .unk= .val (kyv r)->sl'.getD s4 .unk=d->st'[m]?=Am e->e.kd= .map ((allK L).map kyv)->e.nob=Ac->e.fz=Ac->
   aeff P T o5.op o5.type (evD sl') st'= .put (e.fz=Ac/\zAb .string (kyv r)=Ab/\((allK L).map kyv).all (zAb .string)=Ab) m (mput e ((allK L).map kyv) (kyv r) d) []:=λsl' st' e d q1 q2 q3 q4 q5 q6 q7=>by
  rw[p5];simp only[aeff,evD,q1,q2,q3,zDv,ty.hmt,q4,ty.hkt,q5,q6,BT,if_false]
 by_cases hr:r∈allK L
 ·have hj:=Ce.2 hr;obtain⟨k,hk⟩:∃k,ns[(allK L).idxOf r]?=Am k:=⟨ns[(allK L).idxOf r]'(by rw[hG.len];exact hj),AJ _⟩
  have hrr:(allK L)[(allK L).idxOf r]?=Am r:=by rw[AJ hj];simp
  obtain⟨hmk,hkst⟩:=hG.at_ _ k r hk hrr;have hkl:k<st.length:=(BF.1 hkst).1;have hD1:D1= .osl k 0 (posL L r).length (posL L r).length true:=by
   grind [zLy,zEi,zCa,only,ctD,BT,zEt]
  subst hD1;have hkst2:(st++[tmp])[k]?=Am (gArr it L r):=by rw[BO hkl];exact hkst
  have e4:aeff P T o4.op o4.type (evD (((sl.set s1 (.osl k 0 (posL L r).length (posL L r).length Ab)).set s2 (iD i)).set s3 (.osl st.length 0 1 1 Ab))) (st++[tmp])= .app ((gArr it L r).arr=Ab/\(gArr it L r).cells.length=(posL L r).length*inf.size/\(posL L r).length=(posL L r).length*inf.size/\(gArr it L r).ty=it/\(gArr it L r).sz=inf.size/\[iD i].length=1*inf.size/\0<inf.size/\0<inf.bytes/\it=it/\((posL L r).length+1)*inf.bytes<=140737488355328/\[iD 0].length=inf.size/\(gArr it L r).kd.isMap=Ac/\(Ac=Ac\/(gArr it L r).kd.isSh=Ab))
    k {gArr it L r with cells:=if(gArr it L r).nob then(gArr it L r).cells++[iD i]else((gArr it L r).cells++[iD i]).map (zAq k)} (.osl k 0 ((posL L r).length+1) (((posL L r).length+1)*inf.size) Ab):=by
   rw[p4];simp only[aeff,evD,hs1,hs3,unB,hsh,zFy,ty.hts,ty.hif,ty.hzd,hsrc,aApp,hkst2]
  have hnb:(gArr it L r).nob=true:=rfl;rw[hnb,if_pos rfl,ty.hi1,Ba]at e4;refine zBz g4<|go_app e4 (by rw[p4];rfl) (hkp k hmk) ?_ rfl rfl ?_
  ·rw[ty.hi8];exact⟨rfl,by simp,by omega,rfl,rfl,rfl,by decide,by decide,rfl,by omega,rfl,rfl, .inl rfl⟩
  rw[d4];simp only[putD];have hsl:(((sl.set s1 (.osl k 0 (posL L r).length (posL L r).length Ab)).set s2 (iD i)).set s3 (.osl st.length 0 1 1 Ab)).map (zAq k)=((sl.set s1 .unk).set s2 (iD i)).set s3 (.osl st.length 0 1 1 Ab):=by
   rw[CB,CB,CB,zTo (m:=m+1) (by omega) hrb];have q1:zAq k (.osl k 0 (posL L r).length (posL L r).length Ab)= .unk:=by unfold zAq;simp[refs]
   have q2:zAq k (iD i)=iD i:=zNd rfl;grind [zAq,zNd,only,refs]
  rw[hsl];have hp1:(posL (L++[r]) r)=posL L r++[i]:=by rw[zGt,if_pos rfl,hi]
  have hb':({gArr it L r with cells:=(gArr it L r).cells++[iD i]}:Bk)=gArr it (L++[r]) r:=by
   grind
  rw[hb'];have hmp2:(((st++[tmp]).map (zAu k)).set k (gArr it (L++[r]) r))[m]?=Am ⟨(zDk L ns (allK L)).map (zAq k),mt,0,Ac,Ac, .map ((allK L).map kyv)⟩:=by
   rw[Cz (by omega),BH,BO hml,hG.mp];rfl
  refine zBz g5<|zW8 (hmu _ _ _ _ ?_ ?_ (zG2 _ (by simpa using l4)) hmp2 rfl rfl rfl) (by rw[p5];rfl) ⟨rfl,hkeyf⟩ rfl rfl ?_
  ·grind
  ·grind
  rw[d5];simp only[putD,zA3,CL];refine next _ ns _ _ _ (hG.more hbb hr hk tmp htn rfl ?_)
  simp_all [mput,zEi,zCa,only,AR,BC,Cp,Ba,BI]
 have hD1:D1=nl:=by
  rw[<-hd1];unfold zLy;rw[zEi,zCa,if_neg hr];rfl
 subst hD1;have e4:aeff P T o4.op o4.type (evD (((sl.set s1 nl).set s2 (iD i)).set s3 (.osl st.length 0 1 1 Ab))) (st++[tmp])= .new ([iD i].length=1*inf.size/\0<inf.size/\0<inf.bytes/\it=it/\1*inf.bytes<=140737488355328/\[iD 0].length=inf.size) ⟨[iD i],it,inf.size,Ab,Ac,kdOf Ac⟩ (.osl (st++[tmp]).length 0 1 (1*inf.size) Ab) []:=by
  rw[p4];simp only[aeff,evD,hs1,hs3,unB,hsh,zFy,ty.hts,ty.hif,ty.hzd,hsrc,aApp]
 rw[ty.hi1]at e4;refine zBz g4<|go_new e4 (by rw[p4];rfl) ?_ rfl rfl ?_
 ·rw[ty.hi8];grind
 rw[d4];simp only[putD,zA3,CL];have hp1:(posL (L++[r]) r)=[i]:=by rw[zGt,if_pos rfl,hi,zM8 λh=>hr ((zLd L r).2 h)];rfl
 have hmp2:(st++[tmp]++[(⟨[iD i],it,1,Ab,Ac,kdOf Ac⟩:Bk)])[m]?=Am ⟨zDk L ns (allK L),mt,0,Ac,Ac, .map ((allK L).map kyv)⟩:=by
  rw[Bd,BO hml,hG.mp]
 refine zBz g5<|zW8 (hmu _ _ _ _ ?_ ?_ (zG2 _ (by simpa using l4)) hmp2 rfl rfl rfl) (by rw[p5];rfl) ⟨rfl,hkeyf⟩ rfl rfl ?_
 ·grind
 ·grind
 rw[d5];simp only[putD,zA3,CL];refine next _ (ns++[st.length+1]) _ _ _ (hG.new hr tmp (b':=⟨[iD i],it,1,Ab,Ac,kdOf Ac⟩) ?_ ?_)
 ·show(⟨[iD i],it,1,Ab,Ac, .plain⟩:Bk)=⟨nsD (posL (L++[r]) r),it,1,Ab,Ac, .plain⟩;rw[hp1];rfl
 grind [mput,zEi,zCa]
theorem zVx{o:Oper}{x:Operand}(v:D)(g:o.guard=AE)(p:o.op= .move x)(d:o.dst=Am s)(hv:evD sl x=v)(next:seqW P T ops dr l (sl.set s v) st K):seqW P T ops dr (o::l) sl st K:=by
 have e:aeff P T o.op o.type (evD sl) st= .lit True v:=by rw[p,<-hv];rfl
 refine zBz g<|go_lit e (by rw[p];rfl) trivial rfl ?_;rw[d];exact next
theorem zWw(h:∀s0,s0=sl->zZ P T b Q s0 st):zZ P T b Q sl st:=h sl rfl
theorem zWx(dead:List Nat){sl':List D}(e:zAe sl dead=sl')(k:awp P T b Q sl' st):zZ P T b Q sl st:=⟨_,_,Weak.slots (LeL.dead dead sl),e▸k⟩
theorem frz_mref{st:List Bk}{ks:List Value}(h:st[k]?=Am e)(hm:e.kd= .map ks)(hn:e.nob=Ac):frz Ab st (n+1) (.mref k)=(mapF (frz Ab st n) e.cells).map λx=>(.mfz ks x.1,k::x.2):=by
 grind [only,frz,BT]
theorem gfrz{L:List Rw}{it:TypeId}{st:List Bk}:∀(ns:List Nat)(K:List Rw),ns.length=K.length->(∀(j k:Nat)(r:Rw),ns[j]?=Am k->K[j]?=Am r->st[k]?=Am (gArr it L r))->mapF (frz Ab st 8) (zDk L ns K)=Am (K.map λr=> .row (nsD (posL L r)) (posL L r).length,ns)
 |[],[],_,_=>rfl
 | n::ns,r::K,h,ha=>by
  have h1:=ha 0 n r rfl rfl;have ih:=gfrz (L:=L) (it:=it) (st:=st) ns K (by simpa using h) λj k s h1 h2=>ha (j+1) k s (by simpa using h1) (by simpa using h2);have e:frz Ab st 8 (.osl n 0 (posL L r).length (posL L r).length Ab)=Am (.row (nsD (posL L r)) (posL L r).length,[n]):=by
   have h2:=frz_osl (n:=7) (off:=0) (l:=(posL L r).length) (m:=(posL L r).length) (wh:=Ab) h1 rfl rfl;grind [zPk]
  grind [only,zDk,mapF]
theorem weak_grp(hkp:∀k,m<=k->T.keep k=Ac)(hs:sl[s]?=Am (.mref m))(hrb:rBL m (sl.set s .unk)=Ab)(hbb:bBL m base=Ab)(hG:Grp m mt it L base st ns):Weak T sl st (sl.set s (.mfz ((allK L).map kyv) (zXa L))) base:=by
 have hml:=hG.lt;have hx:frz Ab st zAz (.mref m)=Am (.mfz ((allK L).map kyv) (zXa L),m::ns):=by
  have h2:=frz_mref (n:=8) hG.mp rfl rfl;rw[gfrz ns (allK L) hG.len λj k r h1 h2=>(hG.at_ j k r h1 h2).2]at h2;exact h2
 refine(Weak.frzSlot hs hx).trans ?_;have htk:(zA3 st (m::ns)).take m=base:=by
  rw[<-hG.pre];apply Bl;intro i;rw[Cu,Cu];split
  ·rename_i hi;rw[zBn];cases e:st[i]? with
   |none=>rfl
   | some x=>
    have hn:i∉m::ns:=by
     intro h;rcases Bf.1 h with h|h
     ·omega
     obtain⟨j,hj,rfl⟩:=Cn h
     have:=(hG.at_ j ns[j] _ (AJ hj) (AJ (by rw[<-hG.len];exact hj))).1
     omega
    grind
  rfl
 rw[<-htk];refine Weak.cut m ?_ hkp;unfold zF8;simp only[Bq,BB,Bu,Cq,Cc];intro i hi;have hset:∀(sl:List D)(s:Nat)(d:D),rwG m d=Ab->rBL m (sl.set s .unk)=Ab->rBL m (sl.set s d)=true:=by
  intro sl;induction sl with
  |nil=>intro s d _ h;simpa using h
  |cons a sl ih=>
   intro s d hd h;cases s<;>simp_all [only,List.set_cons_zero,rBL,Bu,List.set_cons_succ]
 refine⟨zGs (m:=m) (by omega) _ (hset sl s _ rfl hrb),λe he=>?_⟩;rw[htk]at he
 have:=Bq.1 hbb e he
 simp only[Cc]at this;exact this.imp id λh=>zGs (by omega) _ h
end
end
section
open Go.RowKit
attribute [local irreducible] seqW awp zY zZ zR Weak updS zAe retL Pure Acts rP setP setQ cP nP fr
set_option maxRecDepth 4096
theorem vaB_app(l:List Va)(v:Va):zM (l++[v])=zM l++vaC v:=by grind [zR5,zM]
theorem appV_ok(l:List Va)(t:Nat)(h:l.length=t)(hb:t<=1000000):(vaB l).arr=Ab/\(vaB l).cells.length=t*3/\t*3=t*3/\(vaB l).ty=107/\(vaB l).sz=3/\3=3/\0<3/\0<32/\107=107/\(t+1)*32<=140737488355328/\3=3/\(vaB l).kd.isMap=Ac/\(Ac=Ac\/(vaB l).kd.isSh=Ab):=
 ⟨rfl,by rw[<-h];exact zB6 l,rfl,rfl,rfl,rfl,by decide,by decide,rfl,by omega,rfl,rfl, .inl rfl⟩
theorem zKd(l:List Va)(v:Va):vaB (l++[v])=⟨zM l++vaC v,107,3,Ab,Ac, .plain⟩:=by rw[<-vaB_app]
set_option maxHeartbeats 4000000 in
theorem merge_c(A B:List Nat)(x y:List Va)(n a b:Nat)(hn:(un A B).length=n)(ha:A.length=a)(hb:B.length=b)(hx:x.length=a)(hy:y.length=b)(hA:Asc A)(hB:Asc B)(la:a<=32)(lb:b<=32)(ln:n<=32):
  Pure Ar 95 [.row (nsD (un A B)) n, .row (nsD A) a, .row (zM x) a, .row (nsD B) b, .row (zM y) b] [] (.row (zM (mg A x B y)) n):=by
 have hU:Asc (un A B):=un_asc A B;have hAU:∀v∈A,v∈un A B:=λv h=>zEv.2 ⟨hA.2 v h, .inl h⟩;have hBU:∀v∈B,v∈un A B:=λv h=>zEv.2 ⟨hB.2 v h, .inr h⟩;have mgt:=mg_take A x B y;have hmem:∀v∈un A B,v∈A\/v∈B:=λv h=>(zEv.1 h).2;unfold mg;have sgA:∀v,v∈A->sg A x B y v=x.getD (cntL A v) default:=λv h=>by rw[sg,if_pos h,asg_cnt hA.1 x h]
 have sgB:∀v,v∉A->v∈B->sg A x B y v=y.getD (cntL B v) default:=λv h k=>by rw[sg,if_neg h,asg_cnt hB.1 y k]
 generalize sg A x B y=σ at*;generalize un A B=U at*;subst hn ha hb;refine zJ zCg mixed Tryz.func95 rfl<|vAu<|vA<|ve ((0:Int)<=(0:Int)/\(0:Int)<=(Aa U:Int)/\(↑(32:Nat):Int)*(Aa U:Int)<=(281474976710656:Int)/\(Aa U:Int)<=(281474976710656:Int)/\0<3/\3=3)<|vAe<|zA<|vAe<|zF<|zBp (λ(t:Nat)(l:List Va)=>fr 73 [(1,Ae (nsD A)<|Aa A),(2,Ae (zM x)<|Aa A),(3,Ae (nsD B)<|Aa B),(4,Ae (zM y)<|Aa B),(10,nl),(11,Af 0 0 t (t*3) Ab),(12,iD (↑(cntL A<|bdU U t):Int)),(13,iD (↑(cntL B<|bdU U t):Int)),(21,Ae (nsD U)<|Aa U),(22,iD (Aa U:Int)),(23,iD (t:Int))]) (λt l=>[vaB l]) (λt l=>U.length-t) (λ(t:Nat)(l:List Va)=>t<=U.length/\l=(U.take t).map σ) 0 [] ?_ ?_ ?_
 ·grind
 ·refine wk 12 (iD 0) (iD (↑(cntL A (bdU U 0)):Int)) (by simp[updB,cntL0 hU hAU,cntL0 hU hBU]) (wk 13 (iD 0) (iD (↑(cntL B (bdU U 0)):Int)) (by simp[updB,cntL0 hU hAU,cntL0 hU hBU]) (vk 1))
 rintro t l ⟨h1,h2⟩;rcases AG t U.length with h3|h3
 ·have hv:=bdU_lt hU.2 h3;have hs:=zXx hU hA.nd hAU h3;have hs':=zXx hU hB.nd hBU h3;have hm:=mgt t h3;rw[<-h2]at hm;have hd:=bdU_getD h3;have hk:=hmem _ hv;have hll:l.length=t:=by rw[h2];simp;omega
  by_cases ha:bdU U t∈A
  ·obtain⟨p1,p2⟩:=zZ0 hA.1 ha;rw[sgA _ ha]at hm;rw[if_pos ha]at hs;by_cases hb:bdU U t∈B
   ·obtain⟨q1,q2⟩:=zZ0 hB.1 hb;rw[if_pos hb]at hs';generalize bdU U t=v at*;generalize cntL A v=i at*;generalize cntL B v=k at*;focus
     refine vAu<|zA<|vT ((t:Int)<↑(Aa U))<|vKB<|vA<|vr 1 (ix ↑t ↑(Aa U) (nsD U≠[])) ?_ ⟨(by omega),⟨(by omega),(by exact zV)⟩⟩;refine vp 25 t (nsD U)<|vr 1 (0<Aa (Ah t<|nsD U))<|vs 26 (AQ (Ah t<|nsD U) Uk) (iD v) (hd:=by simp(disch:=omega) only[zA6,hd])<|veT<|zA<|vd [0,1,2,3,4,5,6,7,9,12,13,14,15,16,17,18,19,21,8,10,11,24,20,22,23,25]<|vw 8 [] [(4,Ab)] (decide ((i:Int)<↑(Aa A))=Ab/\ix ↑i ↑(Aa A) (nsD A≠[])) (vp 34 i (nsD A)<|vw 9 [] [(16,Ab)] (decide ((k:Int)<↑(Aa B))=Ab/\ix ↑k ↑(Aa B) (nsD B≠[])) (vp 46 k (nsD B)<|vr 2 (0<Aa (Ah i<|nsD A))<|vs 35 (AQ (Ah i<|nsD A) Uk) (iD v) (hd:=by simp(disch:=omega) only[zA6,p2])<|vr 4 (True/\0<Aa (Ah k<|nsD B))<|vs 47 (AQ (Ah k<|nsD B) Uk) (iD v) (hd:=by simp(disch:=omega) only[zA6,q2]) ?_) ⟨(by exact decide_eq_true (by omega)),⟨(by omega),⟨(by omega),(by exact zV)⟩⟩⟩) ⟨(by exact decide_eq_true (by omega)),⟨(by omega),⟨(by omega),(by exact zV)⟩⟩⟩;refine veT<|zA<|vAe<|vEt ((v:Int)) ((v:Int))<|vA<|vr 5 (ix ↑i ↑(Aa A) (zM x≠[])/\3<=Aa (Ah (i*3)<|zM x)) (vs 56 (Az<|Au 3<|Ah (i*3)<|zM x) (Az<|vaC<|Aq x i Ak) (hd:=by simp(disch:=omega) only[zCu]) ?_) ⟨⟨(by omega),⟨(by omega),(by exact zF1 _)⟩⟩,(by exact zEd _ _)⟩;refine vewh [] [] (((3=3/\3<=3/\True)/\0<3/\3=3/\3<=16777216/\1<=9223372036854775807)/\Bc (vaB l)=Ab/\Aa (AH<|vaB l)=t*3/\t*3=t*3/\A3 (vaB l)=107/\A4 (vaB l)=3/\3=3/\0<3/\0<32/\107=107/\(t+1)*32<=140737488355328/\3=3/\AV (AL<|vaB l)=Ac/\(Ac=Ac\/AW (AL<|vaB l)=Ab)) ⟨⟨⟨(by kernel_rfl),⟨(by omega),trivial⟩⟩,(by omega)⟩,?_⟩ ?_;rotate_left;refine zB rfl<|ve (i6 (↑i+1))<|vAe<|vEt ((v:Int)) ((v:Int))<|zB rfl<|vr 3 (i6 (↑k+1))<|vnil<|zD<|vN<|zB rfl<|vr 2 (i6 (↑t+1))<|vnil<|zC ?_;rotate_left
    all_goals first|exact appV_ok l t hll (by omega)|skip
    refine⟨t+1,l++[x.getD i Ak],⟨by omega,hm.symm⟩,by omega,?_⟩;rw[zKd];refine wk 12 (iD ↑(i+1)) (iD (↑(cntL A (bdU U (t+1))):Int)) (by(simp;omega)) (wk 13 (iD ↑(k+1)) (iD (↑(cntL B (bdU U (t+1))):Int)) (by(simp;omega)) (vk 1))
   rw[if_neg hb,Nat.add_zero]at hs';have q1:=cntL_no hb;generalize bdU U t=v at*;generalize cntL A v=i at*;generalize cntL B v=k at*;focus
    refine vAu<|zA<|vT ((t:Int)<↑(Aa U))<|vKB<|vA<|vr 1 (ix ↑t ↑(Aa U) (nsD U≠[])) ?_ ⟨(by omega),⟨(by omega),(by exact zV)⟩⟩;refine vp 25 t (nsD U)<|vr 1 (0<Aa (Ah t<|nsD U))<|vs 26 (AQ (Ah t<|nsD U) Uk) (iD v) (hd:=by simp(disch:=omega) only[zA6,hd])<|veT<|zA<|vd [0,1,2,3,4,5,6,7,9,12,13,14,15,16,17,18,19,21,8,10,11,24,20,22,23,25]<|vw 8 [] [(4,Ab)] (decide ((i:Int)<↑(Aa A))=Ab/\ix ↑i ↑(Aa A) (nsD A≠[])) (vp 34 i (nsD A)<|vrT 6 ?_) ⟨(by exact decide_eq_true (by omega)),⟨(by omega),⟨(by omega),(by exact zV)⟩⟩⟩;refine vspD 43 ((k:Int)<↑(Aa B)) (λhc=>?_)<|λhc=>?_;refine vr 3 (ix ↑k ↑(Aa B) (nsD B≠[])) (vp 46 k (nsD B)<|vr 2 (0<Aa (Ah i<|nsD A))<|vs 35 (AQ (Ah i<|nsD A) Uk) (iD v) (hd:=by simp(disch:=omega) only[zA6,p2])<|vr 4 (True/\0<Aa (Ah k<|nsD B))<|vs 47 (AQ (Ah k<|nsD B) Uk) (iD ↑(Aq B k 0)) (hd:=by simp(disch:=omega) only[zA6])<|veT<|zA<|vAe<|vEt ((v:Int)) ((v:Int))<|vA ?_) ⟨(by omega),⟨(by omega),(by exact zV)⟩⟩;refine vr 5 (ix ↑i ↑(Aa A) (zM x≠[])/\3<=Aa (Ah (i*3)<|zM x)) (vs 56 (Az<|Au 3<|Ah (i*3)<|zM x) (Az<|vaC<|Aq x i Ak) (hd:=by simp(disch:=omega) only[zCu]) ?_) ⟨⟨(by omega),⟨(by omega),(by exact zF1 _)⟩⟩,(by exact zEd _ _)⟩;refine vewh [] [] (((3=3/\3<=3/\True)/\0<3/\3=3/\3<=16777216/\1<=9223372036854775807)/\Bc (vaB l)=Ab/\Aa (AH<|vaB l)=t*3/\t*3=t*3/\A3 (vaB l)=107/\A4 (vaB l)=3/\3=3/\0<3/\0<32/\107=107/\(t+1)*32<=140737488355328/\3=3/\AV (AL<|vaB l)=Ac/\(Ac=Ac\/AW (AL<|vaB l)=Ab)) ⟨⟨⟨(by kernel_rfl),⟨(by omega),trivial⟩⟩,(by omega)⟩,?_⟩ ?_;rotate_left;refine zB rfl<|ve (i6 (↑i+1))<|vAe<|vEf ((↑(Aq B k 0):Int)) ((v:Int))<|zL<|zD<|vN<|zB rfl<|vr 2 (i6 (↑t+1))<|vnil<|zC ?_;rotate_left;refine vr 5 (0<Aa (Ah i<|nsD A))<|vs 35 (AQ (Ah i<|nsD A) Uk) (iD v) (hd:=by simp(disch:=omega) only[zA6,p2])<|veT<|zA<|vAe<|vEt ((v:Int)) ((v:Int))<|vA<|vr 5 (ix ↑i ↑(Aa A) (zM x≠[])/\3<=Aa (Ah (i*3)<|zM x)) (vs 56 (Az<|Au 3<|Ah (i*3)<|zM x) (Az<|vaC<|Aq x i Ak) (hd:=by simp(disch:=omega) only[zCu]) ?_) ⟨⟨(by omega),⟨(by omega),(by exact zF1 _)⟩⟩,(by exact zEd _ _)⟩;refine vewh [] [] (((3=3/\3<=3/\True)/\0<3/\3=3/\3<=16777216/\1<=9223372036854775807)/\Bc (vaB l)=Ab/\Aa (AH<|vaB l)=t*3/\t*3=t*3/\A3 (vaB l)=107/\A4 (vaB l)=3/\3=3/\0<3/\0<32/\107=107/\(t+1)*32<=140737488355328/\3=3/\AV (AL<|vaB l)=Ac/\(Ac=Ac\/AW (AL<|vaB l)=Ab)) ⟨⟨⟨(by kernel_rfl),⟨(by omega),trivial⟩⟩,(by omega)⟩,?_⟩ ?_;rotate_left;refine zB rfl<|ve (i6 (↑i+1))<|vAe<|vf<|zL<|zD<|vN<|zB rfl<|vr 2 (i6 (↑t+1))<|vnil<|zC ?_;rotate_left
   all_goals first|exact appV_ok l t hll (by omega)|skip
   all_goals first|(exfalso;omega)|skip
   all_goals first|(exfalso;exact q1 (by omega) (by assumption))|skip
   refine⟨t+1,l++[x.getD i Ak],⟨by omega,hm.symm⟩,by omega,?_⟩;rw[zKd];refine wk 12 (iD ↑(i+1)) (iD (↑(cntL A (bdU U (t+1))):Int)) (by(simp;omega)) (wk 13 (iD ↑k) (iD (↑(cntL B (bdU U (t+1))):Int)) (by(simp;omega)) (vk 1));refine⟨t+1,l++[x.getD i Ak],⟨by omega,hm.symm⟩,by omega,?_⟩;rw[zKd];refine wk 12 (iD ↑(i+1)) (iD (↑(cntL A (bdU U (t+1))):Int)) (by(simp;omega)) (wk 13 (iD ↑k) (iD (↑(cntL B (bdU U (t+1))):Int)) (by(simp;omega)) (vk 1))
  have p1:=cntL_no ha;have hb:=hk.resolve_left ha;obtain⟨q1,q2⟩:=zZ0 hB.1 hb;rw[sgB _ ha hb]at hm;rw[if_neg ha,Nat.add_zero]at hs;rw[if_pos hb]at hs';generalize bdU U t=v at*;generalize cntL A v=i at*;generalize cntL B v=k at*;focus
   refine vAu<|zA<|vT ((t:Int)<↑(Aa U))<|vKB<|vA<|vr 1 (ix ↑t ↑(Aa U) (nsD U≠[])) ?_ ⟨(by omega),⟨(by omega),(by exact zV)⟩⟩;refine vp 25 t (nsD U)<|vr 1 (0<Aa (Ah t<|nsD U))<|vs 26 (AQ (Ah t<|nsD U) Uk) (iD v) (hd:=by simp(disch:=omega) only[zA6,hd])<|veT<|zA<|vd [0,1,2,3,4,5,6,7,9,12,13,14,15,16,17,18,19,21,8,10,11,24,20,22,23,25]<|vrT 5<|vspD 31 ((i:Int)<↑(Aa A)) (λhc=>?_)<|λhc=>?_;refine vr 3 (ix ↑i ↑(Aa A) (nsD A≠[])) (vp 34 i (nsD A)<|vw 9 [] [(16,Ab)] (decide ((k:Int)<↑(Aa B))=Ab/\ix ↑k ↑(Aa B) (nsD B≠[])) (vp 46 k (nsD B)<|vr 2 (0<Aa (Ah i<|nsD A))<|vs 35 (AQ (Ah i<|nsD A) Uk) (iD ↑(Aq A i 0)) (hd:=by simp(disch:=omega) only[zA6])<|vr 4 (True/\0<Aa (Ah k<|nsD B))<|vs 47 (AQ (Ah k<|nsD B) Uk) (iD v) (hd:=by simp(disch:=omega) only[zA6,q2])<|veT<|zA<|vAe<|vEf ((↑(Aq A i 0):Int)) ((v:Int)) ?_) ⟨(by exact decide_eq_true (by omega)),⟨(by omega),⟨(by omega),(by exact zV)⟩⟩⟩) ⟨(by omega),⟨(by omega),(by exact zV)⟩⟩;refine zB rfl<|vr 5 (ix ↑k ↑(Aa B) (zM y≠[])/\3<=Aa (Ah (k*3)<|zM y)) (vs 65 (Az<|Au 3<|Ah (k*3)<|zM y) (Az<|vaC<|Aq y k Ak) (hd:=by simp(disch:=omega) only[zCu]) ?_) ⟨⟨(by omega),⟨(by omega),(by exact zF1 _)⟩⟩,(by exact zEd _ _)⟩;refine vewh [] [] (((3=3/\3<=3/\True)/\0<3/\3=3/\3<=16777216/\1<=9223372036854775807)/\Bc (vaB l)=Ab/\Aa (AH<|vaB l)=t*3/\t*3=t*3/\A3 (vaB l)=107/\A4 (vaB l)=3/\3=3/\0<3/\0<32/\107=107/\(t+1)*32<=140737488355328/\3=3/\AV (AL<|vaB l)=Ac/\(Ac=Ac\/AW (AL<|vaB l)=Ab)) ⟨⟨⟨(by kernel_rfl),⟨(by omega),trivial⟩⟩,(by omega)⟩,?_⟩ ?_;rotate_left;refine vAe<|vEt ((v:Int)) ((v:Int))<|zB rfl<|vr 3 (i6 (↑k+1))<|vnil<|zD<|vN<|zB rfl<|vr 2 (i6 (↑t+1))<|vnil<|zC ?_;rotate_left;refine vw 12 [] [(16,Ab)] (decide ((k:Int)<↑(Aa B))=Ab/\ix ↑k ↑(Aa B) (nsD B≠[])) (vp 46 k (nsD B)<|vr 6 (0<Aa (Ah k<|nsD B))<|vs 47 (AQ (Ah k<|nsD B) Uk) (iD v) (hd:=by simp(disch:=omega) only[zA6,q2])<|veT<|zA<|vAe<|vf<|zB rfl<|vr 5 (ix ↑k ↑(Aa B) (zM y≠[])/\3<=Aa (Ah (k*3)<|zM y)) (vs 65 (Az<|Au 3<|Ah (k*3)<|zM y) (Az<|vaC<|Aq y k Ak) (hd:=by simp(disch:=omega) only[zCu]) ?_) ⟨⟨(by omega),⟨(by omega),(by exact zF1 _)⟩⟩,(by exact zEd _ _)⟩) ⟨(by exact decide_eq_true (by omega)),⟨(by omega),⟨(by omega),(by exact zV)⟩⟩⟩;refine vewh [] [] (((3=3/\3<=3/\True)/\0<3/\3=3/\3<=16777216/\1<=9223372036854775807)/\Bc (vaB l)=Ab/\Aa (AH<|vaB l)=t*3/\t*3=t*3/\A3 (vaB l)=107/\A4 (vaB l)=3/\3=3/\0<3/\0<32/\107=107/\(t+1)*32<=140737488355328/\3=3/\AV (AL<|vaB l)=Ac/\(Ac=Ac\/AW (AL<|vaB l)=Ab)) ⟨⟨⟨(by kernel_rfl),⟨(by omega),trivial⟩⟩,(by omega)⟩,?_⟩ ?_;rotate_left;refine vAe<|vEt ((v:Int)) ((v:Int))<|zB rfl<|vr 3 (i6 (↑k+1))<|vnil<|zD<|vN<|zB rfl<|vr 2 (i6 (↑t+1))<|vnil<|zC ?_;rotate_left
  all_goals first|exact appV_ok l t hll (by omega)|skip
  all_goals first|(exfalso;omega)|skip
  all_goals first|(exfalso;exact p1 (by omega) (by assumption))|skip
  refine⟨t+1,l++[y.getD k Ak],⟨by omega,hm.symm⟩,by omega,?_⟩;rw[zKd];refine wk 12 (iD ↑i) (iD (↑(cntL A (bdU U (t+1))):Int)) (by(simp;omega)) (wk 13 (iD ↑(k+1)) (iD (↑(cntL B (bdU U (t+1))):Int)) (by(simp;omega)) (vk 1));refine⟨t+1,l++[y.getD k Ak],⟨by omega,hm.symm⟩,by omega,?_⟩;rw[zKd];refine wk 12 (iD ↑i) (iD (↑(cntL A (bdU U (t+1))):Int)) (by(simp;omega)) (wk 13 (iD ↑(k+1)) (iD (↑(cntL B (bdU U (t+1))):Int)) (by(simp;omega)) (vk 1))
 refine vAu<|zA<|vF ((t:Int)<(Aa U:Int))<|vZ2<|vAe<|zG<|zBt (True) (Ae (Au (t*3)<|Ah 0<|AH<|vaB l) t) (Ae (Au (t*3)<|zM l) t) (.inr rfl) (by simp(disch:=omega) only[A2]) ?_;grind [CH,zVq,AM]
abbrev fcC(f:Fn):List D:=[.row (nsD f.1) f.1.length, .row (rwsD f.2) f.2.length, .row (vlsD f.2) f.2.length]
theorem zZo(f:Fn):(fcC f).length=3:=rfl
structure FV(f:Fn):Prop where
 asc:Asc f.1
 len:∀p∈f.2,p.1.length=f.1.length
 vs:∀p∈f.2,∀x∈p.1,Vs x
 sz:f.2.length<=1000000
 sm:∀p∈f.2,Sm p.2
 nd:Ndk f.2
theorem getD_fst(l:List (Rw×Nat))(h:k<l.length):(l.map (·.1)).getD k []=(l.getD k Ak).1:=by grind
theorem getD_snd(l:List (Rw×Nat))(h:k<l.length):(l.map (·.2)).getD k 0=(l.getD k Ak).2:=by grind
abbrev fltB(l:List D):Bk:=⟨l,203,2,Ab,Ac, .plain⟩
noncomputable def Tm:Par:=⟨λ_=>Ac,zPp Ar,λ_=>Ac,hvOf Ar,λt=>shOf Ar t||t==39⟩
theorem Tm_ok:zBg Ar Tm:=λt n f h v W=>zVd Ar (λ_=>Ac) (λ_=>Ac) t n f h v W
theorem gty:∃inf,GTy Ar Tm 206 9 39 3 inf:=by
 refine⟨(Ar.info? 3).getD Ak,by kernel_rfl,by kernel_rfl,by kernel_rfl,by kernel_rfl,by kernel_rfl,by kernel_rfl,by kernel_rfl,by kernel_rfl,by kernel_rfl,by kernel_rfl⟩
set_option maxHeartbeats 8000000 in
theorem multiply_c(f g:Fn)(os:List Fn)(hf:FV f)(hg:FV g)(ho:∀o∈os,FV o)(hl:os.length<=1000)(hsz:f.2.length*g.2.length<=1000000):
  Pure Ar 49 [cntD,fcD f.1 f.2,fcD g.1 g.2, .row (os.flatMap fcC) os.length] [] (fcD (un f.1 g.1) (srtL ((zB9 (· *·) f.1 f.2 g.1 g.2).filter λp=>os.all λo=>okO (un f.1 g.1) p.1 (faN o)))):=by
 obtain⟨A,la⟩:=f;obtain⟨B,lb⟩:=g;obtain⟨hA,al,av,as',am,nda⟩:=hf;obtain⟨hB,bl,bv,bs',bm,ndb⟩:=hg;simp only at hA al av as' am nda hB bl bv bs' bm ndb hsz⊢;have nA:=zCx hA;have nB:=zCx hB;have hmA:=zCc hA.2;have hmB:=zCc hB.2;have hmo:=zQw hmA hmB;have hma:=zX7 (b:=msk B) hmA;have sA:=zRt A _ rfl (by omega) hA.2 (rwsD la) (vlsD la) la.length la.length;have sB:=zRt B _ rfl (by omega) hB.2 (rwsD lb) (vlsD lb) lb.length lb.length;have hU:=un_asc A B;have hmu:=msk_un hA.2 hB.2;have hmem:=zKr (msk A|||msk B) hmo;rw[hmu,zHp hU]at hmem;have nU:=zCx hU;rw[hmu]at hmo;have cA:=zD7 A A _ rfl hA.2 (msk A&&&msk B) hma;have cB:=zD7 B B _ rfl hB.2 (msk A&&&msk B) hma;obtain⟨U,eU⟩:∃U,U=un A B:=⟨_,rfl⟩;rw[<-eU]at hU hmu hmem nU hmo⊢;refine zJ (T:=Tm) Tm_ok mixed Tryz.func49 rfl<|vAu<|zA<|vd [0,1,2,3,4,5]<|vr 1 (3<=3)<|vc (sA)<|vr 1 (3<=3)<|vc (sB)<|vrT 1<|vs 30 (Aj<|Al AK<|A0 AK (↑(AS (Ay 32 (↑(msk A):Int)|||Ay 32 (↑(msk B):Int))):Int)) (dig<|msk U) (hd:=by simp(disch:=omega) only[zX0,zBw,hmu])<|veT<|vA<|vrT 1<|vc (hmem)<|ve (((1=1/\1<=3/\True)/\Ab=Ab)/\Ac=Ac/\Ab=Ab/\3=3/\3<=3)<|vAe<|zA<|vAe<|zF<|zN (λ(i:Nat)=>fr 147 [(0,cntD),(5,Ag 0 0),(6,Ag 1 0),(8,Ag 2 0),(9,dig<|msk U),(10,Ag 3 0),(11,Af 4 0 i (i*2) Ab),(34,Ae (AB fcC os)<|Aa os),(35,iD (Aa os:Int)),(36,iD (i:Int))]) (λ(i:Nat)=>[fB1 (.row (nsD A) A.length) (.row (rwsD la) la.length)<|.row (vlsD la) la.length,fB1 (.row (nsD B) B.length) (.row (rwsD lb) lb.length)<|.row (vlsD lb) lb.length,fB1 nl nl nl,fB1 (.row (nsD U) U.length) nl nl,fltB<|((os.take i).map (fltF U)).flatMap flC]) (λi=>os.length-i) (λ(i:Nat)=>i<=os.length) 0 ?_ ?_ ?_
 ·omega
 ·refine vk 4
 rintro i h1;rcases AG i os.length with h2|h2
 ·have hom:os.getD i Ak∈os:=by rw[AX,AJ h2];exact Bn h2
  obtain⟨hO,ol,ov,os2,_,_⟩:=ho _ hom;have hg2:=zDo zZo os i h2;have hle:=zHc zZo os i h2;have hne:=zEk zZo (by decide) os;have he:((os.take (i+1)).map (fltF U)).flatMap flC=((os.take i).map (fltF U)).flatMap flC++flC (fltF U (os.getD i Ak)):=by
   grind [zBl]
  have hlb:(((os.take i).map (fltF U)).flatMap flC).length=i*2:=by rw[zHx zJ2];simp;omega
  have nO:=zCx hO;generalize os.getD i Ak=o at*;have hfo:=filterOf_c o.1 U _ _ o.2.length rfl rfl nO nU hO.2 hU.2 (o.2.map (·.1)) _ (by simp) os2 (λr hr=>by
   obtain⟨p,hp,rfl⟩:=A_.1 hr;exact ol p hp) (λr hr=>by
   obtain⟨p,hp,rfl⟩:=A_.1 hr;exact ov p hp) (vlsD o.2) (msk U) hmo
  refine vAu<|zA<|vT ((i:Int)<↑(Aa os))<|vKB<|vA<|vr 2 (ix ↑i ↑(Aa os) (AB fcC os≠[])/\3<=Aa (Ah (i*3)<|AB fcC os))<|vs 39 (Az<|Au 3<|Ah (i*3)<|AB fcC os) (Az<|fcC o)<|ve (an_)<|zB rfl<|vr 5 (3<=3/\True/\0<3)<|vc hfo<|vr 3 (((2=2/\2<=2/\True)/\0<2/\2=2/\2<=16777216/\1<=9223372036854775807)/\Bc (fltB<|AB flC<|Ad (fltF U)<|Au i os)=Ab/\Aa (AH<|fltB<|AB flC<|Ad (fltF U)<|Au i os)=i*2/\i*2=i*2/\A3 (fltB<|AB flC<|Ad (fltF U)<|Au i os)=203/\A4 (fltB<|AB flC<|Ad (fltF U)<|Au i os)=2/\2=2/\0<2/\0<32/\203=203/\(i+1)*32<=140737488355328/\2=2/\AV (AL<|fltB<|AB flC<|Ad (fltF U)<|Au i os)=Ac/\(Ac=Ac\/AW (AL<|fltB<|AB flC<|Ad (fltF U)<|Au i os)=Ab))<|vnil<|zD<|vN<|zB rfl<|vr 2 (i6 (↑i+1))<|vnil<|zC<|⟨i+1,by omega,by omega,?_⟩;rw[he];refine vk 5
 rw[AU h2];obtain rfl:i=os.length:=by omega
 obtain⟨c1,ec1⟩:∃c,c=zBo (λv=>(msk A&&&msk B).testBit v) A:=⟨_,rfl⟩;obtain⟨c2,ec2⟩:∃c,c=zBo (λv=>(msk A&&&msk B).testBit v) B:=⟨_,rfl⟩;rw[<-ec1]at cA;rw[<-ec2]at cB;have hl1:∀c∈c1,c<A.length:=λc h=>by rw[ec1]at h;exact(zG4.1 h).1
 have hl2:∀c∈c2,c<B.length:=λc h=>by rw[ec2]at h;exact(zG4.1 h).1
 have hn1:c1.length<=32:=by rw[ec1];exact AT (zJh _ _) nA
 have hn2:c2.length<=32:=by rw[ec2];exact AT (zJh _ _) nB
 refine vAu<|zA<|vF ((Aa os:Int)<↑(Aa os))<|vZ2<|zA<|vd [0,1,2,3,4,5]<|vr 1 (3<=3)<|vc sA<|vr 1 (3<=3)<|vc sB<|vrT 1<|vs 53 (Aj<|Al AK<|A0 AK (↑(AS (Ay 32 (↑(msk A):Int)&&&Ay 32 (↑(msk B):Int))):Int)) (dig (msk A&&&msk B)) (hd:=by simp(disch:=omega) only[bv_and,zBw])<|veT<|zA<|vd [0,2,4,6,1,3,5,7,8,9]<|vr 5 (True/\True/\0<3)<|vc cA<|vr 1 (0<3)<|vc cB<|veT<|vAe<|zA<|vA<|ve (as_)<|zF ?_;obtain⟨inf,ty⟩:=gty;obtain⟨Lb,eLb⟩:∃L:List Rw,L=(lb.map (·.1)).map λr=>zQ r c2:=⟨_,rfl⟩;have hLb:Lb.length=lb.length:=by rw[eLb];simp
 obtain⟨base,ebase⟩:∃base:List Bk,base=[fB1 (.row (nsD A) A.length) (.row (rwsD la) la.length) (.row (vlsD la) la.length),fB1 (.row (nsD B) B.length) (.row (rwsD lb) lb.length) (.row (vlsD lb) lb.length),fB1 nl nl nl,fB1 (.row (nsD U) U.length) nl nl,fltB ((os.map (fltF U)).flatMap flC)]:=⟨_,rfl⟩;have hbb:bBL 5 base=true:=by rw[ebase];rfl
 refine zA0 (λ(k:Nat)(st:List Bk)(ns:List Nat)=>fr 147 [(0,cntD),(5,Ag 0 0),(6,Ag 1 0),(8,Ag 2 0),(10,Ag 3 0),(11,Af 4 0 (Aa os) (Aa os*2) Ab),(15,(q10_ c1)),(16,(q10_ c2)),(17,D.mref 5),(64,(q11_ lb)),(65,iD<|Aa lb),(66,iD k)]) (λ(k:Nat)(st:List Bk)(ns:List Nat)=>st) (λk st ns=>lb.length-k) (λ(k:Nat)(st:List Bk)(ns:List Nat)=>k<=lb.length/\Grp 5 206 3 (Lb.take k) base st ns) 0 [fB1 (.row (nsD A) A.length) (.row (rwsD la) la.length)<|.row (vlsD la) la.length,fB1 (.row (nsD B) B.length) (.row (rwsD lb) lb.length)<|.row (vlsD lb) lb.length,fB1 nl nl nl,fB1 (.row (nsD U) U.length) nl nl,fltB<|(os.map (fltF U)).flatMap flC,⟨[],206,0,Ac,Ac,.map []⟩] [] ?_ ?_ ?_
 ·exact⟨by omega,⟨by rw[ebase];rfl,rfl,rfl,List.nodup_nil,λj k r h=>by simp at h⟩⟩
 ·refine vk 6
 rintro k st ns ⟨h3,hG⟩;rcases AG k lb.length with h4|h4
 ·have hne:rwsD lb≠[]:=zV (h:=by simp;omega);have hrow:(lb.map (·.1)).getD k []∈lb.map (·.1):=by
   grind
  obtain⟨p,hp,he⟩:=A_.1 hrow;have hlen2:=bl p hp;have hvs:=bv p hp;rw[he]at hlen2 hvs;have hx1:=zAl (lb.map (·.1)) k (by simpa using h4);have hts:Lb.take (k+1)=Lb.take k++[zQ ((lb.map (·.1)).getD k []) c2]:=by
   grind [BL,only,AJ]
  generalize (lb.map (·.1)).getD k []=row at*;have hk:=zTp row c2 _ _ rfl rfl (by rw[hlen2];exact hl2) hvs;refine vA<|zAh [] [(67,bD<|decide ((k:Int)<↑(Aa lb)))] ?_;refine zA<|vT ((k:Int)<↑(Aa lb))<|vKB<|vA<|zX 2 [] [] (ix ↑k ↑(Aa lb) (rwsD lb≠[])) [(68,iD k),(69,A8<|Ah (Ax (k:Int)*1)<|rwsD lb)] ?_ (hc:=⟨(by omega),⟨(by omega),(by assumption)⟩⟩);refine zAp 69 (A8<|Ah (Ax (k:Int)*1)<|rwsD lb) (A8<|Ah k<|rwsD lb) (by simp(disch:=omega) only[Bm,Ba]) ?_;refine zX 1 [] [] (0<Aa (Ah k<|rwsD lb)) [(70,AQ (Ah k<|rwsD lb) Uk)] ?_ (hc:=by(simp;omega));refine zAp 70 (AQ (Ah k<|rwsD lb) Uk) (rowV row) (by simp(disch:=omega) only[hx1]) ?_;refine zAh [67,68,69,70] [(18,iD k),(19,(q3_ row))] ?_;refine vA<|zBa 2 [(71,(q3_ row)),(72,(q10_ c2))] ?_;refine zYn [(q3_ row),(q10_ c2)] (by exact hk) ?_;refine zBa 1 [(20,Aj<|AN<|bs<|idR<|zQ row c2)] ?_;refine zAn ?_ (by kernel_rfl);refine zC (zWw λs0 hs0=>?_);refine zK<|zB rfl<|zVx (.mref 5) rfl rfl rfl (by rw[hs0];kernel_rfl)<|zVx (.val<|kyv<|zQ row c2) rfl rfl rfl (by rw[hs0];kernel_rfl)<|zVx (.mref 5) rfl rfl rfl (by rw[hs0];kernel_rfl)<|zVx (.val<|kyv<|zQ row c2) rfl rfl rfl (by rw[hs0];kernel_rfl) ?_;refine st_group (m:=5) (L:=Lb.take k) (r:=zQ row c2) (i:=k) (base:=base) (ns:=ns) (a1:=76) (a2:=77) (a3:=18) (b1:=74) (b2:=75) (s1:=78) (s2:=79) (s3:=80) (s4:=81) ty (λ_ _=>rfl) (by simp;omega) (by omega) rfl rfl rfl rfl rfl rfl rfl rfl rfl rfl rfl rfl rfl rfl rfl (by rw[hs0];kernel_rfl) (by decide) (by rw[hs0];kernel_rfl) (by rw[hs0];kernel_rfl) (by rw[hs0];kernel_rfl) (by rw[hs0];kernel_rfl) (by rw[hs0];kernel_rfl) (by rw[hs0];kernel_rfl) hbb hG ?_;intro st' ns' e1 e3 e4 hG';refine zAn ?_ (by kernel_rfl);refine zD<|zC<|zWx [74,75,76,77,78,79,80,81] (sl':=s0) (by rw[hs0];kernel_rfl) ?_;subst hs0;refine zB rfl<|zX 2 [] [] (i6 (↑k+1)) [(66,iD ↑(k+1)),(82,iD ↑(k+1))] ?_;refine zAn ?_ (by kernel_rfl);refine zC<|⟨k+1,st',ns',⟨by omega,by rw[hts];exact hG'⟩,by omega,?_⟩;refine vkp [0,5,6,8,10,11,15,16,17,64,65,66]
 rw[AU (by omega)]at hG;subst ebase;refine vA<|zAh [] [(67,bD<|decide ((k:Int)<↑(Aa lb)))] ?_;refine zA<|vF ((k:Int)<↑(Aa lb))<|vY2<|zC ?_;have hfl:=zFq zJ2 (os.map (fltF U)) os.length (by simp);refine zBh ((weak_grp (m:=5) (s:=17) (λ_ _=>rfl) (by kernel_rfl) (by kernel_rfl) hbb hG).trans<|((BZ (j:=3) (i:=1) (rowB []) rfl rfl rfl rfl).trans (BZ (j:=3) (i:=2) (natB []) rfl rfl rfl rfl)).trans<|Weak.osr (s:=11) (k:=4) (off:=0) (n:=os.length) (m:=os.length*2) (wh:=Ab) (cs:=(os.map (fltF U)).flatMap flC) (by kernel_rfl) (show Am (Ae ((((os.map (fltF U)).flatMap flC).drop 0).take (os.length*2)) os.length,[4])=_ by rw[A2,hfl])) ?_;refine zA<|vAs<|ve (as_)<|zF ?_;clear hG h3 h4;obtain⟨ok,eok⟩:∃ok:Rw->Bool,ok=λs=>os.all λo=>okO U s (faN o):=⟨_,rfl⟩;have hpf:((zB9 (· *·) A la B lb).filter λp=>os.all λo=>okO U p.1 (faN o))=la.flatMap λp=>zHm A B ok p (selB A B lb p):=by
  rw[eok];exact zRe A B lb (λs=>os.all λo=>okO U s (faN o)) la
 rw[hpf];refine zBp (λ(i:Nat)(O:List (Rw×Nat))=>fr 147 [(0,cntD),(5,Ag 0 0),(6,Ag 1 0),(8,Ag 2 0),(10,Ag 3 0),(11,D.osr 4 0 (Aa os) (Aa os*2) Ab<|AB flC<|Ad (fltF U) os),(15,(q10_ c1)),(17,D.mfz (Ad kyv<|allK Lb)<|zXa Lb),(84,(q11_ la)),(85,iD<|Aa la),(86,iD i)]) (λ(i:Nat)(O:List (Rw×Nat))=>[fB1 (.row (nsD A) A.length) (.row (rwsD la) la.length)<|.row (vlsD la) la.length,fB1 (.row (nsD B) B.length) (.row (rwsD lb) lb.length)<|.row (vlsD lb) lb.length,fB1 nl nl nl,fB1 (.row (nsD U) U.length) (.osl 5 0 O.length O.length Ab)<|.osl 6 0 O.length O.length Ab,⟨(os.map (fltF U)).flatMap flC,203,2,Ab,Ab,.plain⟩,rowB<|rwsD O,natB<|vlsD O]) (λi O=>la.length-i) (λ(i:Nat)(O:List (Rw×Nat))=>i<=la.length/\O=(la.take i).flatMap λp=>zHm A B ok p (selB A B lb p)) 0 [] ?_ ?_ ?_
 ·grind
 ·refine vk 7
 rintro i O ⟨h3,hO⟩;rcases AG i la.length with h4|h4
 ·have hne:rwsD la≠[]:=zV (h:=by simp;omega);have hne2:vlsD la≠[]:=zV (h:=by simp;omega);have hx1:=zAl (la.map (·.1)) i (by simpa using h4);have hx2:=zGe (la.map (·.2)) i (by simpa using h4);have hpm:la.getD i Ak∈la:=by rw[AX,AJ h4];exact Bn h4
  have hr1:(la.map (·.1)).getD i []=(la.getD i Ak).1:=by simp[AX,h4]
  have hr2:(la.map (·.2)).getD i 0=(la.getD i Ak).2:=by simp[AX,h4]
  have hfs:=flatQ_succ (A:=A) (B:=B) (lb:=lb) (ok:=ok) la i h4;have hOl:O.length<=i*lb.length:=by rw[hO];exact zXe la i
  have hmul:(i+1)*lb.length<=la.length*lb.length:=BW _ h4;rw[CG]at hmul;rw[<-hO]at hfs;have hlen2:=al _ hpm;have hvs:=av _ hpm;have hsm:=am _ hpm;rw[hr1]at hx1;rw[hr2]at hx2;generalize la.getD i Ak=p at*;have hk:=zTp p.1 c1 _ _ rfl rfl (by rw[hlen2];exact hl1) hvs;have hlk:=look_g Lb (zQ p.1 c1);have hps:=pos_sel (lb:=lb) hA hB p;rw[<-ec1,<-ec2,<-eLb]at hps;by_cases hin:zQ p.1 c1∈Lb
  ·rw [if_pos hin]at hlk;have hposk:∀k∈posL Lb (zQ p.1 c1),k<lb.length:=λk hk=>by rw[<-hLb];exact pos_lt hk
   generalize posL Lb (zQ p.1 c1)=pos at*;focus
    refine vAu (zA (vT ((i:Int)<↑(Aa la)) (vKB (vA (vr 2 (ix ↑i ↑(Aa la) (rwsD la≠[])) (vp 89 i (rwsD la) (vr 1 (0<Aa (Ah i (rwsD la))) (vsh 90 hx1 (veT (vA (vrT 3 (vc hk (vwh 1 [] [] (zAb (Bh (Bi Bj "string" 1 16 Ab 8 8 (Am (AN (AY #[]))) Ab #[])) (AN (bs (idR (zQ (An p) c1))))=Ab/\BY (Ad kyv (allK Lb)) (zAb (Bh (Bi Bj "string" 1 16 Ab 8 8 (Am (AN (AY #[]))) Ab #[])))=Ab) ?_ ?_)))))))))))));rotate_left;refine vsh 95 hlk (veT (zF ?_));rotate_left
   ·exact⟨rfl,zDl _⟩
   have hsl:(selB A B lb p).length=pos.length:=by rw[<-hps,AM]
   have hsb:(selB A B lb p).length<=lb.length:=Bt _ _;have hts:=λt h=>partQ_succ (A:=A) (B:=B) (ok:=ok) p (selB A B lb p) t h;refine zBp (λ(t:Nat)(R:List (Rw×Nat))=>fr 147 [(0,cntD),(5,Ag 0 0),(6,Ag 1 0),(8,Ag 2 0),(10,Ag 3 0),(11,D.osr 4 0 (Aa os) (Aa os*2) Ab<|AB flC<|Ad (fltF U) os),(15,(q10_ c1)),(17,D.mfz (Ad kyv<|allK Lb)<|zXa Lb),(21,iD i),(22,Ae (zM<|An p)<|Aa<|An p),(84,(q11_ la)),(85,iD<|Aa la),(86,iD i),(95,Ae (nsD pos)<|Aa pos),(96,iD<|Aa pos),(97,iD t)]) (λ(t:Nat)(R:List (Rw×Nat))=>[fB1 (.row (nsD A) A.length) (.row (rwsD la) la.length)<|.row (vlsD la) la.length,fB1 (.row (nsD B) B.length) (.row (rwsD lb) lb.length)<|.row (vlsD lb) lb.length,fB1 nl nl nl,fB1 (.row (nsD U) U.length) (.osl 5 0 R.length R.length Ab)<|.osl 6 0 R.length R.length Ab,⟨(os.map (fltF U)).flatMap flC,203,2,Ab,Ab,.plain⟩,rowB<|rwsD R,natB<|vlsD R]) (λt R=>pos.length-t) (λ(t:Nat)(R:List (Rw×Nat))=>t<=pos.length/\R=O++zHm A B ok p ((selB A B lb p).take t)) 0 O ?_ ?_ ?_
   ·grind [zHm]
   ·refine vk 7
   rintro t R ⟨h5,hR⟩;have hRl:R.length<=O.length+t:=by
    grind [zWm,selB,lb,AR,only,List.length_take]
   rcases AG t pos.length with h6|h6
   ·have hne3:rwsD lb≠[]:=zV (h:=by simp;omega);have hne4:vlsD lb≠[]:=zV (h:=by simp;omega);have hkm:=hposk _ (zDy pos t h6);have hsg:(selB A B lb p).getD t Ak=lb.getD (pos.getD t 0) default:=by
     grind
    have hqm:lb.getD (pos.getD t 0) Ak∈lb:=by rw[AX,AJ hkm];exact Bn hkm
    have hy1:=zAl (lb.map (·.1)) (pos.getD t 0) (by simpa using hkm);have hy2:=zGe (lb.map (·.2)) (pos.getD t 0) (by simpa using hkm);have hr3:=getD_fst lb hkm;have hr4:=getD_snd lb hkm;have hp1:0<((rwsD lb).drop (pos.getD t 0)).length:=by rw[List.length_drop,AM,AM];omega
    have hp2:0<((vlsD lb).drop (pos.getD t 0)).length:=by rw[List.length_drop,AM,AM];omega
    have ht1:=hts t (by omega);rw[hsg]at ht1;rw[hr3]at hy1;rw[hr4]at hy2;have hql:=bl _ hqm;have hqv:=bv _ hqm;have hqs:=bm _ hqm;have hz:=zA6 pos t h6;generalize lb.getD (pos.getD t 0) Ak=q at*;have hmg:Pure Ar 95 [.row (nsD U) U.length, .row (nsD A) A.length, .row (zM p.1) p.1.length, .row (nsD B) B.length, .row (zM q.1) q.1.length] [] (.row (zM (mg A p.1 B q.1)) U.length):=by
     grind [merge_c]
    have hml:(mg A p.1 B q.1).length=U.length:=by rw[mg,AM,eU]
    have hmv:∀v∈mg A p.1 B q.1,Vs v:=λv hv=>by
     obtain⟨w,_,rfl⟩:=A_.1 hv;have gv:∀(C:List Nat)(x:List Va),(∀v∈x,Vs v)->Vs (asg C x w):=λC x hx=>by
      unfold asg;rw[AX];cases e:x[C.idxOf w]? with
      |none=>exact⟨by decide,by decide,by decide⟩
      |some u=>exact hx u (B_ e)
     unfold sg;grind
    have hpa:=passes_c (os.map (fltF U)) _ rfl (by simp;omega) (mg A p.1 B q.1) _ hml (by omega) hmv (λf hf=>by
     obtain⟨o,ho',rfl⟩:=A_.1 hf;exact⟨by have:=zJh (λv=>(msk o.1&&&msk U).testBit v) U;simp only[fltF];omega,λc hc=>by rw[hml];exact(zG4.1 hc).1⟩)
    rw[AM,List.all_map]at hpa;have hoke:(os.all ((λf=>decide (zQ (mg A p.1 B q.1) f.1∈f.2))∘fltF U))=ok (mg A p.1 B q.1):=by
     rw[eok];simp only[Function.comp_def];rw[Cd,Bq,Bq];constructor
     ·intro h o ho';rw[<-flt_ok hU (ho o ho').asc];exact h o ho'
     intro h o ho';rw[flt_ok hU (ho o ho').asc];exact h o ho'
    rw[hoke]at hpa;have hmu2:=cmul_c p.2 q.2 hsm hqs;focus
     refine vAu<|zA<|vT ((t:Int)<↑(Aa pos))<|vKB<|vA<|vr 1 (ix ↑t ↑(Aa pos) (nsD pos≠[])) ?_ ⟨(by omega),⟨(by omega),(by exact zV)⟩⟩;refine vp 99 t (nsD pos)<|vr 1 (0<Aa (Ah t<|nsD pos))<|vsh 100 hz<|veT<|zA<|vd [0,2,4,5,7,9,1,3,6,8,10,11,12,13]<|vr 11 (True/\True/\True/\True/\0<3/\0<3/\0<3/\0<2/\ix ↑(Aq pos t 0) ↑(Aa lb) (rwsD lb≠[]))<|vp 111 (Aq pos t 0) (rwsD lb)<|vr 1 (0<Aa (Ah (Aq pos t 0)<|rwsD lb))<|vsh 112 hy1<|vc hmg<|veT<|vA<|vrT 2<|vc hpa<|veT<|zAk (t:=ok (mg A (An p) B (An q))) (by kernel_rfl) (λhc=>?_)<|λhc=>?_;refine vA<|vr 7 (ao_ ((Bc (rowB<|rwsD R)=Ab/\Aa (AH<|rowB<|rwsD R)=Aa R*1/\Aa R=Aa R*1/\A3 (rowB<|rwsD R)=110/\A4 (rowB<|rwsD R)=1/\1=1/\0<1/\0<24/\110=110/\(Aa R+1)*24<=140737488355328/\1=1/\AV (AL<|rowB<|rwsD R)=Ac/\(Ac=Ac\/AW (AL<|rowB<|rwsD R)=Ab))/\ap_))<|vb 3 (Ao [Ae (nsD U)<|Aa U,Af 5 0 (Aa R+1) ((Aa R+1)*1) Ab,Af 6 0 (Aa R) (Aa R) Ab] 90 0 Ac Ac Ap) (Ao [Ae (nsD U)<|Aa U,Af 5 0 (Aa R+1) (Aa R+1) Ab,Af 6 0 (Aa R) (Aa R) Ab] 90 0 Ac Ac Ap)<|veT<|vd [0,2,3,5,8,10,13,14,15,1,4,6,7,9,11,12,16,17,18,19,20]<|vr 12 (au_ (ix ↑i ↑(Aa la) (vlsD la≠[])))<|vp 129 i (vlsD la)<|vr 1 (0<Aa (Ah i<|vlsD la))<|vsh 130 hx2<|vr 2 (0<1/\ix ↑(Aq pos t 0) ↑(Aa lb) (vlsD lb≠[]))<|vp 134 (Aq pos t 0) (vlsD lb) ?_;refine vr 1 (0<Aa (Ah (Aq pos t 0)<|vlsD lb))<|vsh 135 hy2<|vc hmu2<|vr 4 (al_ ((Ab=Ab/\Aa (vlsD R)=Aa R*1/\Aa R=Aa R*1/\50=50/\1=1/\1=1/\0<1/\0<24/\50=50/\(Aa R+1)*24<=140737488355328/\1=1/\AV Ap=Ac/\(Ac=Ac\/AW Ap=Ab))/\aq_))<|vb 3 (Ao [Ae (nsD U)<|Aa U,Af 5 0 (Aa R+1) (Aa R+1) Ab,Af 6 0 (Aa R+1) ((Aa R+1)*1) Ab] 90 0 Ac Ac Ap) (Ao [Ae (nsD U)<|Aa U,Af 5 0 (Aa R+1) (Aa R+1) Ab,Af 6 0 (Aa R+1) (Aa R+1) Ab] 90 0 Ac Ac Ap)<|vnil<|zD<|vN<|zB rfl<|vr 2 (i6 (↑t+1))<|vnil<|zC ?_;rotate_left;refine zL<|zD<|vN<|zB rfl<|vr 2 (i6 (↑t+1))<|vnil<|zC ?_;rotate_left
    ·rw[if_pos hc]at ht1;refine⟨t+1,R++[prQ A B p q],⟨by omega,?_⟩,by omega,?_⟩
     ·grind
     rw[show rwsD (R++[prQ A B p q])=rwsD R++[.row (zM (mg A p.1 B q.1)) U.length] by rw[<-hml];simp[prQ],show vlsD (R++[prQ A B p q])=vlsD R++[natD (p.2*q.2)] by simp[prQ],AR];refine vk 7
    rw[if_neg (by simpa using hc),BQ]at ht1;refine⟨t+1,R,⟨by omega,by rw[ht1];exact hR⟩,by omega,?_⟩;refine vk 7
   rw[AU (by omega)]at hR;refine vAu<|zA<|vF ((t:Int)<↑(Aa pos))<|vY2<|zD<|vN<|zB rfl<|vr 2 (i6 (↑i+1))<|vnil<|zC<|⟨i+1,R,⟨by omega,by rw[hfs];exact hR⟩,by omega,?_⟩;refine vk 7
  rw[if_neg hin]at hlk;rw[zM8 hin]at hps;focus
   refine vAu (zA (vT ((i:Int)<↑(Aa la)) (vKB (vA (vr 2 (ix ↑i ↑(Aa la) (rwsD la≠[])) (vp 89 i (rwsD la) (vr 1 (0<Aa (Ah i (rwsD la))) (vsh 90 hx1 (veT (vA (vrT 3 (vc hk (vwh 1 [] [] (zAb (Bh (Bi Bj "string" 1 16 Ab 8 8 (Am (AN (AY #[]))) Ab #[])) (AN (bs (idR (zQ (An p) c1))))=Ab/\BY (Ad kyv (allK Lb)) (zAb (Bh (Bi Bj "string" 1 16 Ab 8 8 (Am (AN (AY #[]))) Ab #[])))=Ab) ?_ ?_)))))))))))));rotate_left;refine vsh 95 hlk (veT (zF (zAa (vAe (zA (vf (vY2 (zD (vN (zB rfl (vr 2 (i6 (↑i+1)) (vnil (zC ?_)))))))))))));rotate_left
  ·exact⟨rfl,zDl _⟩
  refine⟨i+1,O,⟨by omega,?_⟩,by omega,?_⟩
  ·grind [zHm]
  refine vk 7
 have hO':O=la.flatMap λp=>zHm A B ok p (selB A B lb p):=by rw[AU (by omega)]at hO;exact hO
 rw[<-hO'];have hOl:O.length<=1000000:=by
  have h5:=zXe (A:=A) (B:=B) (lb:=lb) (ok:=ok) la la.length;grind
 have hOp:O=(zB9 (· *·) A la B lb).filter λp=>ok p.1:=by rw[hO',eok];exact(zRe A B lb (λs=>os.all λo=>okO U s (faN o)) la).symm
 have hnd:Ndk O:=by rw[hOp];exact zF9 ok (zF5 hA hB nda ndb al bl)
 have hOr:∀p∈O,p.1.length=U.length:=λp hp=>by
  grind [zKn,mg,AM]
 have hso:=sorted_c U O hOl (λp hp=>by rw[hOr p hp];omega) hnd;have hu2:(rwsD O).take O.length=rwsD O:=AU (by simp);have hu3:(vlsD O).take O.length=vlsD O:=AU (by simp);clear hO hO' hOp hpf;refine vAu<|zA<|vF ((i:Int)<↑(Aa la))<|vZ2<|vA<|vr 1 (3<=3)<|vcl [Az [Ae (nsD U)<|Aa U,Ae (Au (Aa O)<|Ah 0<|AH<|rowB<|rwsD O)<|Aa O,Ae (Au (Aa O)<|Ah 0<|AH<|natB<|vlsD O)<|Aa O]] [Az [Ae (nsD U)<|Aa U,Ae (rwsD O)<|Aa O,Ae (vlsD O)<|Aa O]] (LeL.of_eq (by simp(disch:=omega) only[A2,hu2,hu3])) (by exact hso)<|ve (an_)<|zG<|vret (3<=3)<|.inr rfl
end
variable{ds:List D}
section
open Go.RowKit
set_option maxRecDepth 100000
structure Raw where
 V:List Int
 R:List Rw
 W:List Int
 deriving Inhabited
abbrev rawC(f:Raw):List D:=[.row (f.V.map iD) f.V.length, .row (f.R.map rowV) f.R.length, .row (f.W.map iD) f.W.length]
theorem rawC_len(f:Raw):(rawC f).length=3:=rfl
abbrev rawD(f:Raw):D:= .agg (rawC f)
def Vi(a:Va):Prop:=inK .i64 a.kind/\inK .i64 a.int/\a.str.length<=maxLen
structure RawOk(f:Raw):Prop where
 v:∀z∈f.V,inK .i64 z
 r:∀x∈f.R,∀a∈x,Vi a
 w:∀z∈f.W,inK .i64 z
theorem in_ints{t e:TypeId}(hu:P.underlying t=Am (.slice e))(he:P.underlying e=Am (.int .i64))(h:Shp P n t ds):∃l:List Int,ds=[.row (l.map iD) l.length]/\∀z∈l,inK .i64 z:=by
 obtain⟨m,ls,rfl,h1,_⟩:=zKi hu h;obtain⟨bs,h2,h3,h4⟩:=zPt (g:=λz:Int=>iD z) (Q:=λx=>inK .i64 x) λx hx=>by
  obtain⟨z,rfl,h5⟩:=zSq he (h1 x hx);exact⟨z,rfl,h5⟩
 grind
theorem len3{l:List α}(h:l.length=3):∃a b c,l=[a,b,c]:=by
 match l,h with
 |[a,b,c],_=>exact⟨a,b,c,rfl⟩
theorem in_va(h:Shp Ar n 107 ds):∃a:Va,ds=vaC a/\Vi a:=by
 obtain⟨hl,m,hf⟩:=zQ8 Tryz.underlying107 h;rw[show Ar.cellsOf 107=3 by kernel_rfl]at hl;obtain⟨a,b,c,rfl⟩:=len3 hl;have c3:Ar.cellsOf 3=1:=by kernel_rfl
 have c4:Ar.cellsOf 2=1:=by kernel_rfl
 have c5:Ar.cellsOf 9=1:=by kernel_rfl
 simp only[Bf,CF,or_false,forall_eq_or_imp,forall_eq,c3,c4,c5,A2,List.drop_succ_cons,List.take_succ_cons,CQ]at hf;obtain⟨g0,g1,g2⟩:=hf;obtain⟨x2,e2,k2⟩:=zSq Tryz.underlying3 g0;obtain⟨x3,e3,k3⟩:=zSq Tryz.underlying2 g1;obtain⟨x4,e4,k4⟩:=shp_string Tryz.underlying9 g2;simp only[Cr.injEq,and_true]at e2 e3 e4;subst e2 e3 e4;exact⟨⟨x2,x3,x4.data.toList⟩,rfl,k2,k3,k4⟩
theorem in_row(h:Shp Ar n 110 ds):∃x:Rw,ds=[rowV x]/\∀a∈x,Vi a:=by
 obtain⟨m,ls,rfl,h1,_⟩:=zKi Tryz.underlying110 h;obtain⟨bs,h2,h3,h4⟩:=zPu (g:=vaC) (Q:=Vi) λx hx=>in_va (h1 x hx);exact⟨bs,by rw[h2,<-h3];rfl,h4⟩
theorem in_raw(h:Shp Ar n 42 ds):∃f:Raw,ds=rawC f/\RawOk f:=by
 obtain⟨hl,m,hf⟩:=zQ8 Tryz.underlying42 h;rw[show Ar.cellsOf 42=3 by kernel_rfl]at hl;obtain⟨a,b,c,rfl⟩:=len3 hl;have c3:Ar.cellsOf 39=1:=by kernel_rfl
 have c4:Ar.cellsOf 40=1:=by kernel_rfl
 simp only[Bf,CF,or_false,forall_eq_or_imp,forall_eq,c3,c4,A2,List.drop_succ_cons,List.take_succ_cons,CQ]at hf;obtain⟨g0,g1,g2⟩:=hf;obtain⟨V,e0,k0⟩:=in_ints Tryz.underlying39 Tryz.underlying3 g0;obtain⟨W,e2,k2⟩:=in_ints Tryz.underlying39 Tryz.underlying3 g2;obtain⟨m',ls,e1,h1,_⟩:=zKi Tryz.underlying40 g1;obtain⟨R,r2,r3,r4⟩:=zPt (g:=rowV) (Q:=λx=>∀a∈x,Vi a) λx hx=>in_row (h1 x hx);simp only[Cr.injEq,and_true]at e0 e1 e2;subst e0 e1 e2;exact⟨⟨V,R,W⟩,by rw[r2,<-r3],k0,r4,k2⟩
theorem arg_raws(h:ArgD Ar 22 d):∃l:List Raw,d= .row (l.flatMap rawC) l.length/\∀f∈l,RawOk f:=by
 obtain⟨n,hs⟩:=h.cell (by kernel_rfl);obtain⟨m,ls,e,h1,_⟩:=zKi Tryz.underlying22 hs;obtain⟨fs,h2,h3,h4⟩:=zPu (g:=rawC) (Q:=RawOk) λx hx=>in_raw (h1 x hx);grind
theorem arg_int(h:ArgD Ar 3 d):∃z:Int,d=iD z/\inK .i64 z:=by
 obtain⟨n,hs⟩:=h.cell (by kernel_rfl);obtain⟨z,e,hz⟩:=zSq Tryz.underlying3 hs;grind
theorem zS8(k:Nat):((k+1:Nat):Int)-1=(k:Int):=by omega
end
section
open Go.RowKit
attribute [local irreducible] seqW awp zY zZ zR Weak updS zAe retL Pure Acts rP setP setQ cP nP fr
set_option maxRecDepth 4096
abbrev fcR(V:List Int)(R:List Rw)(W:List Nat):D:= .agg [.row (V.map λz=>iD z) V.length, .row (R.map rowV) R.length, .row (W.map natD) W.length]
abbrev q13_:=Aj (Al Bo 4)
set_option maxHeartbeats 4000000 in
theorem check_c(n:Int)(V:List Int)(R:List Rw)(W:List Nat)(hV:V.length<=1000000)(hR:R.length<=1000000):
    Pure Ar 86 [iD n,fcR V R W] [] (iD (chk n V R W.length)):=by
  obtain⟨m,hm⟩:∃m,m=W.length:=⟨_,rfl⟩;refine zJ Tq_ok mixed Tryz.func86 rfl<|vAu<|zA<|vA<|ve (ar_)<|zF<|zN (λ(i:Nat)=>fr 94 [(0,iD n),(3,Ag 0 0),(13,Ae (Ad (λ(z:Int)=>iD z) V)<|Aa V),(14,iD (Aa V:Int)),(15,iD (i:Int))]) (λ(i:Nat)=>[fB1 (.row (V.map λz=>iD z) V.length) (.row (R.map rowV) R.length)<|.row (W.map natD) W.length]) (λi=>V.length-i) (λ(i:Nat)=>i<=V.length/\∀j,j<i->zFb n V j=Ab) 0 ?_ ?_ ?_
  ·grind
  ·refine vk 1
  rintro i ⟨h1,h2⟩;rcases AG i V.length with h3|h3
  · have hne:(V.map λz=>iD z)≠[]:=zV
    have hx:=zB0 V i h3;by_cases hs:zFb n V i=Ab
    · have hs2:=hs
      simp only[zFb,Bu,Cc,decide_eq_true_eq]at hs2;obtain⟨s1,s2,s3⟩:=hs2;rcases i with _|k
      · rw[A2]at hx
        refine vAu<|zA<|vT ((↑(0:Nat):Int)<↑(Aa V))<|vKB<|vA<|vr 3 (ix ↑(0:Nat) ↑(Aa V) (Ad (λ(z:Int)=>iD z) V≠[])/\0<Aa (Ad (λ(z:Int)=>iD z) V))<|vsh 19 hx<|veT<|vA<|vew [] [(2,Ac),(7,Ac)] (decide (Aq V 0 (0:Int)<0)=Ac/\decide (Aq V 0 (0:Int)>=n)=Ac) (vf<|zL<|zD<|vN<|zB rfl<|vr 2 (i6 (↑(0:Nat)+1))<|vnil<|zC ?_) ⟨(by exact decide_eq_false (by omega)),(by exact decide_eq_false (by omega))⟩;refine⟨1,⟨by omega,λj hj=>?_⟩,by omega,?_⟩
        ·grind
        refine vk 1
      · have hx2:=zB0 V k (by omega)
        have s4:V.getD k 0<V.getD (k+1) 0:=by
          grind
        refine vAu<|zA<|vT ((↑(k+1):Int)<↑(Aa V))<|vKB<|vA<|vr 2 (ix ↑(k+1) ↑(Aa V) (Ad (λ(z:Int)=>iD z) V≠[]))<|vp 18 (k+1) (Ad (λ(z:Int)=>iD z) V)<|vr 1 (0<Aa (Ah (k+1)<|Ad (λ(z:Int)=>iD z) V))<|vsh 19 hx<|veT<|vA<|vw 15 [] [(2,Ac),(7,Ac),(10,Ab)] (decide (Aq V (k+1) (0:Int)<0)=Ac/\decide (Aq V (k+1) (0:Int)>=n)=Ac/\decide ((↑(k+1):Int)>(0:Int))=Ab/\True/\0<3/\i6 (↑(k+1)-1)) (vs 34 (iD (↑(k+1)-1)) (iD k) (hd:=by simp(disch:=omega) only[zS8])<|vr 1 (ix ↑k ↑(Aa V) (Ad (λ(z:Int)=>iD z) V≠[]))<|vp 35 k (Ad (λ(z:Int)=>iD z) V)<|vr 1 (0<Aa (Ah k<|Ad (λ(z:Int)=>iD z) V))<|vsh 36 hx2<|veT<|vF (Aq V k (0:Int)>=Aq V (k+1) (0:Int)) ?_) ⟨(by exact decide_eq_false (by omega)),(by exact decide_eq_false (by omega)),(by exact decide_eq_true (by omega)),trivial,(by omega),(by omega)⟩;refine zL<|zD<|vN<|zB rfl<|vr 2 (i6 (↑(k+1)+1))<|vnil<|zC<|⟨k+2,⟨by omega,λj hj=>?_⟩,by omega,?_⟩
        ·grind
        refine vk 1
    · have hc3:chk n V R W.length=3:=chk_v h3 (by simpa using hs)
      rw[hc3];rcases i with _|k
      · rw[A2]at hx
        focus
          refine vAu<|zA<|vT ((↑(0:Nat):Int)<↑(Aa V))<|vKB<|vA<|vr 3 (ix ↑(0:Nat) ↑(Aa V) (Ad (λ(z:Int)=>iD z) V≠[])/\0<Aa (Ad (λ(z:Int)=>iD z) V))<|vsh 19 hx<|veT<|vA<|vrT 3<|vspD 22 (Aq V 0 (0:Int)<0) (λhc=>?_)<|λhc=>?_;refine veT<|vt<|vAe<|zG<|zH<|zE<|zE<|zH<|zE<|vret (True)<|.inr rfl;refine vrT 5<|vspD 27 (Aq V 0 (0:Int)>=n) (λhc=>?_)<|λhc=>?_;refine veT<|vt<|vAe<|zG<|zH<|zE<|zE<|zH<|zE<|vret (True)<|.inr rfl;refine veT<|vf<|zL<|zD<|vN<|zB rfl<|vr 2 (i6 (↑(0:Nat)+1))<|vnil<|zC ?_;rotate_left
        grind [zLk]
      · have hx2:=zB0 V k (by omega)
        focus
          refine vAu<|zA<|vT ((↑(k+1):Int)<↑(Aa V))<|vKB<|vA<|vr 2 (ix ↑(k+1) ↑(Aa V) (Ad (λ(z:Int)=>iD z) V≠[]))<|vp 18 (k+1) (Ad (λ(z:Int)=>iD z) V)<|vr 1 (0<Aa (Ah (k+1)<|Ad (λ(z:Int)=>iD z) V))<|vsh 19 hx<|veT<|vA<|vrT 3<|vspD 22 (Aq V (k+1) (0:Int)<0) (λhc=>?_)<|λhc=>?_;refine veT<|vt<|vAe<|zG<|zH<|zE<|zE<|zH<|zE<|vret (True)<|.inr rfl;refine vrT 5<|vspD 27 (Aq V (k+1) (0:Int)>=n) (λhc=>?_)<|λhc=>?_;refine veT<|vt<|vAe<|zG<|zH<|zE<|zE<|zH<|zE<|vret (True)<|.inr rfl;refine vw 7 [] [(10,Ab)] (decide ((↑(k+1):Int)>(0:Int))=Ab/\True/\0<3/\i6 (↑(k+1)-1))<|vs 34 (iD (↑(k+1)-1)) (iD k) (hd:=by simp(disch:=omega) only[zS8])<|vr 1 (ix ↑k ↑(Aa V) (Ad (λ(z:Int)=>iD z) V≠[]))<|vp 35 k (Ad (λ(z:Int)=>iD z) V)<|vr 1 (0<Aa (Ah k<|Ad (λ(z:Int)=>iD z) V))<|vsh 36 hx2<|veT<|vcD (Aq V k (0:Int)>=Aq V (k+1) (0:Int)) (λhc=>?_)<|λhc=>?_;refine vAe<|zG<|zH<|zE<|zE<|zH<|zE<|vret (True)<|.inr rfl;refine zL<|zD<|vN<|zB rfl<|vr 2 (i6 (↑(k+1)+1))<|vnil<|zC ?_;rotate_left
        grind [zLk,only,Nat.add_sub_cancel]
  have hv:=zGp (p:=zFb n V) (n:=V.length) λj hj=>h2 j (by omega);by_cases hlm:R.length=W.length;case neg=>
    rw[chk_l hv hlm];refine vAu<|zA<|vF ((i:Int)<↑(Aa V))<|vZ2<|zA<|vA<|ve (av_)<|zFr (t:=(Aa R:Int)!=(Aa W:Int)) (by kernel_rfl) (by simpa using by omega)<|vAe<|zG<|zE<|vret (True)<|.inr rfl
  refine vAu<|zA<|vF ((i:Int)<↑(Aa V))<|vZ2<|zA<|vA<|ve (av_)<|zGf (t:=(Aa R:Int)!=(Aa W:Int)) (by kernel_rfl) (by simpa using by omega)<|vK<|zA<|vA<|ve (as_)<|zF<|zN (λ(i:Nat)=>fr 94 [(3,Ag 0 0),(50,Ae (Ad rowV R)<|Aa R),(51,iD<|Aa R),(52,iD i)]) (λ(i:Nat)=>[fB1 (.row (V.map λz=>iD z) V.length) (.row (R.map rowV) R.length)<|.row (W.map natD) W.length]) (λi=>R.length-i) (λ(i:Nat)=>i<=R.length/\∀j,j<i->j<R.length->decide ((R.getD j []).length=V.length)=Ab) 0 ?_ ?_ ?_
  ·grind
  ·refine vk 1
  clear h1 h2 h3 i;rintro i ⟨h1,h2⟩;rcases AG i R.length with h3|h3
  · have hne:R.map rowV≠[]:=zV
    have hx:=zAl R i h3;have hca:=chk_a hv hlm h3;generalize hg:R.getD i []=r at*;focus
      refine vAu<|zA<|vT ((i:Int)<↑(Aa R))<|vKB<|vA<|vr 1 (ix ↑i ↑(Aa R) (Ad rowV R≠[]))<|vp 54 i (Ad rowV R)<|vr 1 (0<Aa (Ah i<|Ad rowV R))<|vsh 55 hx<|veT<|vA<|ve (True/\0<3/\True)<|zAk (t:=(Aa r:Int)!=(Aa V:Int)) (by kernel_rfl) (λhc=>?_)<|λhc=>?_;simp only[bne_iff_ne]at hc;refine vAe<|zG<|zH<|zE<|zE<|zH<|zE<|vre (True) (Aj<|Al Bo 6) (.inr rfl) ?_;rotate_left;simp only[bne_eq_false_iff_eq]at hc;refine zL<|zD<|vN<|zB rfl<|vr 2 (i6 (↑i+1))<|vnil<|zC ?_;rotate_left
    ·rw[hca (by omega)]
    · refine⟨i+1,⟨by omega,λj hj hjl=>?_⟩,by omega,?_⟩
      ·grind
      refine vk 1
  have ha:=zEm (p:=λx:Rw=>decide (x.length=V.length)) (d:=[]) h3 h2;have hl:∀x∈R,x.length<=1000000000:=λx hx=>by
    grind
  refine vAu<|zA<|vF ((i:Int)<↑(Aa R))<|vZ2<|zA<|vA<|ve (as_)<|zF<|zN (λ(i:Nat)=>fr 94 [(3,Ag 0 0),(64,Ae (Ad rowV R)<|Aa R),(65,iD<|Aa R),(66,iD i)]) (λ(i:Nat)=>[fB1 (.row (V.map λz=>iD z) V.length) (.row (R.map rowV) R.length)<|.row (W.map natD) W.length]) (λi=>R.length-i) (λ(i:Nat)=>i<=R.length/\∀j,j<i->j<R.length->(R.getD j []).all vok=Ab) 0 ?_ ?_ ?_
  ·grind
  ·refine vk 1
  clear h1 h2 h3 i;rintro i ⟨h1,h2⟩;rcases AG i R.length with h3|h3
  · have hne:R.map rowV≠[]:=zV
    have hx:=zAl R i h3;have hco:=chk_o hv hlm ha h3;have hlr:=hl _ (zAo R [] i h3);generalize hg:R.getD i []=r at*;focus
      refine vAu<|zA<|vT ((i:Int)<↑(Aa R))<|vKB<|vA<|vr 1 (ix ↑i ↑(Aa R) (Ad rowV R≠[]))<|vp 68 i (Ad rowV R)<|vr 1 (0<Aa (Ah i<|Ad rowV R))<|vsh 69 hx<|veT<|vA<|vrT 1<|vc (zSv r _ rfl (by omega))<|veT<|zAk (t:=!List.all r vok) (by kernel_rfl) (λhc=>?_)<|λhc=>?_;simp only[Cq]at hc;refine vAe<|zG<|zH<|zE<|zE<|zH<|zE<|vre (True) (q13_) (.inr rfl) ?_;rotate_left;simp only[CV]at hc;refine zL<|zD<|vN<|zB rfl<|vr 2 (i6 (↑i+1))<|vnil<|zC ?_;rotate_left
    ·grind
    · refine⟨i+1,⟨by omega,λj hj hjl=>?_⟩,by omega,?_⟩
      ·grind
      refine vk 1
  have ho:=zEm (p:=λx:Rw=>x.all vok) (d:=[]) h3 h2;refine vAu<|zA<|vF ((i:Int)<↑(Aa R))<|vZ2<|zA<|vAe<|zF<|zN (λ(k:Nat)=>fr 94 [(3,Ag 0 0),(11,iD (↑k+1))]) (λ(k:Nat)=>[fB1 (.row (V.map λz=>iD z) V.length) (.row (R.map rowV) R.length)<|.row (W.map natD) W.length]) (λk=>R.length-k) (λ(k:Nat)=>k<=R.length/\∀j,j<=k->j<R.length->zLs R j=Ab) 0 ?_ ?_ ?_
  · exact ⟨by omega, fun j h _ => by obtain rfl:j=0:=by omega
                                     rfl⟩
  ·refine vk 1
  clear h1 h2 h3 i;rintro k ⟨h1,h2⟩;rcases AG (k+1) R.length with h3|h3
  · have hne:R.map rowV≠[]:=zV
    have hx:=zAl R (k+1) h3;have hx0:=zAl R k (by omega);have hcs:=chk_s hv hlm ha ho h3;have hst:zLs R (k+1)=decide (rcmp (R.getD k []) (R.getD (k+1) [])<0):=by simp[zLs]
    have hcm:=zDr (R.getD k []) (R.getD (k+1) []) _ _ rfl rfl (hl _ (zAo R [] k (by omega))) (hl _ (zAo R [] (k+1) h3));generalize R.getD (k+1) []=r at*;generalize R.getD k []=r0 at*;focus
      refine zA<|vAs<|ve (as_)<|vT ((↑(k+1):Int)<↑(Aa R))<|vKB<|zA<|vd [0,2,3,6,8,1,4,5,7,9,10,11,12]<|vr 3 (True/\i6 (↑(k+1)-1))<|vs 84 (iD (↑(k+1)-1)) (iD k) (hd:=by simp(disch:=omega) only[zS8])<|vr 4 (True/\0<2/\ix ↑k ↑(Aa R) (Ad rowV R≠[]))<|vp 85 k (Ad rowV R)<|vr 1 (0<Aa (Ah k<|Ad rowV R))<|vsh 86 hx0<|vr 2 (0<2/\ix ↑(k+1) ↑(Aa R) (Ad rowV R≠[]))<|vp 90 (k+1) (Ad rowV R)<|vr 1 (0<Aa (Ah (k+1)<|Ad rowV R))<|vsh 91 hx<|vc hcm<|veT<|vcD (rcmp r0 r>=(0:Int)) (λhc=>?_)<|λhc=>?_;refine vAe<|zG<|zH<|zE<|zE<|zH<|zE<|vre (True) (Aj<|Al Bo 16) (.inr rfl) ?_;rotate_left;refine zL<|zD<|vN<|zB rfl<|vr 3 (i6 (↑(k+1)+1))<|vnil<|zC ?_;rotate_left
    ·grind
    · refine⟨k+1,⟨by omega,λj hj hjl=>?_⟩,by omega,?_⟩
      ·grind
      refine vk 1
  rw[chk_0 hv hlm ha ho (zGp λj hj=>h2 j (by omega) hj)];refine zA<|vAs<|ve (as_)<|vF ((k:Int)+(1:Int)<(Aa R:Int))<|vZ2<|vAe<|zG<|vret (True)<|.inr rfl
end
variable{V:List Int}{E:List Nat}
section
open Go.RowKit
def Sn:Sr Nat:=⟨(· +·),(· *·),1,Nat.one_mul,Nat.add_comm,Nat.add_assoc,Nat.mul_comm,Cf,Nat.left_distrib⟩
section
variable{α:Type}{c:Rw->Rw->Int}
theorem putP_len(f:α->α->α)(r:Rw)(v:α):∀l:List (Rw×α),(putP c f r v l).length<=l.length+1
 |[]=>by simp[putP]
 |(s,u)::l=>by
  have:=putP_len f r v l
  simp only[putP];grind
theorem acc_len(f:α->α->α):∀(L l:List (Rw×α)),(acc c f l L).length<=l.length+L.length
 |[],l=>by simp[acc]
 |p::L,l=>by
  have h1:=acc_len f L (putP c f p.1 p.2 l);have h2:=putP_len (c:=c) f p.1 p.2 l;simp only[acc,Cv,BC]at h1⊢;omega
theorem zWi(f:α->α->α)(A B:List Nat)(lb:List (Rw×α)):∀la:List (Rw×α),(zB9 f A la B lb).length<=la.length*lb.length
 |[]=>by simp[zB9]
 |p::la=>by
  have h1:=zWi f A B lb la;have h2:(lb.filter λq=>mt A p.1 B q.1).length<=lb.length:=Bt _ _;simp only[zB9,List.flatMap_cons,AR,AM,BC,CG]at h1⊢;omega
def rz(f:Fa α):Nat:=f.l.length+1
theorem fmul_len(S:Sr α)(f g:Fa α)(os:List (Fa α)):(fmul c S f g os).l.length<=f.l.length*g.l.length:=by
 have h1:=acc_len (c:=c) S.add ((zB9 S.mul f.A f.l g.A g.l).filter λp=>os.all λo=>okO (un f.A g.A) p.1 o) [];have h2:((zB9 S.mul f.A f.l g.A g.l).filter λp=>os.all λo=>okO (un f.A g.A) p.1 o).length<=(zB9 S.mul f.A f.l g.A g.l).length:=Bt _ _;have h3:=zWi S.mul f.A g.A g.l f.l;simp only[Cp]at h1;show(acc c S.add [] _).length<=_;omega
theorem zJ1(S:Sr α)(f g:Fa α)(os:List (Fa α)):rz (fmul c S f g os)<=rz f*rz g:=by
 have:=fmul_len (c:=c) S f g os
 simp only[rz,CM,CN];omega
theorem zZg(S:Sr α)(v:Nat)(f:Fa α):rz (fsum c S v f)<=rz f:=by
 have h1:=acc_len (c:=c) S.add (zJn f.A v f.l) [];simp only[zJn,Cp,AM]at h1;show(acc c S.add [] _).length+1<=f.l.length+1;unfold zJn;omega
theorem zFi(f:Fa α):1<=rz f:=by unfold rz;omega
end
section
variable{c:Rw->Rw->Int}
theorem putP_sum(r:Rw)(v:Nat):∀l:List (Rw×Nat),((putP c (· +·) r v l).map (·.2)).sum=(l.map (·.2)).sum+v
 |[]=>by simp[putP]
 |(s,u)::l=>by
  have:=putP_sum r v l
  simp only[putP];grind
theorem acc_sum:∀(L l:List (Rw×Nat)),((acc c (· +·) l L).map (·.2)).sum=(l.map (·.2)).sum+(L.map (·.2)).sum
 |[],l=>by simp[acc]
 |p::L,l=>by
  have h1:=acc_sum L (putP c (· +·) p.1 p.2 l);rw[putP_sum]at h1;simp only[acc,Cv,A6,CJ]at h1⊢;omega
theorem zJe{α:Type}(g:α->Nat)(q:α->Bool):∀l:List α,((l.filter q).map g).sum<=(l.map g).sum
 |[]=>by simp
 |a::l=>by
  have:=zJe g q l
  grind
theorem sum_mulL{α:Type}(g:α->Nat)(k:Nat):∀l:List α,(l.map λq=>k*g q).sum=k*(l.map g).sum
 |[]=>by simp
 |a::l=>by simp only[A6,CJ,sum_mulL g k l,CM]
theorem zWh(A B:List Nat)(lb:List (Rw×Nat)):∀la:List (Rw×Nat),((zB9 (· *·) A la B lb).map (·.2)).sum<=(la.map (·.2)).sum*(lb.map (·.2)).sum
 |[]=>by simp[zB9]
 |p::la=>by
  have h1:=zWh A B lb la;have h2:=Nat.mul_le_mul_left p.2 (zJe (λq:Rw×Nat=>q.2) (λq=>mt A p.1 B q.1) lb);rw[<-sum_mulL]at h2;simp only[zB9,List.flatMap_cons,Cy,List.sum_append,BM,A6,CJ,CN,Function.comp_def]at h1 h2⊢;omega
def vz(f:Fa Nat):Nat:=(f.l.map (·.2)).sum+1
theorem fmul_vsum(f g:Fa Nat)(os:List (Fa Nat)):((fmul c Sn f g os).l.map (·.2)).sum<=(f.l.map (·.2)).sum*(g.l.map (·.2)).sum:=by
 have h1:=acc_sum (c:=c) ((zB9 (· *·) f.A f.l g.A g.l).filter λp=>os.all λo=>okO (un f.A g.A) p.1 o) [];have h2:=zJe (λq:Rw×Nat=>q.2) (λp=>os.all λo=>okO (un f.A g.A) p.1 o) (zB9 (· *·) f.A f.l g.A g.l);have h3:=zWh f.A g.A g.l f.l;simp only[BA,List.sum_nil,BI]at h1;refine AT (Nat.le_of_eq h1) (AT h2 h3)
theorem zTu(f g:Fa Nat)(os:List (Fa Nat)):vz (fmul c Sn f g os)<=vz f*vz g:=by
 have:=fmul_vsum (c:=c) f g os
 simp only[vz,CM,CN];omega
theorem fsum_vsum(v:Nat)(f:Fa Nat):((fsum c Sn v f).l.map (·.2)).sum=(f.l.map (·.2)).sum:=by
 have h1:=acc_sum (c:=c) (zJn f.A v f.l) [];have e:(zJn f.A v f.l).map (·.2)=f.l.map (·.2):=by simp[zJn,Function.comp_def]
 rw[e]at h1;simp only[BA,List.sum_nil,BI]at h1;exact h1
theorem fsum_vz(v:Nat)(f:Fa Nat):vz (fsum c Sn v f)=vz f:=by unfold vz;rw[fsum_vsum]
theorem zNq(f:Fa Nat):1<=vz f:=by unfold vz;omega
end
def pz{α:Type}(z:α->Nat)(l:List α):Nat:=l.foldr (λa n=>z a*n) 1
theorem zCi(z:α->Nat)(a:α)(l:List α):pz z (a::l)=z a*pz z l:=rfl
theorem zPb{α:Type}(z:α->Nat):∀(l m:List α),pz z (l++m)=pz z l*pz z m
 |[],m=>by simp[pz]
 |a::l,m=>by rw[B5,zCi,zCi,zPb z l m,Cf]
theorem zFm{α:Type}{z:α->Nat}(hz:∀a,1<=z a):∀l:List α,1<=pz z l
 |[]=>A7 1
 |a::l=>Nat.mul_le_mul (hz a) (zFm hz l)
theorem zPa(z:α->Nat){l m:List α}(h:l.Perm m):pz z l=pz z m:=by
 induction h with
 |nil=>rfl
 |cons x _ ih=>rw[zCi,zCi,ih]
 |swap x y l=>simp only[zCi];rw[<-Cf,Nat.mul_comm (z y),Cf]
 |trans _ _ h1 h2=>exact h1.trans h2
theorem zMl{z:α->Nat}(hz:∀a,1<=z a){l:List α}{a:α}(h:a∈l):z a<=pz z l:=by
 induction l<;>grind [zCi,Nat.le_mul_of_pos_right,zFm,AT,Nat.le_mul_of_pos_left]
section
variable{α:Type}{c:Rw->Rw->Int}{S:Sr α}{z:Fa α->Nat}(hz:∀ a, 1 ≤ z a)(h1:∀ f g os, z (fmul c S f g os) ≤ z f * z g)(h2:∀ v f, z (fsum c S v f) ≤ z f)
include h1 in
theorem elimP_z:∀(fs:List (Fa α))(p:Fa α)(os:List (Fa α)),z (zCm c S p fs os)<=z p*pz z fs
 |[],p,os=>by simp[zCm,pz]
 |f::fs,p,os=>by
  have h3:=elimP_z fs (fmul c S p f (fs++os)) os;have h4:=BW (pz z fs) (h1 p f (fs++os));rw[zCm,zCi,<-Cf];exact AT h3 h4
include h1 h2 in
theorem elim_z(v:Nat)(fs:List (Fa α)):pz z (elim c S v fs)<=pz z fs:=by
 have hp:=zPa z (zEo v fs);unfold elim;split
 ·exact A7 _
 rename_i p ws e;rw[e,zPb,zCi]at hp;rw[<-hp,zPb];have h3:=AT (h2 v (zCm c S p ws (zEy v fs))) (elimP_z h1 ws p (zEy v fs));have e1:∀g:Fa α,pz z [g]=z g:=λg=>by simp[pz]
 rw[e1,Nat.mul_comm];exact BW _ h3
end
instance {α : Type} : Inhabited (Fa α) := ⟨⟨[], []⟩⟩
section
variable{α:Type}(pop:Nat->Nat)
def uniM(v:Nat)(fs:List (Fa α)):Nat:=fs.foldl (λm f=>if v∈f.A then m|||msk f.A else m) 0
def bigL(v:Nat)(fs:List (Fa α)):Nat:=fs.foldl (λn f=>if v∈f.A then max n f.A.length else n) 0
def zJo(fs:List (Fa α))(v:Nat):Nat:=if pop (uniM v fs)=bigL v fs then 0 else pop (uniM v fs)
def zGg(fs:List (Fa α))(s:Int×Nat)(v:Nat):Int×Nat:=if s.1<0\/zJo pop fs v<s.2 then((v:Int),zJo pop fs v)else s
def zBb(fs:List (Fa α))(E:List Nat):Nat:=((E.foldl (zGg pop fs) (-1,0)).1).toNat
theorem ch_mem(fs:List (Fa α)):∀(l:List Nat)(s:Int×Nat),((l.foldl (zGg pop fs) s)=s/\(0<=s.1\/l=[]))\/∃v∈l,(l.foldl (zGg pop fs) s).1=(v:Int)
 |[],s=> .inl ⟨rfl, .inr rfl⟩
 | v::l,s=>by
  rw[Cv];rcases ch_mem fs l (zGg pop fs s v)with⟨h1,h2⟩|⟨w,hw,h⟩
  ·rw[h1];unfold zGg;split;all_goals grind
  grind
theorem zHz(fs:List (Fa α))(h:E≠[]):zBb pop fs E∈E/\(E.foldl (zGg pop fs) (-1,0)).1=(zBb pop fs E:Nat):=by
 grind [zBb,ch_mem]
variable(c:Rw->Rw->Int)(S:Sr α)
def zFu:Nat->List (Fa α)->List Nat->List (Fa α)
 |0,fs,E=>fs
 |n+1,fs,E=>zFu n (elim c S (zBb pop fs E) fs) (less E (zBb pop fs E))
def zKt(fs:List (Fa α))(E:List Nat):Fa α:=zCm c S (zB8 S) (zFu pop c S E.length fs E) []
def refP(p:Fa α)(fs:List (Fa α)):Fa α:=fs.foldl (λp f=>fmul c S p f []) p
def refS(f:Fa α)(vs:List Nat):Fa α:=vs.foldl (λf v=>fsum c S v f) f
variable{pop c S}{Dm:List Va}
theorem zTj(hn:E.Nodup)(hv:v∈E):(less E v).length+1=E.length:=by
 rw[<-zEq hn v,List.length_eraseIdx,if_pos (Ce.2 hv)];grind
theorem zJc(hc:Cw c)(hD:Dm.Nodup):∀(n:Nat)(fs:List (Fa α))(E:List Nat),E.Nodup->E.length=n->(∀f∈fs,FOk c Dm f)->(∀v∈E,∃f∈fs,v∈f.A)->
  (∀f∈zFu pop c S n fs E,FOk c Dm f)/\(∃vs,vs.Perm E/\∀σ,proF S (zFu pop c S n fs E) σ=zM1 S Dm vs (proF S fs) σ)/\(∀w,(∃f∈zFu pop c S n fs E,w∈f.A)↔(∃f∈fs,w∈f.A)/\w∉E)
 |0,fs,E,hn,hl,hf,hv=>by
  have e:E=[]:=CS.1 hl;subst e;exact⟨hf,⟨[], .refl _,λσ=>rfl⟩,λw=>by simp[zFu]⟩
 | n+1,fs,E,hn,hl,hf,hv=>by
  have hne:E≠[]:=λe=>by rw[e]at hl;cases hl
  have hm:=(zHz pop fs hne).1;have hA:=elim_A (c:=c) (S:=S) (fs:=fs) (λf h=>(hf f h).asc.2) (zBb pop fs E);have hpro:=elim_pro (S:=S) hc hD hf (hv _ hm);have hok:=zZt (S:=S) hc hf (zBb pop fs E);have hll:=zTj hn hm;show(∀f∈zFu pop c S n (elim c S (zBb pop fs E) fs) (less E (zBb pop fs E)),_)/\_;generalize hg:zBb pop fs E=v at*;obtain⟨h1,⟨vs,hp,h2⟩,h3⟩:=zJc hc hD n (elim c S v fs) (less E v) (hn.filter _) (by omega) hok (λw hw=>(hA w).2 ⟨hv w (zC3.1 hw).1,(zC3.1 hw).2⟩);have e:zFu pop c S (n+1) fs E=zFu pop c S n (elim c S v fs) (less E v):=by rw[zFu,hg]
  refine⟨h1,⟨v::vs,?_,λσ=>?_⟩,λw=>?_⟩
  ·grind [less,zEq,List.erase_eq_eraseIdx_of_idxOf,List.perm_cons_erase,List.Perm.cons]
  ·rw[e,h2];exact zE3 vs (λσ=>hpro σ) σ
  rw[e,h3,hA,zC3];grind
theorem omul_one(x:Option α):omul S.mul x (Am S.one)=x:=by rw[omul_c];cases x<;>simp[omul,S.om]
theorem one_omul(x:Option α):omul S.mul (Am S.one) x=x:=by cases x<;>simp[omul,S.om]
theorem zGl:FOk c Dm (zB8 S):=⟨⟨BE.nil,by simp[zB8]⟩,by simp[zB8,Lens],by simp[zB8,Srt],by simp[zB8]⟩
theorem unit_den(σ:Nat->Va):den (zB8 S) σ=Am S.one:=rfl
theorem margP_ok(hc:Cw c)(hD:Dm.Nodup){fs:List (Fa α)}(hn:E.Nodup)(hf:∀f∈fs,FOk c Dm f)(hv:∀v∈E,∃f∈fs,v∈f.A):FOk c Dm (zKt pop c S fs E):=
 zNg hc _ _ _ zGl (zJc hc hD _ fs E hn rfl hf hv).1
theorem margP_den(hc:Cw c)(hD:Dm.Nodup){fs:List (Fa α)}(hn:E.Nodup)(hf:∀f∈fs,FOk c Dm f)(hv:∀v∈E,∃f∈fs,v∈f.A)(σ:Nat->Va):
  den (zKt pop c S fs E) σ=zM1 S Dm E (proF S fs) σ:=by
 obtain⟨h1,⟨vs,hp,h2⟩,_⟩:=zJc (pop:=pop) (S:=S) hc hD _ fs E hn rfl hf hv;have h:=zQc (S:=S) hc σ (zFu pop c S E.length fs E) (zB8 S) [] zGl h1 (by simp);rw[BQ,unit_den,one_omul,h2 σ,zRm hp]at h;have e:proF S [] σ=Am S.one:=rfl;rw[e,omul_one]at h;exact h
theorem margP_A(hc:Cw c)(hD:Dm.Nodup){fs:List (Fa α)}(hn:E.Nodup)(hf:∀f∈fs,FOk c Dm f)(hv:∀v∈E,∃f∈fs,v∈f.A)(w:Nat):w∈(zKt pop c S fs E).A↔(∃f∈fs,w∈f.A)/\w∉E:=by
 obtain⟨h1,_,h3⟩:=zJc (pop:=pop) (S:=S) hc hD _ fs E hn rfl hf hv;unfold zKt;rw[zT2 _ _ _ (by simp[zB8]) (λf h=>(h1 f h).asc.2),<-h3];simp[zB8]
theorem zS3(hc:Cw c):∀(fs:List (Fa α))(p:Fa α),FOk c Dm p->(∀f∈fs,FOk c Dm f)->FOk c Dm (refP c S p fs)
 |[],p,hp,_=>hp
 |f::fs,p,hp,hf=>zS3 hc fs _ (zHw hc hp (hf f (By ..)) []) λg hg=>hf g (Bx _ hg)
theorem zS4(hc:Cw c)(σ:Nat->Va):∀(fs:List (Fa α))(p:Fa α),FOk c Dm p->(∀f∈fs,FOk c Dm f)->den (refP c S p fs) σ=omul S.mul (den p σ) (proF S fs σ)
 |[],p,hp,_=>(omul_one _).symm
 |f::fs,p,hp,hf=>by
  have h1:=hf f (By ..)
  have:=zS4 hc σ fs (fmul c S p f []) (zHw hc hp h1 []) λg hg=>hf g (Bx _ hg)
  rw[fmul_den hc hp h1]at this;simp only[List.all_nil,if_true]at this;show den (refP c S (fmul c S p f []) fs) σ=_;rw[this,zWp];rfl
theorem refP_A:∀(fs:List (Fa α))(p:Fa α),(∀v∈p.A,v<32)->(∀f∈fs,∀v∈f.A,v<32)->∀v,v∈(refP c S p fs).A↔v∈p.A\/∃f∈fs,v∈f.A
 |[],p,_,_,v=>by simp[refP]
 |f::fs,p,hp,hf,v=>by
  have ih:=refP_A fs (fmul c S p f []) (λw hw=>(zEv.1 hw).1) (λg hg=>hf g (Bx _ hg)) v;grind [refP,fmul,zEv,By,Bx]
theorem zS2(hc:Cw c):∀(vs:List Nat)(f:Fa α),FOk c Dm f->FOk c Dm (refS c S f vs)
 |[],f,hf=>hf
 |v::vs,f,hf=>zS2 hc vs _ (zZh hc hf v)
theorem refS_A:∀(vs:List Nat)(f:Fa α)(w:Nat),w∈(refS c S f vs).A↔w∈f.A/\w∉vs
 |[],f,w=>by simp[refS]
 |v::vs,f,w=>by
  have ih:=refS_A vs (fsum c S v f) w;show w∈(refS c S (fsum c S v f) vs).A↔_;grind [fsum,zC3]
theorem refS_den(hc:Cw c)(hD:Dm.Nodup):∀(vs:List Nat)(f:Fa α)(σ:Nat->Va),FOk c Dm f->vs.Nodup->(∀v∈vs,v∈f.A)->den (refS c S f vs) σ=zM1 S Dm vs (den f) σ
 |[],f,σ,hf,_,_=>rfl
 |v::vs,f,σ,hf,hn,hv=>by
  rw[List.nodup_cons]at hn;have ih:=refS_den hc hD vs (fsum c S v f) σ (zZh hc hf v) hn.2 λw hw=>zC3.2 ⟨hv w (Bx _ hw),λe=>hn.1 (e▸hw)⟩;show den (refS c S (fsum c S v f) vs) σ=_;rw[ih];exact zE3 vs (λσ=>fsum_den hc hD hf (hv v (By ..)) σ) σ
theorem zTf(hc:Cw c)(hD:Dm.Nodup){fs:List (Fa α)}{vs:List Nat}(hn:E.Nodup)(hp:vs.Perm E)(hf:∀f∈fs,FOk c Dm f)(hv:∀v∈E,∃f∈fs,v∈f.A):zKt pop c S fs E=refS c S (refP c S (zB8 S) fs) vs:=by
 have hr:=zS3 (S:=S) hc fs (zB8 S) zGl hf;have hrA:∀v,v∈(refP c S (zB8 S) fs).A↔∃f∈fs,v∈f.A:=λv=>by
  rw[refP_A fs (zB8 S) (by simp[zB8]) (λf h=>(hf f h).asc.2)];simp[zB8]
 have hm:=margP_ok (pop:=pop) (S:=S) hc hD hn hf hv;have hs:=zS2 (S:=S) hc vs _ hr;refine FOk.ext hc hm hs (Asc.ext hm.asc hs.asc λw=>?_) λσ=>?_
 ·grind [margP_A,refS_A]
 rw[margP_den hc hD hn hf hv,refS_den hc hD vs _ σ hr (hp.nodup_iff.2 hn) (λv h=>(hrA v).2 (hv v (hp.mem_iff.1 h))),zRm hp];refine zE3 E (λσ=>?_) σ;rw[zS4 hc σ fs (zB8 S) zGl hf,unit_den,one_omul]
end
section
variable{α:Type}{pop:Nat->Nat}{c:Rw->Rw->Int}{S:Sr α}{z:Fa α->Nat}(h1:∀ f g os, z (fmul c S f g os) ≤ z f * z g)(h2:∀ v f, z (fsum c S v f) ≤ z f)
end
section
variable{A B:List Nat}{la lb:List (Rw×Nat)}
end
def ixI(V:List Int)(v:Int):Int:=if v∈V then(V.idxOf v:Nat)else-1
abbrev intL(A:List Nat):List Int:=A.map λv:Nat=>(v:Int)
theorem ixI_yes{v:Int}(h:i<V.length)(hi:V.getD i 0=v)(hb:∀j,j<i->V.getD j 0≠v):ixI V v=(i:Int):=by
 induction V generalizing i with
 |nil=>simp at h
 | cons a V ih=>
  cases i with
  |zero=>
   grind [ixI]
  |succ i=>
   have h0:a≠v:=hb 0 (by omega)
   have:=ih (i:=i) (by simpa using h) hi (λj hj=>hb (j+1) (by omega))
   unfold ixI at this⊢;grind
theorem ixI_no{v:Int}(hb:∀j,j<V.length->V.getD j 0≠v):ixI V v=-1:=by
 grind [ixI,CT,AJ]
end
variable{f:Fa Nat}
section
open Go.RowKit
attribute [local irreducible] seqW awp zY zZ zR Weak updS zAe retL Pure Acts rP setP setQ cP nP fr
set_option maxRecDepth 4096
abbrev faAc(f:Fa Nat):List D:=fcC (f.A,f.l)
abbrev faA(f:Fa Nat):D:=fcD f.A f.l
theorem zBf(f:Fa Nat):(faAc f).length=3:=rfl
def Okv(Dm:List Va):Prop:=∀a∈Dm,vok a=Ab/\Vs a
structure Gof(Dm:List Va)(f:Fa Nat):Prop where
 ok:FOk rcmp Dm f
 r:rz f<=900000
 v:vz f<=4000000000000000000
section
variable{Dm:List Va}(hD:Okv Dm)
theorem sm_le(hv:vz f<=4000000000000000000):∀p∈f.l,Sm p.2:=λp hp=>Sm.of (by
 have:=snd_le_sum hp
 unfold vz at hv;omega)
theorem Gof.fv(h:Gof Dm f)(hD:Okv Dm):FV (f.A,f.l):=
 ⟨h.ok.asc,h.ok.len,λp hp x hx=>(hD x (h.ok.dom p hp x hx)).2,by have:=h.r;unfold rz at this;simp only;omega,sm_le h.v,h.ok.ndk rcw⟩
theorem zPn(hD:Okv Dm)(f g:Fa Nat)(os:List (Fa Nat))(hf:Gof Dm f)(hg:Gof Dm g)(ho:∀o∈os,Gof Dm o)(hl:os.length<=1000)(hr:rz f*rz g<=900000):
  Pure Ar 49 [cntD,faA f,faA g, .row (os.flatMap faAc) os.length] [] (faA (fmul rcmp Sn f g os)):=by
 simp only[rz,CM,CN]at hr;have h:=multiply_c (f.A,f.l) (g.A,g.l) (os.map λo=>(o.A,o.l)) (hf.fv hD) (hg.fv hD) (λo hm=>by
  obtain⟨o',hm',rfl⟩:=A_.1 hm;exact(ho o' hm').fv hD) (by simpa using hl) (by simp only;omega)
 have e1:(os.map λo=>(o.A,o.l)).flatMap fcC=os.flatMap faAc:=by rw[List.flatMap_map]
 rw[e1,AM]at h;have e2:((zB9 (· *·) f.A f.l g.A g.l).filter λp=>(os.map λo=>(o.A,o.l)).all λo=>okO (un f.A g.A) p.1 (faN o))=(zB9 Sn.mul f.A f.l g.A g.l).filter λp=>os.all λo=>okO (un f.A g.A) p.1 o:=by
  refine Ct λp _=>?_;rw[List.all_map];rfl
 have hn:=zF5 (f:=Sn.mul) hf.ok.asc hg.ok.asc (hf.ok.ndk rcw) (hg.ok.ndk rcw) hf.ok.len hg.ok.len;have e3:fmul rcmp Sn f g os=⟨un f.A g.A,srtL ((zB9 Sn.mul f.A f.l g.A g.l).filter λp=>os.all λo=>okO (un f.A g.A) p.1 o)⟩:=by
  unfold fmul;rw[zQt Sn.add (zF9 (λs=>os.all λo=>okO (un f.A g.A) s o) hn)]
 rw[e3,<-e2];exact h
theorem sumOutF_c(hD:Okv Dm)(f:Fa Nat)(hf:Gof Dm f)(v:Nat)(hv:v∈f.A):Pure Ar 91 [cntD,faA f,iD (v:Nat)] [] (faA (fsum rcmp Sn v f)):=by
 have hr:=hf.r;have hv2:=hf.v;unfold rz at hr;unfold vz at hv2;have h:=sumOut_c f.A f.l v (zCx hf.ok.asc) (by omega) hf.ok.len (λp hp x hx=>(hD x (hf.ok.dom p hp x hx)).2) (Sm.of (by omega));have e1:f.A.filter (λu:Nat=>decide ((u:Int)≠(v:Int)))=less f.A v:=Ct λu _=>by
  grind
 rw[zT6,e1]at h;have e2:(f.l.map λp=>(zQ p.1 (zBo (λu:Nat=>decide ((u:Int)≠(v:Int))) f.A),p.2))=zJn f.A v f.l:=by
  unfold zJn;refine BP λp hp=>?_;rw[zFn hf.ok.asc.nd,e1];congr 1;conv=>rhs;rw[<-zLv hf.ok.asc.nd (hf.ok.len p hp),zPr,zEq hf.ok.asc.nd]
 rw[e2,zVy]at h;exact h
end
end
section
open Go.RowKit
structure Rn where
 V:List Int
 R:List Rw
 W:List Nat
 deriving Inhabited
def chkR(n:Int)(f:Rn):Int:=chk n f.V f.R f.W.length
def errL(n:Int):List Rn->Int
 |[]=>0
 |f::fs=>if chkR n f≠0 then chkR n f else errL n fs
def covP(n:Nat)(fs:List Rn):Bool:=(As n).all λv=>fs.any λf=>decide ((v:Int)∈f.V)
def zFc(n:Int)(keep:Nat)(fs:List Rn):Int:=if n<0\/32<n\/keep>>>n.toNat≠0 then 3 else if errL n fs≠0 then errL n fs else if covP n.toNat fs then 0 else 22
theorem zT1{n:Int}:∀{fs:List Rn}{i:Nat},(∀j,j<i->chkR n (fs.getD j Ak)=0)->i<fs.length->chkR n (fs.getD i Ak)≠0->errL n fs=chkR n (fs.getD i Ak)
 |[],i,_,h,_=>by simp at h
 |f::fs,0,_,_,h=>by
  grind [chkR,errL]
 |f::fs,i+1,hb,hi,h=>by
  have h0:chkR n f=0:=hb 0 (by omega);rw[errL,if_neg (by omega)];exact zT1 (fs:=fs) (i:=i) (λj hj=>hb (j+1) (by omega)) (by simpa using hi) h
theorem errL_0{n:Int}:∀{fs:List Rn},(∀j,j<fs.length->chkR n (fs.getD j Ak)=0)->errL n fs=0
 |[],_=>rfl
 |f::fs,h=>by
  have h0:chkR n f=0:=h 0 (by simp);rw[errL,if_neg (by omega)];exact errL_0 (fs:=fs) λj hj=>h (j+1) (by simpa using hj)
theorem zCl{n:Int}:∀{fs:List Rn},errL n fs=0->∀f∈fs,chkR n f=0
 |[],_,f,h=>by simp at h
 | g::fs,h,f,hf=>by
  rw[errL]at h;split at h
  ·grind
  rename_i k;rcases Bf.1 hf with rfl|hf
  ·omega
  exact zCl h f hf
def covM(fs:List Rn):Nat:=fs.foldl (λm f=>m|||msk (f.V.map Ax)) 0
theorem covM_bit:∀(fs:List Rn)(m v:Nat),(fs.foldl (λm f=>m|||msk (f.V.map Ax)) m).testBit v=(m.testBit v||fs.any λf=>decide (v∈f.V.map Ax))
 |[],m,v=>by simp
 |f::fs,m,v=>by rw[Cv,covM_bit fs,Nat.testBit_or,zC7,List.any_cons,Bool.or_assoc]
theorem zZw:∀(fs:List Rn)(m:Nat),m<4294967296->(∀f∈fs,∀v∈f.V.map Ax,v<32)->fs.foldl (λm f=>m|||msk (f.V.map Ax)) m<4294967296
 |[],m,h,_=>h
 |f::fs,m,h,hf=>zZw fs _ (zQw h (zCc (hf f (By ..)))) λg hg=>hf g (Bx _ hg)
theorem zKs:((v:Int)∈intL A)↔v∈A:=by
 grind
theorem zDa(A:List Nat):(intL A).map Ax=A:=by
 simp[intL,Function.comp_def]
theorem covM_eq(n:Nat)(fs:List Rn)(hf:∀f∈fs,∃A:List Nat,f.V=intL A/\∀v∈A,v<n):covM fs=2^n-1↔covP n fs=true:=by
 have hb:∀v,(covM fs).testBit v=fs.any λf=>decide ((v:Int)∈f.V):=λv=>by
  unfold covM;rw[covM_bit,Nat.zero_testBit,Ch,Cd,CY,CY];grind
 unfold covP;rw[Bq];constructor
 ·intro h v hv;rw[<-hb,h,C2];simpa using hv
 intro h;refine Nat.eq_of_testBit_eq λv=>?_;rw[hb,C2];by_cases hv:v<n
 ·simp_all
 grind
end
section
open Go.RowKit
attribute [local irreducible] seqW awp zY zZ zR Weak updS zAe retL Pure Acts rP setP setQ cP nP fr
set_option maxRecDepth 4096
abbrev rnC(f:Rn):List D:=[.row (f.V.map λz=>iD z) f.V.length, .row (f.R.map rowV) f.R.length, .row (f.W.map natD) f.W.length]
theorem zYw(f:Rn):(rnC f).length=3:=rfl
structure Rsz(f:Rn):Prop where
 v:f.V.length<=1000
 r:f.R.length<=1000
set_option maxHeartbeats 4000000 in
theorem checkAll_c(n keep:Nat)(fs:List Rn)(hn:n<=8)(hk:keep<4294967296)(hl:fs.length<=1000)(hs:∀f∈fs,Rsz f):Pure Ar 45 [iD (n:Nat),u32D keep, .row (fs.flatMap rnC) fs.length] [] (iD (zFc n keep fs)):=by
 have w1:=zHe keep (v:=n) (by omega);have w2:=zHf (v:=n) (by omega);have h2n:2^n<=256:=Nat.pow_le_pow_right (n:=2) (by omega) hn;have h1n:=Nat.one_le_two_pow (n:=n);have w3:((2^n:Nat):Int)-1=((2^n-1:Nat):Int):=by omega
 have w4:=zCk (n:=2^n-1) (by omega);have ewr:zFc n keep fs=if keep>>>n≠0 then 3 else if errL n fs≠0 then errL n fs else if covP n fs then 0 else 22:=by
  grind [zFc,Bm]
 generalize keep>>>n=kk at*;refine zJ Tq_ok mixed Tryz.func45 rfl ?_;focus
  refine vAu<|zA<|vA<|vw 10 [] [(2,Ac),(6,Ac)] (decide ((n:Int)<0)=Ac/\decide ((n:Int)>(32:Int))=Ac/\(0:Int)<=(n:Int))<|vs 20 (Aj<|Al AK<|AZ (keep:Int) ((2:Int)^min (Ax (n:Int)) 32)) (dig kk)<|veT<|zAk (t:=(kk:Int)!=(0:Int)) (by kernel_rfl) (λhc=>?_)<|λhc=>?_;simp only[bne_iff_ne]at hc;refine vAe<|zG<|zE<|vre (True) (Aj<|Al Bo 3) (.inr rfl) ?_;rotate_left;simp only[bne_eq_false_iff_eq]at hc;refine vK<|vAe<|zA<|vAe<|zF ?_;rotate_left
 ·grind
 have hcu:∀i,covM (fs.take i)<4294967296\/¬∀j,j<i->chkR n (fs.getD j Ak)=0:=λi=>by
  by_cases h:∀j,j<i->chkR n (fs.getD j Ak)=0
  ·refine .inl (zZw (fs.take i) 0 (by omega) λf hf v hv=>?_);obtain⟨j,hj,rfl⟩:=CT.1 hf;have hj2:j<i/\j<fs.length:=by rw[List.length_take]at hj;omega
   have:=h j hj2.1
   rw[AX,AJ hj2.2,CC]at this;obtain⟨A,hA,hfit⟩:=zCj this;rw[List.getElem_take,hA,show A.map (λv:Nat=>(v:Int))=intL A from rfl,zDa]at hv
   have:=hfit.lt v hv
   omega
  exact .inr h
 refine zN (λ(i:Nat)=>fr 45 [(0,iD n),(7,u32D<|covM<|Au i fs),(23,Ae (AB rnC fs)<|Aa fs),(24,iD<|Aa fs),(25,iD i)]) (λ(i:Nat)=>[]) (λi=>fs.length-i) (λ(i:Nat)=>i<=fs.length/\∀j,j<i->chkR n (fs.getD j Ak)=0) 0 ?_ ?_ ?_
 ·grind
 ·refine vk 0
 rintro i ⟨h1,h2⟩;have hcl:=(hcu i).resolve_right (λh=>h h2);rcases AG i fs.length with h3|h3
 ·have hm:=zAo fs Ak i h3;have hg2:=zDo zYw fs i h3;have hle:=zHc zYw fs i h3;have hne:=zEk zYw (by decide) fs;have hsz:=hs _ hm;have hat:=zT1 h2 h3;have htk:covM (fs.take (i+1))=covM (fs.take i)|||msk ((fs.getD i Ak).V.map Ax):=by
   grind [zBl,covM]
  generalize hff:fs.getD i Ak=f at*;obtain⟨V,R,W⟩:=f;have hch:=check_c n V R W (by have:=hsz.v;simp only at this;omega) (by have:=hsz.r;simp only at this;omega);by_cases e0:chk n V R W.length=0
  ·obtain⟨A,hA,hfit⟩:=zCj e0;have hA:V=intL A:=hA;subst hA;rw[e0]at hch;have eA:(intL A).map (λz=>iD z)=nsD A:=by simp[intL]
   have eL:(intL A).length=A.length:=by simp
   have hv32:∀v∈A,v<32:=λv hv=>by have:=hfit.lt v hv;omega
   have nA:A.length<=1000:=by have:=hsz.v;simp only[eL]at this;exact this
   have sA:=zRt A _ rfl nA hv32 (R.map rowV) (W.map natD) R.length W.length;rw[zDa]at htk;have w5:=zX0 hcl (zCc hv32);have w6:=zCk (zQw hcl (zCc hv32));simp only[rnC,eA,eL]at hg2;simp only[fcR,eA,eL]at hch;refine vAu<|zA<|vT ((i:Int)<↑(Aa fs))<|vKB<|vA<|vr 2 (ix ↑i ↑(Aa fs) (AB rnC fs≠[])/\3<=Aa (Ah (i*3)<|AB rnC fs))<|vs 28 (Az<|Au 3<|Ah (i*3)<|AB rnC fs) (Az [Ae (nsD A)<|Aa A,Ae (Ad rowV R)<|Aa R,Ae (Ad natD W)<|Aa W])<|ve (an_)<|zA<|vA<|vr 2 (3<=3)<|vc hch<|veT<|vAe<|vf<|vK<|zB rfl<|vr 2 (3<=3)<|vc sA<|vrT 1<|vs 38 (Aj<|Al AK<|A0 AK (↑(AS (Ay 32 (↑(covM<|Au i fs):Int)|||Ay 32 (↑(msk A):Int))):Int)) (dig (covM (Au i fs)|||msk A))<|vrT 1<|vnil<|zD<|vN<|zB rfl<|vr 2 (i6 (↑i+1))<|vnil<|zC<|⟨i+1,⟨by omega,λj hj=>?_⟩,by omega,?_⟩
   ·rcases AG j i with h|h
    ·exact h2 j h
    obtain rfl:j=i:=by omega
    rw[hff];exact e0
   rw[htk];refine vk 0
  have hat':=hat e0;have hat2:errL n fs=chk n V R W.length:=hat';generalize chk n V R W.length=e at*;refine vAu<|zA<|vT ((i:Int)<↑(Aa fs))<|vKB<|vA<|vr 2 (ix ↑i ↑(Aa fs) (AB rnC fs≠[])/\3<=Aa (Ah (i*3)<|AB rnC fs))<|vs 28 (Az<|Au 3<|Ah (i*3)<|AB rnC fs) (Az<|rnC<|Rn.mk V R W)<|ve (an_)<|zA<|vA<|vr 2 (3<=3)<|vc hch<|veT<|vAe<|zFr (t:=e !=(0:Int)) (by kernel_rfl) (by simpa using by omega)<|vAe<|zG<|zE<|zH<|zE<|zE<|zH<|zE<|vre (True) (Aj<|Al Bo e) (.inr rfl) ?_;grind
 rw[AU h3]at hcl⊢;have h0:=errL_0 λj hj=>h2 j (by omega);have hce:=covM_eq n fs λf hf=>by
  obtain⟨A,hA,hfit⟩:=zCj (zCl h0 f hf);exact⟨A,hA,λv hv=>by have:=hfit.lt v hv;omega⟩
 focus
  refine vAu<|zA<|vF ((i:Int)<↑(Aa fs))<|vZ2<|zA<|vA<|vr 3 ((0:Int)<=(n:Int))<|vs 42 (Aj<|Al AK<|A0 AK ((1:Int)*(2:Int)^min (Ax (n:Int)) 32)) (dig ((2:Nat)^n))<|vr 1 (u3 ((↑((2:Nat)^n):Int)-(1:Int)))<|vs 43 (Aj<|Al AK ((↑((2:Nat)^n):Int)-(1:Int))) (dig ((2:Nat)^n-1))<|veT<|zAk (t:=(↑(covM fs):Int)!=(↑((2:Nat)^n-1):Int)) (by kernel_rfl) (λhc=>?_)<|λhc=>?_;simp only[bne_iff_ne]at hc;refine vAe<|zG<|zE<|vre (True) (Aj<|Al Bo 22) (.inr rfl) ?_;rotate_left;simp only[bne_eq_false_iff_eq]at hc;refine vK<|vAe<|zG<|vre (True) (q2_) (.inr rfl) ?_;rotate_left
 all_goals grind
theorem bl_iff:∀a b:List UInt8,Op.bytesLess a b=decide (B3 a b=-1)
  |[],[]=>rfl
  |[],_::_=>by simp[Op.bytesLess,B3]
  |_::_,[]=>by simp[Op.bytesLess,B3]
  | x ::a,y::b=>by
    have ih:=bl_iff a b;unfold Op.bytesLess B3;by_cases h1:x<y
    ·simp[h1]
    · by_cases h2:y<x
      · have:¬x=y:=λe=>h1 (e▸h2)
        simp[h1,h2,this]
      · have e:x=y:=UInt8.le_antisymm (UInt8.not_lt.1 h2) (UInt8.not_lt.1 h1)
        simp[h1,h2,e,ih]
def Tl:Par:=⟨λ_=>Ac,λ_ _=>AE,λ_=>Ac,λ_=>Ac,λ_=>Ac⟩
theorem zDw:zBg Ar Tl:=by intro t n f h;cases h
theorem rcv_c (a b:Va):Pure Ar 98 [vaD a,vaD b] [] (iD (vcmp a b)):=by
  refine zJ zDw mixed Tryz.func98 rfl ?_;focus
    refine vAu<|zA<|vA<|vr 3 (3<=3/\3<=3/\True)<|vs 7 (bD (Aw a==Aw b&&(AC a==AC b&&(CO (bs<|AA a)==CO (bs<|AA b)&&Ab)))) (bD (Aw a==Aw b&&(AC a==AC b&&AA a==AA b))) (hd:=by simp(disch:=omega) only[zLb,Bool.and_true])<|veT<|zAk (t:=Aw a==Aw b&&(AC a==AC b&&AA a==AA b)) (by kernel_rfl) (λhc=>?_)<|λhc=>?_;simp only[decide_eq_true_eq,decide_eq_false_iff_not,beq_iff_eq,bne_iff_ne,beq_eq_false_iff_ne,Bu,Cc,Cq,CV,ne_eq,Decidable.not_not,Int.not_lt,Int.not_le,ge_iff_le,gt_iff_lt,bne_eq_false_iff_eq]at hc;refine vAe<|zG<|zE<|vre (True) (q2_) (.inr rfl) ?_;rotate_left;refine vK<|zA<|vA<|vr 6 (True/\0<3/\True/\0<3)<|vspD 13 (Aw a<Aw b) (λhc=>?_)<|λhc=>?_;refine veT<|vt<|vAe<|zG<|zE<|vre (True) (q0_) (.inr rfl) ?_;rotate_left;refine vr 6 (True/\0<3/\True/\0<3/\True)<|vsp 19 (Aw a==Aw b) (λhc=>?_)<|λhc=>?_;simp only[beq_iff_eq]at hc;refine vr 6 (True/\0<2/\True/\0<2)<|vspD 25 (AC a<AC b) (λhc=>?_)<|λhc=>?_;refine veT<|vt<|vAe<|zG<|zE<|vre (True) (q0_) (.inr rfl) ?_;rotate_left;refine vr 6 (True/\0<2/\True/\0<2/\True)<|vsp 31 (AC a==AC b) (λhc=>?_)<|λhc=>?_;simp only[beq_iff_eq]at hc;refine vr 5 (True/\0<1/\True/\0<1)<|vs 36 (bD<|Op.bytesLess (CO<|bs<|AA a)<|CO<|bs<|AA b) (bD<|decide (B3 (AA a) (AA b)=(-1:Int))) (hd:=by simp(disch:=omega) only[zLb,bl_iff,Int.reduceNeg])<|veT<|vcD (B3 (AA a) (AA b)=(-1:Int)) (λhc=>?_)<|λhc=>?_;refine vAe<|zG<|zE<|vre (True) (q0_) (.inr rfl) ?_;rotate_left;refine vK<|vAe<|zG<|vre (True) (q1_) (.inr rfl) ?_;rotate_left;simp only[beq_eq_false_iff_ne]at hc;refine veT<|vf<|vK<|vAe<|zG<|vre (True) (q1_) (.inr rfl) ?_;rotate_left;simp only[beq_eq_false_iff_ne]at hc;refine veT<|vf<|vK<|vAe<|zG<|vre (True) (q1_) (.inr rfl) ?_;rotate_left
  all_goals
    have e1:=(zJ3 a.str b.str).1;have e2:=(zJ3 a.str b.str).2.1;have e3:=zD8 a.kind b.kind;have e4:=zD8 a.int b.int;refine congrArg (λz=>iD z) ?_;unfold vcmp;split
    ·omega
    · first
      |omega
      | (split
         ·omega
         · by_cases hs:a.str=b.str
           · have:=e2.2 hs
             first
               |omega
               |(exfalso;simp_all)
           · have:B3 a.str b.str≠0:=λh=>hs (e2.1 h)
             first
               |omega
               |(exfalso;simp_all))
set_option maxHeartbeats 2000000 in
theorem rless_c(a b:Rw)(n m:Nat)(hn:a.length=n)(hm:b.length=m)(ln:n<=1000000000)(lm:m<=1000000000):Pure Ar 51 [.row (zM a) n, .row (zM b) m] [] (bD (decide (rcmp a b<0))):=by
  subst hn hm;refine zJ zDw mixed Tryz.func51 rfl<|vAu<|zA<|vAe<|zF<|zN (λ(i:Nat)=>fr 37 [(0,Ae (zM a)<|Aa a),(1,Ae (zM b)<|Aa b),(5,iD (i:Int))]) (λ_=>[]) (λi=>a.length-i) (λi=>i<=a.length/\i<=b.length/\a.take i=b.take i) 0 ?_ ?_ ?_
  ·grind
  ·refine vk 0
  rintro i ⟨h1,h2,h3⟩;focus
    refine zA<|vAs<|vrT 5<|vspD 11 ((i:Int)<↑(Aa a)) (λhc=>?_)<|λhc=>?_;refine veT<|vcD ((i:Int)<↑(Aa b)) (λhc=>?_)<|λhc=>?_;refine vKB<|zA<|vd [0,1,2,4,5,6,3,7,8,9]<|vr 7 (ix ↑i ↑(Aa a) (zM a≠[])/\ix ↑i ↑(Aa b) (zM b≠[])/\3<=Aa (Ah (i*3)<|zM a)) (vs 22 (Az<|Au 3<|Ah (i*3)<|zM a) (Az<|vaC<|Aq a i Ak) (hd:=by simp(disch:=omega) only[zCu])<|vr 1 (3<=Aa (Ah (i*3)<|zM b)) (vs 26 (Az<|Au 3<|Ah (i*3)<|zM b) (Az<|vaC<|Aq b i Ak) (hd:=by simp(disch:=omega) only[zCu])<|vca [Az [iD<|Aw<|Aq a i Ak,iD<|AC<|Aq a i Ak,Aj<|AN<|bs<|AA<|Aq a i Ak],Az [iD<|Aw<|Aq b i Ak,iD<|AC<|Aq b i Ak,Aj<|AN<|bs<|AA<|Aq b i Ak]] (by exact rcv_c _ _)<|veT<|zA ?_) (by exact zEd _ _)) ⟨⟨(by omega),⟨(by omega),(by exact zF1 _)⟩⟩,⟨(by omega),⟨(by omega),(by exact zF1 _)⟩⟩,(by exact zEd _ _)⟩;refine zB rfl<|veT<|zAk (t:=vcmp (Aq a i Ak) (Aq b i Ak)!=(0:Int)) (by kernel_rfl) (λhc=>?_)<|λhc=>?_;simp only[bne_iff_ne]at hc;refine vAe<|zG<|zH<|zE<|zE<|zH<|zE<|vre (True) (Aj<|BS<|decide (vcmp (Aq a i Ak) (Aq b i Ak)<0)) (.inr rfl) ?_;rotate_left;simp only[bne_eq_false_iff_eq]at hc;refine zL<|zD<|vN<|zB rfl<|vr 3 (i6 (↑i+1))<|vnil<|zC ?_;rotate_left;refine vZ2<|vAe<|zG<|vre (True) (Aj<|BS<|decide ((Aa a:Int)<(Aa b:Int))) (.inr rfl) ?_;rotate_left;refine veT<|vf<|vZ2<|vAe<|zG<|vre (True) (Aj<|BS<|decide ((Aa a:Int)<(Aa b:Int))) (.inr rfl) ?_;rotate_left
  ·grind [rcmp_at]
  · refine⟨i+1,⟨by omega,by omega,zMh i a b (by omega) (by omega) h3 hc⟩,by omega,?_⟩
    refine vk 0
  all_goals
    rw[<-zN8 a b,rcmp_end a b i [] (by omega) (by omega) h3 (by omega)];refine congrArg bD ?_;rw[Cd,decide_eq_true_eq,decide_eq_true_eq];split
    ·omega
    split<;>omega
theorem rsame_c(a:Rw)(n:Nat)(hn:a.length=n)(ln:n<=1000000000):Pure Ar 50 [.row (zM a) n, .row (zM a) n] [] (bD Ab):=by
  have h:=rless_c a a n n hn hn ln ln;have e:decide (rcmp a a<0)=false:=by simp[(zD1 a a).2.1.2 rfl]
  rw[e]at h;refine zJ zDw mixed Tryz.func50 rfl<|vAu<|vA<|vrT 2<|vc (h)<|vrT 4<|vc (h)<|veT<|zG<|vret (True)<|.inr rfl
theorem rindex_c(V:List Int)(n:Nat)(v:Int)(hn:V.length=n)(ln:n<=1000000000):Pure Ar 52 [.row (V.map iD) n,iD v] [] (iD (ixI V v)):=by
  subst hn;refine zJ zDw mixed Tryz.func52 rfl<|vAu<|zA<|vAe<|zF<|zN (λ(i:Nat)=>fr 19 [(0,Ae (Ad iD V)<|Aa V),(1,iD v),(5,iD (i:Int))]) (λ_=>[]) (λi=>V.length-i) (λi=>i<=V.length/\∀j,j<i->V.getD j 0≠v) 0 ?_ ?_ ?_
  ·grind
  ·refine vk 0
  rintro i ⟨h1,h2⟩;rcases AG i V.length with h3|h3
  · have hne:V.map iD≠[]:=zV
    have hx:=zB0 V i h3;focus
      refine zA<|vAu<|vT ((i:Int)<↑(Aa V))<|vKB<|vA<|vr 3 (ix ↑i ↑(Aa V) (Ad iD V≠[]))<|vp 14 i (Ad iD V)<|vr 1 (0<Aa (Ah i<|Ad iD V))<|vsh 15 hx<|veT<|zAk (t:=Aq V i (0:Int)==v) (by kernel_rfl) (λhc=>?_)<|λhc=>?_;simp only[beq_iff_eq]at hc;refine vAe<|zG<|zH<|zE<|zE<|zH<|zE<|vre (True) (Aj<|Al Bo (i:Int)) (.inr rfl) ?_;rotate_left;simp only[beq_eq_false_iff_ne]at hc;refine zL<|zD<|vN<|zB rfl<|vr 3 (i6 (↑i+1))<|vnil<|zC ?_;rotate_left
    ·rw[ixI_yes h3 hc h2]
    · refine⟨i+1,⟨by omega,λj hj=>?_⟩,by omega,?_⟩
      ·grind
      refine vk 0
  · refine zA<|vAu<|vF ((↑i:Int)<(↑(Aa V):Int))<|vZ2<|vAe<|zG<|vre (True) (Aj<|Al Bo (-1:Int)) (.inr rfl) ?_
    grind [ixI_no]
abbrev isD(l:List (Rw×Nat)):List D:=nsD (l.map (·.2))
abbrev rfC(A:List Nat)(l:List (Rw×Nat)):List D:=[.row (nsD A) A.length, .row (rwsD l) l.length, .row (isD l) l.length]
abbrev rfD(A:List Nat)(l:List (Rw×Nat)):D:= .agg (rfC A l)
abbrev rB(a b c:D):Bk:=⟨[a,b,c],42,0,Ac,Ac, .plain⟩
theorem getD_fst'(l:List (Rw×Nat))(h:k<l.length):(l.map (·.1)).getD k []=(l.getD k Ak).1:=by simp[AX,h]
theorem getD_snd'(l:List (Rw×Nat))(h:k<l.length):(l.map (·.2)).getD k 0=(l.getD k Ak).2:=by simp[AX,h]
theorem headD_rw(l:List (Rw×Nat))(h:k<l.length):((rwsD l).drop k).headD .unk=rowV (l.getD k Ak).1:=by
 rw[<-getD_fst' l h];exact zAl (l.map (·.1)) k (by simpa using h)
theorem headD_is(l:List (Rw×Nat))(h:k<l.length):((isD l).drop k).headD .unk=iD ((l.getD k Ak).2:Nat):=by
 rw[<-getD_snd' l h];exact zA6 (l.map (·.2)) k (by simpa using h)
abbrev rfAc(f:Fa Nat):List D:=rfC f.A f.l
section
variable{Dm:List Va}
theorem refP_z{α:Type}{c:Rw->Rw->Int}{S:Sr α}{z:Fa α->Nat}(h1:∀f g os,z (fmul c S f g os)<=z f*z g):∀(fs:List (Fa α))(p:Fa α),z (refP c S p fs)<=z p*pz z fs
 |[],p=>by simp[refP,pz]
 |f::fs,p=>by
  have h2:=refP_z h1 fs (fmul c S p f []);rw[zCi,<-Cf];exact AT h2 (BW _ (h1 p f []))
theorem refS_z{α:Type}{c:Rw->Rw->Int}{S:Sr α}{z:Fa α->Nat}(h2:∀v f,z (fsum c S v f)<=z f):∀(vs:List Nat)(f:Fa α),z (refS c S f vs)<=z f
 |[],f=>A7 _
 |v::vs,f=>AT (refS_z h2 vs (fsum c S v f)) (h2 v f)
end
end
section
open Go.RowKit
attribute [local irreducible] seqW awp zY zZ zR Weak updS zAe retL Pure Acts rP setP setQ cP nP fr
set_option maxRecDepth 100000
theorem u8_rng(x:Int):0<=Av.wrap x/\Av.wrap x<256:=by
 unfold A0;have h:(2:Int)^Av.bits=256:=by decide
 rw[h];simp only[IntKind.signed];grind
theorem and255(b:BitVec 32):(0:Int)<=((b&&&Ay 32 255).toNat:Nat)/\(((b&&&Ay 32 255).toNat:Nat):Int)<((256:Nat):Int):=by
 grind [AT,Nat.and_le_right]
theorem shr24(m:Nat)(hm:m<4294967296):0<=AZ (m:Int) (2^24)/\AZ (m:Int) (2^24)<((256:Nat):Int):=by
 grind
def popT:List UInt8:=[0,1,1,2,1,2,2,3,1,2,2,3,2,3,3,4,1,2,2,3,2,3,3,4,2,3,3,4,3,4,4,5,1,2,2,3,2,3,3,4,2,3,3,4,3,4,4,5,2,3,3,4,3,4,4,5,3,4,4,5,4,5,5,6,1,2,2,3,2,3,3,4,2,3,3,4,3,4,4,5,2,3,3,4,3,4,4,5,3,4,4,5,4,5,5,6,2,3,3,4,3,4,4,5,3,4,4,5,4,5,5,6,3,4,4,5,4,5,5,6,4,5,5,6,5,6,6,7,1,2,2,3,2,3,3,4,2,3,3,4,3,4,4,5,2,3,3,4,3,4,4,5,3,4,4,5,4,5,5,6,2,3,3,4,3,4,4,5,3,4,4,5,4,5,5,6,3,4,4,5,4,5,5,6,4,5,5,6,5,6,6,7,2,3,3,4,3,4,4,5,3,4,4,5,4,5,5,6,3,4,4,5,4,5,5,6,4,5,5,6,5,6,6,7,3,4,4,5,4,5,5,6,4,5,5,6,5,6,6,7,4,5,5,6,5,6,6,7,5,6,6,7,6,7,7,8]
def popB(i:Nat):Int:=((popT.toArray.getD i 0).toNat:Int)
theorem popW_c(m:Nat)(hm:m<4294967296):Pure Ar 89 [u32D m] [] (iD (Bo.wrap (Av.wrap (Av.wrap (Av.wrap (popB (AZ (m:Int) (2^24)).toNat+popB (Ay 32 (AZ (m:Int) (2^16))&&&Ay 32 255).toNat)+popB (Ay 32 (AZ (m:Int) (2^8))&&&Ay 32 255).toNat)+popB (Ay 32 (m:Int)&&&Ay 32 255).toNat)))):=by
 have h1:=shr24 m hm;have h2:=and255 (Ay 32 (AZ (m:Int) (2^16)));have h3:=and255 (Ay 32 (AZ (m:Int) (2^8)));have h4:=and255 (Ay 32 (m:Int));refine zJ zDw mixed Tryz.func89 rfl<|vAu<|zA<|vd [0,1,2,3,4,5,6,7,8,9,10,11,12,13,14,15,16,17,18]<|vr 6 ((0:Int)<=(24:Int)/\((0:Int)<=AZ (m:Int) ((2:Int)^24)/\AZ (m:Int) ((2:Int)^24)<(↑(256:Nat):Int))/\(0:Int)<=(16:Int)/\True)<|vs 8 (Aj<|Al AK<|A0 AK (↑(AS (Ay 32 (AZ (m:Int) ((2:Int)^16))&&&Ay 32 (255:Int))):Int)) (dig<|AS (Ay 32 (AZ (m:Int) ((2:Int)^16))&&&Ay 32 (255:Int))) (hd:=by simp(disch:=omega) only[zBw])<|vw 5 [10] [] (((0:Int)<=(↑(AS (Ay 32 (AZ (m:Int) ((2:Int)^16))&&&Ay 32 (255:Int))):Int)/\(↑(AS (Ay 32 (AZ (m:Int) ((2:Int)^16))&&&Ay 32 (255:Int))):Int)<(↑(256:Nat):Int))/\True/\(0:Int)<=(8:Int)/\True)<|vs 13 (Aj<|Al AK<|A0 AK (↑(AS (Ay 32 (AZ (m:Int) ((2:Int)^8))&&&Ay 32 (255:Int))):Int)) (dig<|AS (Ay 32 (AZ (m:Int) ((2:Int)^8))&&&Ay 32 (255:Int))) (hd:=by simp(disch:=omega) only[zBw])<|vw 4 [15] [] (((0:Int)<=(↑(AS (Ay 32 (AZ (m:Int) ((2:Int)^8))&&&Ay 32 (255:Int))):Int)/\(↑(AS (Ay 32 (AZ (m:Int) ((2:Int)^8))&&&Ay 32 (255:Int))):Int)<(↑(256:Nat):Int))/\True/\True)<|vs 17 (Aj<|Al AK<|A0 AK (↑(AS (Ay 32 (m:Int)&&&Ay 32 (255:Int))):Int)) (dig<|AS (Ay 32 (m:Int)&&&Ay 32 (255:Int))) (hd:=by simp(disch:=omega) only[zBw])<|vew [19,20] [] (((0:Int)<=(↑(AS (Ay 32 (m:Int)&&&Ay 32 (255:Int))):Int)/\(↑(AS (Ay 32 (m:Int)&&&Ay 32 (255:Int))):Int)<(↑(256:Nat):Int))/\True/\True)<|zG<|vret (True)<|.inr rfl
theorem popc_c(m:Nat)(hm:m<4294967296):∃k:Nat,Pure Ar 89 [u32D m] [] (iD (k:Nat)):=by
 have h:=popW_c m hm;generalize Av.wrap (popB (AZ (m:Int) (2^24)).toNat+popB (Ay 32 (AZ (m:Int) (2^16))&&&Ay 32 255).toNat)+popB (Ay 32 (AZ (m:Int) (2^8))&&&Ay 32 255).toNat=a at h;have r:=u8_rng (Av.wrap a+popB (Ay 32 (m:Int)&&&Ay 32 255).toNat);generalize Av.wrap (Av.wrap a+popB (Ay 32 (m:Int)&&&Ay 32 255).toNat)=b at h r;rw[zDx (k:= .i64) (by simp only[inK];omega)]at h;refine⟨b.toNat,?_⟩;grind
noncomputable def popN (m:Nat):Nat:=if hm:m<4294967296 then Classical.choose (popc_c m hm)else 0
theorem popN_c(m:Nat)(hm:m<4294967296):Pure Ar 89 [u32D m] [] (iD (popN m:Nat)):=by
 grind [popN,popc_c]
end
section
open Go.RowKit
attribute [local irreducible] seqW awp zY zZ zR Weak updS zAe retL Pure Acts rP setP setQ cP nP fr
set_option maxRecDepth 4096
theorem max_nat(a b:Nat):(if((b:Nat):Int)>(a:Nat)then((b:Nat):Int)else((a:Nat):Int))=((max a b:Nat):Int):=by split<;>omega
theorem zVm(v:Nat)(fs:List (Fa α))(k:Nat)(h:k<fs.length):uniM v (fs.take (k+1))=if v∈(fs.getD k Ak).A then uniM v (fs.take k)|||msk (fs.getD k Ak).A else uniM v (fs.take k):=by
 grind [zBl,uniM]
theorem zX2(v:Nat)(fs:List (Fa α))(k:Nat)(h:k<fs.length):bigL v (fs.take (k+1))=if v∈(fs.getD k Ak).A then max (bigL v (fs.take k)) (fs.getD k Ak).A.length else bigL v (fs.take k):=by
 grind [zBl,bigL]
theorem zNt{α:Type}(v:Nat):∀(fs:List (Fa α))(m:Nat),m<4294967296->(∀f∈fs,∀w∈f.A,w<32)->fs.foldl (λm f=>if v∈f.A then m|||msk f.A else m) m<4294967296
 |[],m,h,_=>h
 |f::fs,m,h,hf=>by
  rw[Cv];refine zNt v fs _ ?_ λg hg=>hf g (Bx _ hg);grind [zQw,zCc,By]
theorem ch_succ(fs:List (Fa α))(E:List Nat)(i:Nat)(h:i<E.length)(s0:Int×Nat):(E.take (i+1)).foldl (zGg popN fs) s0=zGg popN fs ((E.take i).foldl (zGg popN fs) s0) (E.getD i 0):=by
 grind [BL,AJ]
set_option maxHeartbeats 8000000 in
theorem cheapest_c(fs:List (Fa Nat))(E:List Nat)(hE:Asc E)(hne:E≠[])(hA:∀f∈fs,Asc f.A)(hl:fs.length<=1000):
  Pure Ar 47 [.row (fs.flatMap faAc) fs.length,u32D (msk E)] [] (iD (zBb popN fs E:Nat)):=by
 have hm:=zKr (msk E) (zCc hE.2);rw[zHp hE]at hm;have nE:=zCx hE;refine zJ zDw mixed Tryz.func47 rfl<|vAu<|vAe<|zA<|vA<|vrT 1<|vc (hm)<|veT<|zF<|zA0 (λ(i:Nat)(b:Int)(l:Nat)=>fr 59 [(0,Ae (AB faAc fs)<|Aa fs),(4,iD 0),(5,iD b),(6,iD (l:Int)),(15,Ae (nsD E)<|Aa E),(16,iD (Aa E:Int)),(17,iD (i:Int))]) (λ(i:Nat)(b:Int)(l:Nat)=>[]) (λi b l=>E.length-i) (λ(i:Nat)(b:Int)(l:Nat)=>i<=E.length/\(b,l)=(E.take i).foldl (zGg popN fs) (-1,0)) 0 (-1) 0 ?_ ?_ ?_
 ·grind
 ·refine vk 0
 rintro i b l ⟨h1,h2⟩;rcases AG i E.length with h3|h3
 ·have hz:=zA6 E i h3;have hneE:nsD E≠[]:=zV;have hst:=ch_succ fs E i h3 (-1,0);rw[<-h2]at hst;have hv32:=hE.2 _ (zDy E i h3);generalize E.getD i 0=v at*;refine vAu<|zA<|vT ((i:Int)<↑(Aa E))<|vKB<|vA<|vr 1 (ix ↑i ↑(Aa E) (nsD E≠[]))<|vp 19 i (nsD E)<|vr 1 (0<Aa (Ah i<|nsD E))<|vsh 20 hz<|veT<|vAe<|vAe<|zA<|vAe<|zF<|zN (λ(k:Nat)=>fr 59 [(0,Ae (AB faAc fs)<|Aa fs),(4,iD 0),(5,iD b),(6,iD l),(8,iD v),(9,u32D<|uniM v<|Au k fs),(10,iD (↑(bigL v<|Au k fs):Int)),(15,(q10_ E)),(16,iD<|Aa E),(17,iD i),(21,Ae (AB faAc fs)<|Aa fs),(22,iD<|Aa fs),(23,iD k)]) (λ(k:Nat)=>[]) (λk=>fs.length-k) (λ(k:Nat)=>k<=fs.length) 0 ?_ ?_ ?_
  ·omega
  ·refine vk 0
  rintro k k1;rcases AG k fs.length with k2|k2
  ·have hmf:=zAo fs Ak k k2;have hg2:=zDo zBf fs k k2;have hle:=zHc zBf fs k k2;have hne2:=zEk zBf (by decide) fs;have hAf:=hA _ hmf;have nAf:=zCx hAf;have u1:=zVm v fs k k2;have u2:=zX2 v fs k k2;have u3:uniM v (fs.take k)<4294967296:=zNt v (fs.take k) 0 (by omega) λf hf=>(hA f (List.mem_of_mem_take hf)).2;have sA:=zRt (fs.getD k Ak).A _ rfl (by omega) hAf.2 (rwsD (fs.getD k Ak).l) (vlsD (fs.getD k Ak).l) (fs.getD k Ak).l.length (fs.getD k Ak).l.length;have hma:=zCc hAf.2;have w1:=bit_b hma v;have w2:=bit_w hma v;rw[zC7]at w1 w2;have w3:=zHe (msk (fs.getD k Ak).A) hv32;have w4:=zX0 u3 hma;have w5:=zCk (zQw u3 hma);have w6:=max_nat (bigL v (fs.take k)) (fs.getD k Ak).A.length;generalize fs.getD k Ak=f at*;focus
    refine vAu<|zA<|vT ((k:Int)<↑(Aa fs))<|vKB<|vA<|vr 2 (ix ↑k ↑(Aa fs) (AB faAc fs≠[])/\3<=Aa (Ah (k*3)<|AB faAc fs))<|vs 26 (Az<|Au 3<|Ah (k*3)<|AB faAc fs) (Az<|faAc f)<|ve (an_)<|vA<|vr 1 (3<=3)<|vc sA<|vr 2 ((0:Int)<=(v:Int))<|vs 30 (Aj<|Al AK<|AZ (↑(msk<|Fa.A f):Int) ((2:Int)^min (Ax (v:Int)) 32)) (dig (msk (Fa.A f)>>>v))<|vrT 1<|vs 31 (Aj<|Al AK<|A0 AK (↑(AS (Ay 32 (↑(msk (Fa.A f)>>>v):Int)&&&Ay 32 (1:Int))):Int)) (dig<|AS (Ay 32 (↑(msk (Fa.A f)>>>v):Int)&&&Ay 32 (1:Int))) (hd:=by simp(disch:=omega) only[zBw])<|vrT 1<|vs 32 (bD ((↑(AS (Ay 32 (↑(msk (Fa.A f)>>>v):Int)&&&Ay 32 (1:Int))):Int)==(1:Int))) (bD<|decide (v∈Fa.A f))<|veT<|vcD (v∈Fa.A f) (λhc=>?_)<|λhc=>?_;refine vA<|vr 2 (3<=3)<|vc sA<|vrT 1<|vs 36 (Aj<|Al AK<|A0 AK (↑(AS (Ay 32 (↑(uniM v<|Au k fs):Int)|||Ay 32 (↑(msk<|Fa.A f):Int))):Int)) (dig (uniM v (Au k fs)|||msk (Fa.A f)))<|veT<|zB rfl<|vr 5 (ar_)<|vs 41 (iD (if(Aa (Fa.A f):Int)>(↑(bigL v<|Au k fs):Int)then(Aa (Fa.A f):Int)else(↑(bigL v<|Au k fs):Int))) (iD (↑(max (bigL v<|Au k fs)<|Aa<|Fa.A f):Int))<|vrT 1<|vnil<|zD<|vN<|zB rfl<|vr 2 (i6 (↑k+1))<|vnil<|zC ?_;rotate_left;refine zL<|zD<|vN<|zB rfl<|vr 2 (i6 (↑k+1))<|vnil<|zC ?_;rotate_left
   ·rw[if_pos hc]at u1 u2;refine⟨k+1,by omega,by omega,?_⟩;rw[u1,u2];refine vk 0
   rw[if_neg hc]at u1 u2;refine⟨k+1,by omega,by omega,?_⟩;rw[u1,u2];refine vk 0
  obtain rfl:k=fs.length:=by omega
  have u3:uniM v fs<4294967296:=zNt v fs 0 (by omega) λf hf=>(hA f hf).2;have hp:=popN_c (uniM v fs) u3;rw[CH];have hco:zJo popN fs v=if popN (uniM v fs)=bigL v fs then 0 else popN (uniM v fs):=rfl
  unfold zGg at hst;generalize popN (uniM v fs)=q at*;focus
   refine vAu<|zA<|vF ((Aa fs:Int)<↑(Aa fs))<|vZ2<|vA<|vrT 1<|vc hp<|veT<|zA<|vAe<|zAk (t:=(q:Int)==↑(bigL v fs)) (by kernel_rfl) (λhc=>?_)<|λhc=>?_;simp only[beq_iff_eq]at hc;refine zB rfl<|veT<|vA<|vrT 3<|vspD 50 (b<0) (λhc=>?_)<|λhc=>?_;refine veT<|vt<|zB rfl<|vrT 4<|vnil<|zD<|vN<|zB rfl<|vr 2 (i6 (↑i+1))<|vnil<|zC ?_;rotate_left;refine veT<|vcD ((0:Int)<(l:Int)) (λhc=>?_)<|λhc=>?_;refine zB rfl<|vrT 4<|vnil<|zD<|vN<|zB rfl<|vr 2 (i6 (↑i+1))<|vnil<|zC ?_;rotate_left;refine zL<|zD<|vN<|zB rfl<|vr 2 (i6 (↑i+1))<|vnil<|zC ?_;rotate_left;simp only[beq_eq_false_iff_ne]at hc;refine vK<|vA<|vrT 3<|vspD 50 (b<0) (λhc=>?_)<|λhc=>?_;refine veT<|vt<|zB rfl<|vrT 4<|vnil<|zD<|vN<|zB rfl<|vr 2 (i6 (↑i+1))<|vnil<|zC ?_;rotate_left;refine veT<|vcD ((q:Int)<↑l) (λhc=>?_)<|λhc=>?_;refine zB rfl<|vrT 4<|vnil<|zD<|vN<|zB rfl<|vr 2 (i6 (↑i+1))<|vnil<|zC ?_;rotate_left;refine zL<|zD<|vN<|zB rfl<|vr 2 (i6 (↑i+1))<|vnil<|zC ?_;rotate_left
  ·have e:zJo popN fs v=0:=by rw[hco,if_pos (by omega)]
   rw[e,if_pos (by simp only;omega)]at hst;refine⟨i+1,(v:Int),0,⟨by omega,hst.symm⟩,by omega,?_⟩;refine vk 0
  ·have e:zJo popN fs v=0:=by rw[hco,if_pos (by omega)]
   rw[e,if_pos (by simp only;omega)]at hst;refine⟨i+1,(v:Int),0,⟨by omega,hst.symm⟩,by omega,?_⟩;refine vk 0
  ·have e:zJo popN fs v=0:=by rw[hco,if_pos (by omega)]
   rw[e,if_neg (by simp only;omega)]at hst;refine⟨i+1,b,l,⟨by omega,hst.symm⟩,by omega,?_⟩;refine vk 0
  ·have e:zJo popN fs v=q:=by rw[hco,if_neg (by omega)]
   rw[e,if_pos (by simp only;omega)]at hst;refine⟨i+1,(v:Int),q,⟨by omega,hst.symm⟩,by omega,?_⟩;refine vk 0
  ·have e:zJo popN fs v=q:=by rw[hco,if_neg (by omega)]
   rw[e,if_pos (by simp only;omega)]at hst;refine⟨i+1,(v:Int),q,⟨by omega,hst.symm⟩,by omega,?_⟩;refine vk 0
  have e:zJo popN fs v=q:=by rw[hco,if_neg (by omega)]
  rw[e,if_neg (by simp only;omega)]at hst;refine⟨i+1,b,l,⟨by omega,hst.symm⟩,by omega,?_⟩;refine vk 0
 rw[AU (by omega)]at h2;have hcm:=(zHz popN fs hne).2;rw[<-h2]at hcm;refine vAu<|zA<|vF ((i:Int)<↑(Aa E))<|vZ2<|vAe<|zG<|vre (True) (Aj<|Al Bo b) (.inr rfl) ?_;rw[<-hcm]
end
section
open Go.Shelf
set_option maxRecDepth 16384
def Tryz.grow140_ren:Go.Shelf.Ren:=⟨λ|4=>140|n=>n,λ|22=>61|25=>90|3=>3|4=>4|9=>9|20=>20|0=>0|n=>n,λ|n=>n⟩
theorem Tryz.grow140:Go.Proofs.Lays8.n4 Ar Tryz.grow140_ren:={
 mixed:=by kernel_rfl
 f4:=⟨Tryz.f140.name,by decide,Tryz.func140.trans (congrArg Am (by kernel_rfl))⟩
 t0:=Tryz.underlying0
 a0:=Tryz.isAgg0
 z0:=Tryz.sizeOf0
 v0:=Tryz.zeroValue0
 t3:=Tryz.underlying3
 a3:=Tryz.isAgg3
 z3:=Tryz.sizeOf3
 v3:=Tryz.zeroValue3
 t4:=Tryz.underlying4
 a4:=Tryz.isAgg4
 z4:=Tryz.sizeOf4
 v4:=Tryz.zeroValue4
 t9:=Tryz.underlying9
 a9:=Tryz.isAgg9
 z9:=Tryz.sizeOf9
 v9:=Tryz.zeroValue9
 t20:=Tryz.underlying20
 a20:=Tryz.isAgg20
 z20:=Tryz.sizeOf20
 v20:=Tryz.zeroValue20
 t22:=Tryz.underlying61
 a22:=Tryz.isAgg61
 z22:=Tryz.sizeOf61
 v22:=Tryz.zeroValue61}
def Tryz.grow153_ren:Go.Shelf.Ren:=⟨λ|4=>153|n=>n,λ|22=>71|25=>79|3=>3|4=>4|9=>9|20=>20|0=>0|n=>n,λ|n=>n⟩
theorem Tryz.grow153:Go.Proofs.Lays8.n4 Ar Tryz.grow153_ren:={
 mixed:=by kernel_rfl
 f4:=⟨Tryz.f153.name,by decide,Tryz.func153.trans (congrArg Am (by kernel_rfl))⟩
 t0:=Tryz.underlying0
 a0:=Tryz.isAgg0
 z0:=Tryz.sizeOf0
 v0:=Tryz.zeroValue0
 t3:=Tryz.underlying3
 a3:=Tryz.isAgg3
 z3:=Tryz.sizeOf3
 v3:=Tryz.zeroValue3
 t4:=Tryz.underlying4
 a4:=Tryz.isAgg4
 z4:=Tryz.sizeOf4
 v4:=Tryz.zeroValue4
 t9:=Tryz.underlying9
 a9:=Tryz.isAgg9
 z9:=Tryz.sizeOf9
 v9:=Tryz.zeroValue9
 t20:=Tryz.underlying20
 a20:=Tryz.isAgg20
 z20:=Tryz.sizeOf20
 v20:=Tryz.zeroValue20
 t22:=Tryz.underlying71
 a22:=Tryz.isAgg71
 z22:=Tryz.sizeOf71
 v22:=Tryz.zeroValue71}
end
section
open Go.RowKit
set_option maxRecDepth 4096
abbrev fsB(l:List D):Bk:=⟨l,90,3,Ab,Ac, .plain⟩
theorem grow_c(n:Nat)(hn:0<n)(hb:n<=1000000):Pure Ar 140 [nl,iD (n:Nat)] [fsB []] (.osl 0 0 0 0 Ab):=by
 obtain⟨i0,hi0⟩:∃i0,Ar.info? 90=Am i0/\i0.size=3/\i0.bytes=72/\i0.zero=Am (.agg #[.slice AE 0 0, .slice AE 0 0, .slice AE 0 0]):=⟨(Ar.info? 90).getD Ak,by kernel_rfl,by kernel_rfl,by kernel_rfl,by kernel_rfl⟩;obtain⟨h1,h2,h3,h4⟩:=hi0;intro I w vs hr hi hg;rw[zFl [.slice AE 0 0, .int .i64 n] vs hr];have hc:=Any8.slices_Grow_grow Tryz.grow140 i0 _ h1 h4 (by omega) AE 0 0 n [] w (A7 _) (by omega) (by rw[h3];omega) (by omega) (by simp) (λ_=>rfl) (λa h=>by cases h);have hge:=grownCap_ge w (0+n) 0 (Tryz.grow140_ren.t 25);have hmx:=grownCap_le_maxLen w (0+n) 0 (Tryz.grow140_ren.t 25) (by unfold maxLen;omega);generalize grownCap w (0+n) 0 (Tryz.grow140_ren.t 25)=G at*;refine hc.mono ?_;rintro e w' ⟨rfl,rfl⟩;have key:∀{k b c:Nat},(if k=0 then Am (w.heap.size,G)else AE)=Am (b,c)->k=0/\b=w.heap.size/\c=G:=λ{k b c} h=>by
  grind
 have hext:∀o,Ext w (w.drew.alloc o):=λo=>(Ext.drew w).trans (Ext.alloc _ o);refine⟨_,I,λk=>if k=0 then Am (w.heap.size,G)else AE,rfl,hext _,λb o hb=>Nat.lt_of_lt_of_le (hi b o hb) (hext _).size,Fix.ext (hext _) λ_ _ h=>h,λ_ _ h=> .inl h,λk b c h=>?_,λk b c h=>?_,λk k' b c c' h h'=>?_,λk b c j e h he hij=>?_,λk y h=>?_,?_,by simp⟩
 ·grind
 ·obtain⟨rfl,rfl,rfl⟩:=key h;refine⟨fsB [],rfl,OwnC.r ⟨(#[]++Builtin.zeroCells (Value.agg #[BN AE 0 0,BN AE 0 0,BN AE 0 0]).cells (0+n-0)++Builtin.zeroCells (Value.agg #[BN AE 0 0,BN AE 0 0,BN AE 0 0]).cells (c-(0+n))).toList,?_,BJ _,?_,λ_=>?_,hmx⟩ rfl⟩
  ·rw[CW];exact heap_alloc_new w.drew _
  ·rfl
  rw[Array.length_toList,Array.size_append,Array.size_append,size_zeroCells,size_zeroCells,show(Value.agg #[BN AE 0 0,BN AE 0 0,BN AE 0 0]).cells.size=3 from rfl];grind
 ·grind
 ·have:=hi b j hij
  have:=(key h).2.1
  omega
 ·grind
 simp only[Rel];grind
theorem grow0_c:Pure Ar 140 [nl,iD ((0:Nat):Int)] [] nl:=
 zC6 (us:=[.slice AE 0 0, .int .i64 ((0:Nat):Int)]) (λw=>(Any8.slices_Grow_room Tryz.grow140 AE 0 0 0 w (by omega) (by omega) (by omega) (by omega)).mono λe w' h=>⟨h.1,h.2.symm⟩)
end
section
open Go.Proofs
structure Cm{α:Type}(c:α->α->Int):Prop where
 eq:∀a b,c a b=0↔a=b
 neg:∀a b,c b a=0-c a b
 tr:∀a b d,c a b<0->c b d<0->c a d<0
def icmp(a b:Int):Int:=if a<b then-1 else if b<a then 1 else 0
theorem zHu:Cm icmp:=by
 refine⟨λa b=>?_,λa b=>?_,λa b d=>?_⟩<;>unfold icmp<;>(repeat' split)<;>omega
def lcmp:List Int->List Int->Int
 |[],[]=>0
 |[],_::_=>-1
 |_::_,[]=>1
 |x::a,y::b=>if x<y then-1 else if y<x then 1 else lcmp a b
theorem zTk:∀a b,lcmp a b=0↔a=b
 |[],[]=>by simp[lcmp]
 |[],_::_=>by simp[lcmp]
 |_::_,[]=>by simp[lcmp]
 |x::a,y::b=>by
  have:=zTk a b
  simp only[lcmp,Cr.injEq];grind
theorem zKz:∀a b,lcmp b a=0-lcmp a b
 |[],[]=>by simp[lcmp]
 |[],_::_=>by simp[lcmp]
 |_::_,[]=>by simp[lcmp]
 |x::a,y::b=>by
  have:=zKz a b
  simp only[lcmp];(repeat' split)<;>omega
theorem zY8:∀a b d,lcmp a b<0->lcmp b d<0->lcmp a d<0
 |[],[],d,h,k=>by simp[lcmp]at h
 |_::_,[],d,h,k=>by simp[lcmp]at h
 |_,_::_,[],h,k=>by simp[lcmp]at k
 |[],y::b,z::d,h,k=>by simp[lcmp]
 |x::a,y::b,z::d,h,k=>by
  have ih:=zY8 a b d;simp only[lcmp]at h k⊢;omega
theorem lcmp_cm:Cm lcmp:=⟨zTk,zKz,zY8⟩
section
variable{α:Type}{c:α->α->Int}
def AscW(c:α->α->Int)(l:List α):Prop:=l.Pairwise λa b=>c a b<0
def putG(c:α->α->Int)(x:α):List α->Bool->List α
 |[],done=>if done then[]else[x]
 |y::l,done=>(if !done&&decide (0<=c y x)then[x]else[])++(if c y x≠0 then[y]else[])++putG c x l (done||decide (0<=c y x))
def setG(c:α->α->Int)(l:List α):List α:=l.foldl (λo x=>putG c x o Ac) []
theorem zKm(hc:Cm c)(x z:α):∀(l:List α)(done:Bool),z∈putG c x l done↔(done=Ac/\z=x)\/(z∈l/\z≠x)
 |[],done=>by cases done<;>simp[putG]
 |y::l,done=>by
  simp only[putG,CE,zKm hc x z l,Bf];have e:=hc.eq y x;grind
theorem zWf(hc:Cm c)(x:α):∀(l:List α),AscW c l->AscW c (putG c x l Ab)
 |[],h=>by simp[putG,AscW]
 |y::l,h=>by
  unfold AscW at h;rw[Bp]at h;have ih:=zWf hc x l h.2;simp only[putG,Bool.not_true,Bool.false_and,BT,if_false,B6,Bool.true_or];grind [AscW,CA,Bp,zKm]
theorem putG_asc(hc:Cm c)(x:α):∀(l:List α),AscW c l->AscW c (putG c x l Ac)
 |[],h=>by simp[putG,AscW]
 | y::l,h=>by
  unfold AscW at h;rw[Bp]at h;by_cases h0:0<=c y x
  ·have hd:=zWf hc x l h.2;simp only[putG,h0,decide_true,Bool.not_false,Bool.and_self,if_true,Bool.or_true];have hxl:∀z∈l,c x z<0:=by
    intro z hz
    have:=h.1 z hz
    by_cases he:c y x=0
    ·rw[(hc.eq y x).1 he]at this;exact this
    exact hc.tr x y z (by have:=hc.neg y x;omega) this
   have hx2:∀z∈putG c x l Ab,z∈l:=by
    grind [zKm]
   unfold AscW;split
   ·rename_i hne;simp only[B5,B6,Bp,Bf];refine⟨λz hz=>?_,λz hz=>h.1 z (hx2 z hz),hd⟩;rcases hz with rfl|hz
    ·have:=hc.neg z x;omega
    exact hxl z (hx2 z hz)
   simp only[B5,B6,Bp];exact⟨λz hz=>hxl z (hx2 z hz),hd⟩
  have ih:=putG_asc hc x l h.2;have hne:c y x≠0:=by omega
  simp only[putG,h0,decide_false,Bool.and_false,BT,if_false,B6,hne,ne_eq,not_false_eq_true,if_true,A1];grind [AscW,CA,Bp,zKm]
theorem zLo(hc:Cm c)(z:α):∀(l o:List α),AscW c o->AscW c (l.foldl (λo x=>putG c x o Ac) o)/\(z∈l.foldl (λo x=>putG c x o Ac) o↔z∈l\/z∈o)
 |[],o,h=>by simp[h]
 |x::l,o,h=>by
  have:=zLo hc z l (putG c x o Ac) (putG_asc hc x o h)
  grind [zKm]
theorem zH7(hc:Cm c)(l:List α):AscW c (setG c l):=by
 cases l with
 |nil=>exact BE.nil
 |cons x l=>exact(zLo hc x (x::l) [] BE.nil).1
theorem zEh(hc:Cm c)(l:List α)(z:α):z∈setG c l↔z∈l:=by
 have:=(zLo hc z l [] BE.nil).2
 simpa[setG]using this
theorem zLc(hc:Cm c):∀{l m:List α},AscW c l->AscW c m->(∀z,z∈l↔z∈m)->l=m
 |[],[],_,_,_=>rfl
 |[],y::m,_,_,h=>by have:=(h y).2 (By ..);cases this
 |x::l,[],_,_,h=>by have:=(h x).1 (By ..);cases this
 | x::l,y::m,hl,hm,h=>by
  unfold AscW at hl hm;rw[Bp]at hl hm;have irr:∀a,¬c a a<0:=λa=>by have:=(hc.eq a a).2 rfl;omega
  have e:x=y:=by
   have h1:=(h x).1 (By ..);have h2:=(h y).2 (By ..);rcases Bf.1 h1 with h1|h1
   ·exact h1
   rcases Bf.1 h2 with h2|h2
   ·exact h2.symm
   exact absurd (hc.tr _ _ _ (hl.1 y h2) (hm.1 x h1)) (irr x)
  subst e;congr 1;refine zLc hc hl.2 hm.2 λz=>?_;grind
theorem zGn(hc:Cm c){l:List α}(h:AscW c l):setG c l=l:=by grind [zLc,zH7,zEh]
theorem zH6(hc:Cm c){l m:List α}(h:∀z,z∈l↔z∈m):setG c l=setG c m:=by grind [zLc,zH7,zEh]
def dedG[DecidableEq α](p:α):List α->List α
 |[]=>[]
 |x::l=>if x=p then dedG p l else x::dedG x l
def ddG[DecidableEq α]:List α->List α
 |[]=>[]
 |x::l=>x::dedG x l
theorem zXo[DecidableEq α](hc:Cm c):∀(l:List α)(p:α),(p::l).Pairwise (λa b=>¬c b a<0)->AscW c (p::dedG p l)/\∀z,z∈p::dedG p l↔z∈p::l
 |[],p,h=>by simp[dedG,AscW]
 | x::l,p,h=>by
  rw[Bp]at h;have hpx:=h.1 x (By ..);have ih:=zXo hc l x h.2;unfold dedG;split
  ·grind
  rename_i hne;have hlt:c p x<0:=by
   have h1:=hc.neg p x;have h2:c p x≠0:=λh=>hne ((hc.eq p x).1 h).symm;omega
  refine⟨?_,λz=>by rw[Bf,ih.2,Bf (a:=z) (b:=p)]⟩;unfold AscW;rw[Bp];refine⟨λz hz=>?_,ih.1⟩;rcases Bf.1 hz with rfl|hz
  ·exact hlt
  have:=ih.1
  unfold AscW at this;rw[Bp]at this;exact hc.tr _ _ _ hlt (this.1 z hz)
theorem ddG_sorted[DecidableEq α](hc:Cm c){l:List α}(h:l.Pairwise (λa b=>¬c b a<0)):ddG l=setG c l:=by
 cases l with
 |nil=>rfl
 |cons x l=>
  have:=zXo hc l x h
  exact zLc hc this.1 (zH7 hc _) λz=>by rw[zEh hc];exact this.2 z
end
theorem zXv(x:Int)(l:List Int):BU (x::l)=x::dedG x l:=by
 have key:∀(l:List Int)(x:Int),BU (x::l)=x::dedG x l:=by
  intro l;induction l with
  |nil=>intro x;simp[BU,Lib.compactUpTo,dedG,Bv,BG]
  | cons y l ih=>
   intro x;have h1:BU (x::y::l)=x::(if y=x then(BU (y::l)).tail else BU (y::l)):=by
    simp only[BU,Lib.compactUpTo,BC];rw[List.range_succ_eq_map,CZ];have hk0:BG (x::y::l).toArray 0=true:=by simp[BG]
    rw[if_pos hk0,A6,CX,BM];congr 1;have hfun:((λx_1=>(x::y::l).toArray[x_1]!)∘Cx)=λi=>(y::l).toArray[i]!:=by funext i;simp
    rw[hfun];rw[List.range_succ_eq_map];simp only[CZ,CX,A6,BM];have hk1:(BG (x::y::l).toArray∘Cx) 0=decide (y≠x):=by
     simp[BG]
    have hk2:BG (y::l).toArray 0=true:=by simp[BG]
    have hk3:((BG (x::y::l).toArray∘Cx)∘Cx)=(BG (y::l).toArray∘Cx):=by
     funext i;simp[BG]
    grind
   rw[h1,ih y];simp only[dedG,List.tail_cons];grind
 exact key l x
theorem compact_dd(l:List Int):BU l=ddG l:=by
 cases l with
 |nil=>rfl
 |cons x l=>exact zXv x l
def wset(w:List (List Int)):List (List Int):=setG lcmp (w.map (setG icmp))
theorem wset_asc(w:List (List Int)):AscW lcmp (wset w):=zH7 lcmp_cm _
theorem zVh(w:List (List Int)):∀s∈wset w,setG icmp s=s:=by grind [wset,zEh,lcmp_cm,zGn,zHu,zH7]
theorem map_sets(w:List (List Int)):(wset w).map (setG icmp)=wset w:=by
 rw[BP (zVh w),List.map_id']
theorem wset_idem(a:List (List Int)):wset (wset a)=wset a:=by
 grind [wset,map_sets,zGn,lcmp_cm,wset_asc]
def zLq(a b:List (List Int)):List (List Int):=a.flatMap λx=>b.map λy=>x++y
end
section
open Go.RowKit
attribute [local irreducible] seqW awp zY zZ zR Weak updS zAe retL Pure Acts rP setP setQ cP nP fr
set_option maxRecDepth 4096
set_option maxHeartbeats 2000000 in
theorem concat_c(a b:List D)(n m:Nat)(ha:a.length=n*3)(hb:b.length=m*3)(hn:n<=1000)(hm:m<=1000)(n1:∀d∈a,True):Pure Ar 90 [.row [.row a n, .row b m] 2] [] (.row (a++b) (n+m)):=by
 have zadd:(n:Int)+(m:Int)=((n+m:Nat):Int):=by omega
 have ht:(a++b).take ((n+m)*3)=a++b:=AU (by rw[AR];omega);rcases CR (n+m)with h|h
 ·obtain rfl:n=0:=by omega
  obtain rfl:m=0:=by omega
  obtain rfl:a=[]:=C0 (by omega);obtain rfl:b=[]:=C0 (by omega);refine zJ zDw mixed Tryz.func90 rfl<|vAu<|vAe<|zA<|vAe<|zF<|zAa<|vAe<|zA<|vt<|vKB<|vA<|ve (ix (0:Int) (↑(2:Nat):Int) ([Ae [] 0,Ae [] 0]≠[])/\0<2)<|vA<|ve (i6 ((0:Int)+(↑(0:Nat):Int)))<|vAe<|vf<|zL<|zD<|vN<|zB rfl<|vr 2 (i6 ((0:Int)+(1:Int)))<|vnil<|zC<|zAa ?_;refine vAe<|zA<|vt<|vKB<|vA<|ve (ix (1:Int) (↑(2:Nat):Int) ([Ae [] 0,Ae [] 0]≠[])/\0<1)<|vA<|ve (i6 ((0:Int)+(↑(0:Nat):Int)+(↑(0:Nat):Int)))<|vAe<|vf<|zL<|zD<|vN<|zB rfl<|vr 2 (i6 ((1:Int)+(1:Int)))<|vnil<|zC<|zAa<|vAe<|zA<|vf<|vZ2<|vA<|vrT 1<|vc grow0_c<|veT<|zA<|vAe<|zF<|zAa<|vAe<|zA<|vt<|vKB<|vA<|ve (ix (0:Int) (↑(2:Nat):Int) ([Ae [] 0,Ae [] 0]≠[])/\0<2)<|zB rfl<|vr 4 (0=0/\0<3/\0<72/\90=90/\0<=140737488355328/\3=3)<|vnil<|zD<|vN<|zB rfl<|vr 2 (i6 ((0:Int)+(1:Int)))<|vnil<|zC<|zAa<|vAe<|zA<|vt<|vKB<|vA<|ve (ix (1:Int) (↑(2:Nat):Int) ([Ae [] 0,Ae [] 0]≠[])/\0<1)<|zB rfl<|vr 4 (Ab=Ab/\0=0/\0=0/\90=90/\3=3/\0=0/\0<3/\0<72/\90=90/\0<=140737488355328/\3=3/\Ac=Ac/\(Ac=Ac\/Ac=Ab))<|vnil<|zD<|vN<|zB rfl<|vr 2 (i6 ((1:Int)+(1:Int)))<|vnil<|zC<|zAa<|vAe<|zA<|vf<|vZ2<|vAe<|zG<|vret (True)<|.inr rfl
 have hg:=grow_c (n+m) h (by omega);refine zJ zDw mixed Tryz.func90 rfl<|vAu<|vAe<|zA<|vAe<|zF<|zAa<|vAe<|zA<|vt<|vKB<|vA<|ve (ix (0:Int) (↑(2:Nat):Int) ([Ae a n,Ae b m]≠[])/\0<2)<|vA<|vr 4 (i6 ((0:Int)+(n:Int)))<|vs 18 (iD ((0:Int)+(n:Int))) (iD (n:Int)) (hd:=by simp(disch:=omega) only[Int.zero_add])<|veT<|vAe<|vF ((n:Int)<0)<|zL<|zD<|vN<|zB rfl<|vr 2 (i6 ((0:Int)+(1:Int)))<|vnil<|zC<|zAa<|vAe<|zA<|vt<|vKB<|vA<|ve (ix (1:Int) (↑(2:Nat):Int) ([Ae a n,Ae b m]≠[])/\0<1)<|vA<|ve (i6 ((n:Int)+(m:Int)))<|vAe<|vF ((↑(n+m):Int)<0)<|zL<|zD<|vN<|zB rfl<|vr 2 (i6 ((1:Int)+(1:Int)))<|vnil<|zC<|zAa<|vAe<|zA<|vf<|vZ2<|vA<|vrT 1<|vn (hg)<|veT<|zA<|vAe<|zF<|zAa<|vAe<|zA<|vt<|vKB<|vA<|ve (ix (0:Int) (↑(2:Nat):Int) ([Ae a n,Ae b m]≠[])/\0<2)<|zB rfl<|vr 4 (Ab=Ab/\0=0/\0=0/\90=90/\3=3/\Aa a=n*3/\0<3/\0<72/\90=90/\(0+n)*72<=140737488355328/\3=3/\Ac=Ac/\(Ac=Ac\/Ac=Ab))<|vs 6 (Af 0 0 (0+n) ((0+n)*3) Ab) (Af 0 0 n (n*3) Ab)<|vnil<|zD<|vN<|zB rfl<|vr 2 (i6 ((0:Int)+(1:Int)))<|vnil<|zC<|zAa<|vAe<|zA<|vt<|vKB<|vA<|ve (ix (1:Int) (↑(2:Nat):Int) ([Ae a n,Ae b m]≠[])/\0<1)<|zB rfl<|vr 4 (Bc (Ao a 90 3 Ab Ac Ap)=Ab/\Aa a=n*3/\n*3=n*3/\A3 (Ao a 90 3 Ab Ac Ap)=90/\A4 (Ao a 90 3 Ab Ac Ap)=3/\Aa b=m*3/\0<3/\0<72/\90=90/\(n+m)*72<=140737488355328/\3=3/\AV (AL<|Ao a 90 3 Ab Ac Ap)=Ac/\(Ac=Ac\/AW (AL<|Ao a 90 3 Ab Ac Ap)=Ab))<|vnil<|zD<|vN<|zB rfl<|vr 2 (i6 ((1:Int)+(1:Int)))<|vnil<|zC<|zAa<|vAe<|zA<|vf<|vZ2<|vAe<|zG<|zBt (True) (Ae (Au ((n+m)*3)<|Ah 0 (a++b)) (n+m)) (Ae (a++b) (n+m)) (.inr rfl) (by simp(disch:=omega) only[A2,ht]) rfl
theorem info_fas:(Ar.info? 90).map (λi=>(i.zero,i.size,i.bytes))=Am (Am (.agg #[.slice AE 0 0, .slice AE 0 0, .slice AE 0 0]),3,72):=by kernel_rfl
set_option maxHeartbeats 400000 in
theorem clone0_fas:Pure Ar 46 [.row [] 0] [⟨[],90,3,Ab,Ac, .plain⟩] (.osl 0 0 0 0 Ab):=by
 refine zEz λI w vs hr=>?_;simp only[RelT,Rel]at hr;obtain⟨v,ys,rfl,⟨a,c,rfl,_,_,hc,_⟩,rfl⟩:=hr;cases a with
 |none=>
  obtain rfl:=hc rfl;have he:=λ(w:World)=>Lib.run_eql_slice_nil (P:=Ar) w 61 90 AE 0 0 0 0 Tryz.underlying61;go_enter Tryz.func46,Tryz.ntmps46;go_wp2;go_ret;exact .inl ⟨rfl,Ext.refl _⟩
 |some x=>
  obtain⟨i0,hi,hz0,hz1,hz2⟩:=info_parts info_fas;have he:=λ(w:World)=>Lib.run_eql_slice_nil (P:=Ar) w 61 90 (Am x) 0 c 0 0 Tryz.underlying61;have hS:RowAt (λ_=>True) w (Am x) []:= .inl rfl;go_enter Tryz.func46,Tryz.ntmps46;go_wp2_with (at_builtin;refine zBx rfl _ _ 61 rfl w.heap.size 90 i0 (.agg #[.slice AE 0 0, .slice AE 0 0, .slice AE 0 0]) 3 72 Tryz.underlying61 hi hz0 hz1 hz2 rfl (by decide) (.slice (Am ⟨w.heap.size,0,AE⟩) 0 0) 0 [] rfl (World.ownsRow_made _ #[] 0 (A7 _) (BJ _) rfl) x 0 c [] rfl (by simp) (by simp) (by simp) (by simp[maxLen]) (by decide) (by simp) ?_;intro v' w' hown hgrow hdr);go_ret;have hext:Ext w w':=⟨((Below.refl _ _).alloc (A7 _) _).grown hgrow (by simp) (by simp[Value.ownBlock]),hdr⟩;obtain⟨_,⟨rfl,_⟩|⟨g,cap,cur,rfl,hb,hg,_,hc1,hs,_⟩⟩:=hown
  ·simp_all
  exact .inr ⟨g,cur.toList,cap,rfl,hb,hext,by rw[CW];exact hg,by simpa using hs,hc1⟩
theorem cloneF_c(a:List D)(n:Nat)(ha:a.length=n*3)(hn:n<=1000):Pure Ar 46 [.row a n] [] (.row a n):=by
 by_cases h0:n=0
 ·subst h0;obtain rfl:a=[]:=C0 (by omega);exact clone0_fas.frozen rfl rfl
 have h1:0<n:=by omega
 have ht:a.take (n*3)=a:=AU (by omega);refine zJ zDw mixed Tryz.func46 rfl<|vAu<|zA<|vA<|ve (0<n)<|vf<|vK<|vA<|vr 4 ((True/\0<3/\3=3/\0<=16777216/\0<=9223372036854775807)/\Ab=Ab/\0=0/\0=0/\90=90/\3=3/\Aa a=n*3/\0<3/\0<72/\90=90/\(0+n)*72<=140737488355328/\3=3/\Ac=Ac/\(Ac=Ac\/Ac=Ab))<|vs 2 (Af 0 0 (0+n) ((0+n)*3) Ab) (Af 0 0 n (n*3) Ab)<|veT<|zG<|zBt (True) (Ae (Au (n*3)<|Ah 0 a) n) (Ae a n) (.inr rfl) (by simp(disch:=omega) only[A2,ht]) rfl
end
end Go.Proofs.YtmfamhoopjeaiaaGreatDoor
