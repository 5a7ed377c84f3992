/- Texts of this claim, joined. -/
import Derived.Test.YtmfamhoopjeaiaaGreatDoorQ03
import Derived.Lib.RowBridge
import Derived.BigCall
import Derived.Lib.ItoaLen
import Derived.Lib.Walk
import Derived.WalkKit
import Derived.Lib.Strings
import Derived.Lib.ItoaWalk
import Derived.Lib.LaidTab
import Derived.Lib.Hide
import Derived.Test.YtmfamhoopjeaiaaGreatDoorProg
set_option linter.unusedVariables false
set_option linter.unusedSimpArgs false
namespace Go.Proofs.YtmfamhoopjeaiaaGreatDoor
open _root_.List renaming length->Aa,map->Ad,drop->Ag,getD->Ap,range->Ar,take->Av,getD_eq_getElem?_getD->AB,flatMap->AE,replicate->AH,getElem?_eq_getElem->AI,length_map->AK,headD->AR,take_of_length_le->AT,length_append->AU,map_cons->AZ,mem_map->A6,getElem_mem->A7,drop_zero->A8,mem_cons->Bb,append_assoc->Bf,ext_getElem?->Bn,all_eq_true->Bo,getElem?_map->Bq,mem_filter->Br,mem_cons_of_mem->Bv,length_filter_le->Bw,getElem?_eq_some_iff->Bx,getElem?_append_left->By,append_nil->BA,sum_cons->BC,range_succ->BD,map_nil->BE,cons_append->BF,mem_range->BG,length_cons->BH,getElem?_take->BI,getElem?_eq_none->BL,getElem?_set_ne->BM,toArray->BO,take_succ_eq_append_getElem->BP,foldl_cons->BQ,mem_cons_self->BR,nil_append->BS,ext_getElem->BU,cons->BW,getElem?_append_right->BX,map_congr_left->BZ,mem_singleton->B5,Pairwise->B7,all->B_,map_map->Ca,getElem?_set->Cd,mem_of_getElem?->Ce,take_length->Cg,length_nil->Ci,foldl_nil->Ck,idxOf_lt_length_iff->Cl,length_set->Cp,range'->Cq,foldl_append->Cr,replicate_succ->Cs,filter_append->Ct,mem_append->Cu,getElem_of_mem->Cv,filter_congr->CA,map_append->CB,map_set->CC,not_mem_nil->CD,length_drop->CG,any_eq_true->CH,getElem?_range->CL,take_zero->CM,length_eq_zero_iff->CN,mem_iff_getElem->CO,getElem_inj->CT,idxOf_cons->CU,length_take->CW,filter_cons->CX,getElem?_set_self->CY,take_succ_cons->CZ,flatMap_cons->C0,findIdx?_eq_none_iff->C1,findIdx?_eq_some_iff_getElem->C2,take_append_of_le_length->C3
open _root_.Bool renaming true->Ab,false->Ac,or_false->A3,and_eq_true->Bp,false_eq_true->B8,eq_iff_iff->B9,or_eq_true->Cj,or_eq_false_iff->Cn,false_or->Co,not_eq_true'->Cz,not_eq_false'->CV
open D renaming own->Ae,osl->Af,row->Ai,val->Aj,agg->Ay,clo->AP,ptr->Bc
open Lib renaming itoa->Ah,decDigits->AG,nDigits->AL,bitLen->BJ,compareBytes->Cc,itoa_length_le->Ch,byteCells->Cx,decDigits_length->CP,nDigits_le20->CS
open Value renaming int->Ak,string->AN,bool->BV
open _root_.Inhabited renaming default->Al
open _root_.Option renaming some->Am,none->AM,map_some->BK,getD_some->B3,some->Cf
open _root_.Prod renaming fst->An,snd->AD
open Bk renaming mk->Ao,cells->AJ,kd->AO,ty->A9,sz->A_,arr->Bi
open Kd renaming plain->Aq,isMap->AW,isSh->AX,sh->BB
open _root_.Go.Proofs.Tryz renaming prog->As
open IntKind renaming u8->Au,u32->AS,wrap->A4,u64->A5,i64->Bs
open Va renaming kind->Aw,str->AA,int->AC
open _root_.Int renaming toNat->Ax,fdiv->A1,toNat_natCast->A2,natAbs->Cy
open _root_.BitVec renaming ofInt->Az,toNat->A0
open _root_.Nat renaming lt_or_ge->AF,mul_one->AQ,le_trans->AV,le_refl->Ba,le->Bh,zero_add->BN,zero_le->BY,mul_le_mul_right->B6,mul_assoc->Cm,succ_mul->CE,testBit->CF,mul_add->CI,add_mul->CJ,testBit_two_pow_sub_one->C4
open _root_.ByteArray renaming mk->AY,data->Bu,toList->CK
open Lay renaming n->Bd
open LeL renaming refl->Bg
open TypeInfo renaming desc->Bj,mk->Bl
open TypeDesc renaming string->Bm
open _root_.Array renaming toList->Bt,replicate->CQ,size_replicate->CR
open Js renaming its->BT
open Weak renaming nilC->Cb
section
open Go.RowKit
structure Mk where
 p:Nat
 n:Nat
 cb:Nat
 A:List (List Nat×List Rw)
 base:Nat->Bk
abbrev atN(a:List Nat×List Rw):List D:=[.row (a.1.map λv=>iD (v:Nat)) a.1.length,iD (a.1.length:Nat), .row (a.2.map rowV) a.2.length]
abbrev Mk.vs(m:Mk)(a:Nat):List Nat:=(m.A.getD a Al).1
abbrev Mk.tr(m:Mk)(a:Nat):Tri:=zCo (m.vs a).length (m.A.getD a Al).2
abbrev it0(t:Tri):It:=⟨t,0,0,0,fr0,0⟩
abbrev ptB(m:Mk)(al:List Nat):Bk:=⟨al.map λi=> .own ((m.p+4+m.n+5*i+4)) 0,188,1,Ab,Ac, .sh⟩
abbrev ltP(m:Mk)(ix:Nat->List Nat)(v:Nat):D:= .osl (m.p+4+v) 0 (ix v).length (ix v).length Ab
abbrev ltB(m:Mk)(ix:Nat->List Nat):Bk:=⟨(Ar m.n).map (ltP m ix),182,1,Ab,Ac, .sh⟩
abbrev joB(m:Mk):Bk:=⟨[.osl m.p 0 m.n (m.n*3) Ab, .osl (m.p+1) 0 m.n m.n Ab,iD (0:Nat), .clo (.func 41) [] [.own m.cb 0]],181,0,Ac,Ac, .plain⟩
abbrev acB(a:List Nat×List Rw):Bk:=⟨atN a,75,0,Ac,Ac, .plain⟩
abbrev coB(k:Nat):Bk:=⟨rgD k,3,1,Ab,Ab, .plain⟩
abbrev teB(t:Tri):Bk:=⟨[triC t],185,0,Ac,Ac, .plain⟩
def qatm(m:Mk)(q:Nat):Bk:=if q%5=0 then acB (m.A.getD (q/5) Al)else if q%5=1 then coB (m.vs (q/5)).length else if q%5=4 then itK (it0 (m.tr (q/5)))else teB (m.tr (q/5))
def qblk(m:Mk)(ix:Nat->List Nat)(al:List Nat)(k:Nat):Bk:=if k<m.p then m.base k else if k=m.p then roB (AH m.n ⟨0,0,[]⟩)else if k=m.p+1 then ltB m ix else if k=m.p+2 then joB m else if k=m.p+3 then ptB m al else if k<(m.p+4+m.n)then ptB m (ix (k-(m.p+4)))else qatm m (k-(m.p+4+m.n))
def qlay(m:Mk)(ix:Nat->List Nat)(al:List Nat)(c:Nat):List Bk:=(Ar ((m.p+4+m.n)+5*c)).map (qblk m ix al)
section
variable {m : Mk} {ix : Nat → List Nat} {al : List Nat} {c : Nat}
theorem zLy:(qlay m ix al c).length=(m.p+4+m.n)+5*c:=by simp[qlay]
theorem zHb{k:Nat}(h:k<(m.p+4+m.n)+5*c):(qlay m ix al c)[k]?=Am (qblk m ix al k):=by simp[qlay,h]
theorem ql_t:(qlay m ix al c)[m.p+1]?=Am (ltB m ix):=by
 grind [zHb,qblk]
theorem ql_j:(qlay m ix al c)[m.p+2]?=Am (joB m):=by
 grind [zHb,qblk]
theorem ql_al:(qlay m ix al c)[m.p+3]?=Am (ptB m al):=by
 grind [zHb,qblk]
theorem ql_v{v:Nat}(h:v<m.n):(qlay m ix al c)[m.p+4+v]?=Am (ptB m (ix v)):=by
 grind [zHb,qblk]
theorem ql_atm{j:Nat}(h:j<5*c):(qlay m ix al c)[(m.p+4+m.n)+j]?=Am (qatm m j):=by
 grind [zHb,qblk]
theorem zZ2{j:Nat}:qblk m ix al ((m.p+4+m.n)+j)=qatm m j:=by
 grind [qblk]
theorem ql_snoc:qlay m ix al c++[acB (m.A.getD c Al)]++[coB (m.vs c).length]++[teB (m.tr c)]++[teB (m.tr c),itK (it0 (m.tr c))]=qlay m ix al (c+1):=by
 have e:Ar ((m.p+4+m.n)+5*(c+1))=Ar ((m.p+4+m.n)+5*c)++[(m.p+4+m.n)+5*c,(m.p+4+m.n)+(5*c+1),(m.p+4+m.n)+(5*c+2),(m.p+4+m.n)+(5*c+3),(m.p+4+m.n)+(5*c+4)]:=by
  rw[show(m.p+4+m.n)+5*(c+1)=(m.p+4+m.n)+5*c+1+1+1+1+1 by omega];rw[BD,BD,BD,BD,BD];simp[Nat.add_assoc]
 unfold qlay;rw[e,CB];simp only[Bf,AZ,BE,zZ2,BF,BS];congr 1;have h0:qatm m (5*c)=acB (m.A.getD c Al):=by unfold qatm;rw[if_pos (by omega),show 5*c/5=c by omega]
 have h1:qatm m (5*c+1)=coB (m.vs c).length:=by unfold qatm;rw[if_neg (by omega),if_pos (by omega),show(5*c+1)/5=c by omega]
 have h2:qatm m (5*c+2)=teB (m.tr c):=by unfold qatm;rw[if_neg (by omega),if_neg (by omega),if_neg (by omega),show(5*c+2)/5=c by omega]
 have h3:qatm m (5*c+3)=teB (m.tr c):=by unfold qatm;rw[if_neg (by omega),if_neg (by omega),if_neg (by omega),show(5*c+3)/5=c by omega]
 have h4:qatm m (5*c+4)=itK (it0 (m.tr c)):=by unfold qatm;rw[if_neg (by omega),if_neg (by omega),if_pos (by omega),show(5*c+4)/5=c by omega]
 rw[h0,h1,h2,h3,h4]
theorem zQ7{k:Nat}{cs:List D}(h:zAr k cs=Ac):cs.map (zAo k)=cs:=by
 induction cs with
 |nil=>rfl
 |cons d cs ih=>
  simp_all [only,zAr,Cn,AZ,zAo]
theorem zDk{k:Nat}{b:Bk}(h:zAr k b.cells=Ac):zAs k b=b:=by
 simp_all [zAs,zQ7]
theorem zMk(m:Mk)(k:Nat)(hk:k<(m.p+4+m.n)):∀al:List Nat,zAr k (al.map λi=>Ae ((m.p+4+m.n+5*i+4)) 0)=Ac
 |[]=>by simp only[BE,zAr]
 |i::al=>by
  simp only[AZ,zAr,refs,zMk m k hk al,A3,beq_eq_false_iff_ne];omega
structure MOk(m:Mk):Prop where
 bs:∀k,k<m.p->namB m.p (m.base k)
 cb:m.cb<m.p
theorem qb_kill(h:MOk m){k0 k:Nat}(h0:m.p+3<=k0)(h1:k0<(m.p+4+m.n))(hk:k≠m.p+1):zAs k0 (qblk m ix al k)=qblk m ix al k:=by
 have hcb:=h.cb;unfold qblk;simp only[if_neg hk];split
 ·rename_i hp;exact zVs (h.bs k hp) (by omega)
 split
 ·exact zHz rfl
 split
 ·refine zDk ?_;simp only[zAr,refs,A3,Co,Cn,beq_eq_false_iff_ne];omega
 split
 ·grind [zDk,zMk]
 split
 ·grind [zDk,zMk]
 unfold qatm;split
 ·simp_all [zDk,only,zAr,refs,A3]
 split
 ·exact zHz rfl
 split
 ·exact zDk (zVy (zBv _) k0)
 simp_all [zDk,only,zAr,refs,A3]
theorem lt_kill(k0:Nat)(h0:k0=m.p+3):zAs k0 (ltB m ix)=ltB m ix:=by
 subst h0;refine zDk ?_;show zAr (m.p+3) ((Ar m.n).map (ltP m ix))=Ac;have key:∀ls:List Nat,zAr (m.p+3) (ls.map (ltP m ix))=false:=by
  intro ls;induction ls with
  |nil=>simp only[BE,zAr]
  |cons v ls ih=>
   simp only[AZ,zAr,refs,ih,A3,beq_eq_false_iff_ne];omega
 exact key _
theorem ql_all(h:MOk m)(al':List Nat):((qlay m ix al c).map (zAs (m.p+3))).set (m.p+3) (ptB m al')=qlay m ix al' c:=by
 apply Bn;intro j;rw[Cd,AK,zLy];split
 ·grind [ql_al]
 rename_i e;rw[Bq];rcases AF j ((m.p+4+m.n)+5*c)with hj|hj
 ·rw[zHb hj,zHb hj,BK];congr 1;have e2:qblk m ix al' j=qblk m ix al j:=by
   grind [qblk]
  rw[e2];by_cases hj1:j=m.p+1
  ·subst hj1;have:qblk m ix al (m.p+1)=ltB m ix:=by unfold qblk;rw[if_neg (by omega),if_neg (by omega),if_pos rfl]
   rw[this];exact lt_kill _ rfl
  exact qb_kill h (Ba _) (by omega) hj1
 grind [BL,zLy]
theorem ql_mk(h:MOk m){v:Nat}(hv:v<m.n)(b:Bk):(((qlay m ix al c).map (zAs (m.p+4+v))).set (m.p+4+v) b)[m.p+1]?=Am ⟨((Ar m.n).map (ltP m ix)).map (zAo (m.p+4+v)),182,1,Ab,Ac, .sh⟩:=by
 rw[BM (by omega),Bq,ql_t];rfl
theorem ql_app(h:MOk m){v:Nat}(hv:v<m.n)(i:Nat):(((qlay m ix al c).map (zAs (m.p+4+v))).set (m.p+4+v) (ptB m (ix v++[i]))).set (m.p+1) ⟨(((Ar m.n).map (ltP m ix)).map (zAo (m.p+4+v))).set v (.osl (m.p+4+v) 0 ((ix v).length+1) ((ix v).length+1) Ab),182,1,Ab,Ac, .sh⟩=qlay m (λw=>if w=v then ix v++[i]else ix w) al c:=by
 apply Bn;intro j;rw[Cd,Cp,AK,zLy];split
 ·rename_i e;subst e;rw[if_pos (by omega),ql_t];congr 2;apply Bn;intro w;rw[Cd,AK,AK,List.length_range];split
  ·grind
  rename_i e;rw[Bq,Bq,Bq];rcases AF w m.n with hw|hw
  ·rw[CL hw];simp only[BK,ltP,if_neg (Ne.symm e)];unfold zAo;rw[show refs (m.p+4+v) (.osl (m.p+4+w) 0 (ix w).length (ix w).length Ab)=Ac by simp only[refs,beq_eq_false_iff_ne];omega];rfl
  grind
 rename_i e;rw[Cd,AK,zLy];split
 ·grind [ql_v,only]
 grind [AF,zHb,qb_kill,qblk,only,BL,zLy]
theorem ql_nam(h:MOk m)(hal:∀i∈al,i<c)(hix:∀v,∀i∈ix v,i<c):∀b∈qlay m ix al c,namB ((m.p+4+m.n)+5*c) b:=λb hb=>by
 obtain⟨k,hk,rfl⟩:=A6.1 hb;have hcb:=h.cb;have hptr:∀al:List Nat,(∀i∈al,i<c)->namB ((m.p+4+m.n)+5*c) (ptB m al):=λal h=> .inr λj hj=>by
  refine zDd _ λi hi=>?_;have key:∀al:List Nat,(∀i∈al,i<c)->∀i∈ownL (al.map λi=>Ae ((m.p+4+m.n+5*i+4)) 0),i<(m.p+4+m.n)+5*c:=by
   intro al;induction al with
   |nil=>intro _ i hi;simp[ownL]at hi
   |cons a al ih=>
    intro h i hi;have ha:=h a (by simp);simp only[AZ,ownL,ownN,List.singleton_append,Bb]at hi;rcases hi with rfl|hi
    ·omega
    exact ih (λi hi=>h i (by simp[hi])) i hi
  have:=key al h i hi
  omega
 unfold qblk;split
 ·rename_i hp;exact(h.bs k hp).imp id λh j hj=>h j (by omega)
 split
 ·exact .inl rfl
 split
 ·refine .inr λj hj=>?_;have key:∀ls:List Nat,(∀v∈ls,v<m.n)->zAr j (ls.map (ltP m ix))=false:=by
   intro ls;induction ls with
   |nil=>intro _;simp only[BE,zAr]
   |cons v ls ih=>
    intro h
    have:=h v (by simp)
    simp only[AZ,zAr,refs,ih λv hv=>h v (by simp[hv]),A3,beq_eq_false_iff_ne];omega
  exact key _ λv hv=>BG.1 hv
 split
 ·refine .inr λj hj=>?_;simp only[zAr,refs,A3,Co,Cn,beq_eq_false_iff_ne];omega
 split
 ·exact hptr al hal
 split
 ·exact hptr _ (hix _)
 unfold qatm;split
 ·exact .inr λj _=>by simp only[zAr,refs,A3]
 split
 ·exact .inl rfl
 split
 ·exact .inr λj _=>zVy (zBv _) j
 exact .inr λj _=>by simp only[zAr,refs,A3]
end
def callO(P:Program)(T:Par)(l:List Oper)(sl:List D):Option (FuncId×List D):=match l with
 |[]=>AM
 | o ::_=>match o.guard with
  |some _=>AM
  | none=>match o.op with
   | .call c=>match c.callee with
    | .value (.func f)=>match P.funcs[f]? with
     |none=>AM
     |some fn=>if fn.name== "runtime.NumGoroutine" ||fn.body.isNone then AM else if T.imp f then AM else Am (f,c.args.toList.map (evD sl))
    |_=>AM
   |_=>AM
theorem st_callo{P:Program}{T:Par}{ops:Array Oper}{dr:Bool}{l:List Oper}{sl:List D}{st:List Bk}{K:List D->List Bk->Prop}(f:FuncId)(args xs:List D)(ks:List Nat){x:D}(h:callO P T l sl=Am (f,args))(hf:mapF (frz Ab st zAy) args=Am (xs,ks))(hp:Pure P f xs [] x)(next:seqW P T ops dr l.tail (putD sl (hdst l) x) (zA1 st ks) K):seqW P T ops dr l sl st K:=by
 unfold callO at h;split at h
 ·cases h
 rename_i o r;split at h
 ·cases h
 rename_i hg;split at h
 ·rename_i c ho;split at h
  ·rename_i f1 hc;split at h
   ·cases h
   rename_i fn hfn;split at h
   ·cases h
   rename_i hb;split at h
   ·cases h
   rename_i hi;cases h;have he:aeff P T o.op o.type (evD sl) st= .call f xs ks:=by
    grind [only,aeff,evD,zJt]
   refine zBz hg<|go_call he ?_ hp rfl rfl next;rw[ho];obtain⟨cc,ca,ct⟩:=c;simp only at hc;subst hc;rfl
  cases h
 cases h
def stCs(p n k:Nat):List D:=(Ar n).map λv=>if v<k then .osl (p+4+v) 0 0 0 Ab else nlD
theorem zMj(p n k v:Nat):(stCs p n k)[v]?=if v<n then Am (if v<k then .osl (p+4+v) 0 0 0 Ab else nlD)else none:=by
 grind [stCs,BL]
theorem zY5{T:Par}{sl:List D}(st0:List Bk)(B0 B2:Bk)(R:List Bk)(p n:Nat)(hp:st0.length=p):∀k,k<=n->Weak T sl (st0++[B0,⟨stCs p n 0,182,1,Ab,Ac, .sh⟩,B2]++R) sl (st0++[B0,⟨stCs p n k,182,1,Ab,Ac, .sh⟩,B2]++R)
 |0,_=>Weak.refl _ _
 | k+1,hk=>by
  refine(zY5 st0 B0 B2 R p n hp k (by omega)).trans ?_;have hg:(st0++[B0,(⟨stCs p n k,182,1,Ab,Ac, .sh⟩:Bk),B2]++R)[p+1]?=Am ⟨stCs p n k,182,1,Ab,Ac, .sh⟩:=by
   grind
  have h:=Weak.leC (T:=T) (sl:=sl) (j:=p+1) (i:=k) hg rfl (by show(stCs p n k)[k]?=_;rw[zMj,if_pos (by omega),if_neg (by omega)]) (LeD.nil (p+4+k) Ab);have e1:(stCs p n k).set k (.osl (p+4+k) 0 0 0 Ab)=stCs p n (k+1):=by
   apply Bn;grind [zMj,stCs]
  have e2:(st0++[B0,(⟨stCs p n k,182,1,Ab,Ac, .sh⟩:Bk),B2]++R).set (p+1) ⟨(stCs p n k).set k (.osl (p+4+k) 0 0 0 Ab),182,1,Ab,Ac, .sh⟩=st0++[B0,⟨stCs p n (k+1),182,1,Ab,Ac, .sh⟩,B2]++R:=by
   rw[e1,Bf,List.set_append_right _ _ (by omega),hp,show p+1-p=1 by omega,Bf];rfl
  rw[<-e2];exact h
theorem next_start{P:Program}{T:Par}{c:Code}{Q:Exit->List D->List Bk->Prop}{sl:List D}(m:Mk)(st0:List Bk)(s:Nat)(hp:st0.length=m.p)(hb:∀k,k<m.p->st0[k]?=Am (m.base k))(hs:sl[s]?=Am nlD)(dead:List Nat)(sl':List D)(e:zAd (sl.set s (.osl (m.p+3) 0 0 0 Ab)) dead=sl')(k:awp P T c Q sl' (qlay m (λ_=>[]) [] 0)):
  zAb P T c Q sl (st0++[roB (AH m.n ⟨0,0,[]⟩),⟨repL m.n [nlD],182,1,Ab,Ac, .sh⟩,joB m]):=by
 subst e;refine⟨_,_,?_,k⟩;have er:repL m.n [nlD]=stCs m.p m.n 0:=by
  apply Bn;grind [zMj,zGj]
 rw[er];refine(Weak.more (AH (m.n+1) (ptB m []))).trans ((zY5 st0 _ _ _ m.p m.n hp m.n (Ba _)).trans ?_);refine Weak.trans (sl':=sl.set s (.osl (m.p+3) 0 0 0 Ab)) (Weak.leS hs (LeD.nil (m.p+3) Ab)) ?_;have:st0++[roB (AH m.n ⟨0,0,[]⟩),(⟨stCs m.p m.n m.n,182,1,Ab,Ac, .sh⟩:Bk),joB m]++AH (m.n+1) (ptB m [])=qlay m (λ_=>[]) [] 0:=by
  apply Bn;intro j;rcases AF j m.p with hj|hj
  ·grind [Bf,By,zHb,qblk]
  rw[Bf,BX (by omega),hp];rcases AF j (m.p+4+m.n)with hj2|hj2
  ·rw[zHb (by omega)];unfold qblk;rw[if_neg (by omega)];obtain⟨i,rfl⟩:∃i,j=m.p+i:=⟨j-m.p,by omega⟩;rw[show m.p+i-m.p=i by omega];match i with
   |0=>rw[if_pos (by omega)];rfl
   |1=>
    rw[if_neg (by omega),if_pos rfl];show Am _=Am _;congr 2;apply Bn;grind [zMj,CL,BL]
   |2=>rw[if_neg (by omega),if_neg (by omega),if_pos rfl];rfl
   |i+3=>
    grind
  grind [BL,zLy]
 grind [Weak.slots,LeL.dead]
theorem bld_sz:∀(L:List Rw)(last:List Va)(t:Tri)(B:Nat),SzT B t->SzT (B+L.length) (bldT last L t)
 |[],_,_,_,h=>h
 |x::L,last,t,B,h=>by
  rw[bldT,BH,show B+(L.length+1)=B+1+L.length by omega];exact bld_sz L x _ (B+1) (adT_sz _ _ _ h)
theorem foldF_sz{B:Nat}{t:Tri}(h:SzT B t):∀l,SzT (B+l) ((Cq 0 l).foldl stF t)
 |0=>h
 |l+1=>by
  rw[List.range'_concat,Cr];exact stF_sz (foldF_sz h l)
theorem zZf(n:Nat)(L:List Rw):SzT (L.length+n) (zCo n L):=by
 have h0:SzT 0 (AH n (([],[]):List Va×List Nat)):=λk=>by
  grind [zRy]
 have h1:=bld_sz L [] _ 0 h0;rw[BN]at h1;have h2:=foldF_sz h1 n;have h3:=foldF (bldT [] L (AH n ([],[])));rw[zMu,List.length_replicate]at h3;rw[h3]at h2;exact h2
abbrev itS(m:Mk):List It:=(Ar m.A.length).map λi=>it0 (m.tr i)
abbrev S0(m:Mk):Js:=⟨itS m,AH m.n ⟨0,0,[]⟩,0,[]⟩
structure AOk(m:Mk):Prop where
 n:m.n<=32
 na:m.A.length<=1000
 p:m.p<=50000
 v:Vok m.n m.A.length m.vs
 r:∀a∈m.A,a.2.length<=65536/\(∀r∈a.2,r.length=a.1.length)/\Rsc a.2
theorem AOk.get{m:Mk}(h:AOk m){a:Nat}(ha:a<m.A.length):m.A.getD a Al∈m.A:=by
 grind
theorem zMx{n:Nat}:∀{l:List Nat}(b:Nat),l.Pairwise (· <·)->(∀w∈l,b<=w/\w<n)->l.length<=n-b
 |[],b,_,_=>BY _
 |w::l,b,h,k=>by
  obtain⟨h1,h2⟩:=List.pairwise_cons.1 h;have hw:=k w (by simp)
  have:=zMx (n:=n) (w+1) h2 λu hu=>⟨h1 u hu,(k u (by simp[hu])).2⟩
  rw[BH];omega
theorem AOk.vl{m:Mk}(h:AOk m){a:Nat}(ha:a<m.A.length):(m.vs a).length<=32:=by
 have h1:=zMx (n:=m.n) 0 (h.v.asc a ha) λw hw=>⟨BY _,h.v.lt a ha w hw⟩;have h2:=h.n;exact AV h1 (by omega)
theorem zSr(m:Mk){a:Nat}(ha:a<m.A.length):(itS m).getD a Al=it0 (m.tr a):=by
 grind
theorem itS_at{m:Mk}(h:AOk m)(hne:∀a∈m.A,a.2≠[]):AtV m.A.length m.vs 0 (itS m) where
 len:=by simp
 one a ha:=by
  obtain⟨h1,h2,h3⟩:=h.r _ (h.get ha)
  have hc:cnt m.vs a 0=0:=by simp[cnt]
  rw[zSr m ha,hc]
  refine⟨zJ0 _ _,rfl,by simp,h.vl ha,λhd=>?_,λh=>absurd h (Nat.lt_irrefl _)⟩
  exact trie_sib _ (Nat.pos_of_ne_zero hd) _ h2 h3 (hne _ (h.get ha))
theorem itS_bd{m:Mk}(h:AOk m):Bds m.A.length (itS m):=λa ha=>by
 obtain⟨h1,h2,h3⟩:=h.r _ (h.get ha);have hz:=zZf (m.vs a).length (m.A.getD a Al).2;have hl:=h.vl ha;rw[zSr m ha];refine⟨λk=>AV (hz k).1 ?_,λk=>AV (hz k).2.1 ?_,λk c hc=>AV ((hz k).2.2 c hc) ?_,?_,by simp⟩
 ·omega
 ·omega
 ·omega
 exact AV (Nat.le_of_eq (zJ0 _ _)) hl
theorem itS_sz{m:Mk}(h:AOk m){M:Nat}(hM:∀a∈m.A,a.2.length+m.n<=M):Szs m.A.length M (itS m):=λa ha k=>by
 have hz:=zZf (m.vs a).length (m.A.getD a Al).2;have h1:=zMx (n:=m.n) 0 (h.v.asc a ha) λw hw=>⟨BY _,h.v.lt a ha w hw⟩;have h2:=hM _ (h.get ha);rw[zSr m ha];refine AV (hz k).1 ?_;omega
structure YbOk(m:Mk)(ch:List Nat)(yb:List (List Va)->Nat->Option Bk):Prop where
 c:∀k∈ch,k<m.p
 cb:m.cb∉ch
 b:∀ys k b,yb ys k=Am b->k<m.p/\namB m.p b
 z:∀k b,yb [] k=Am b->b=m.base k
def qL(m:Mk)(ch:List Nat)(yb:List (List Va)->Nat->Option Bk):Lay:=⟨m.p+4+m.n+5*m.A.length,m.A.length,m.n,m.p+2,m.p,m.p+1,λv=>m.p+4+v,λi=>m.p+4+m.n+5*i+4,m.vs,m.cb,ch,yb,qblk m (ats m.A.length m.vs) (Ar m.A.length)⟩
section
variable {m : Mk} {ch : List Nat} {yb : List (List Va) → Nat → Option Bk}
theorem zW7(h:YbOk m ch yb)(ys:List (List Va)){k:Nat}(hk:m.p<=k):yb ys k=none:=by
 cases e:yb ys k with
 |none=>rfl
 |some b=>exact absurd (h.b ys k b e).1 (by omega)
theorem qL_ok(hm:MOk m)(ha:AOk m)(h:YbOk m ch yb):LOk (qL m ch yb) where
 sm:=by have:=ha.p;have:=ha.n;have:=ha.na;show m.p+4+m.n+5*m.A.length<=100000;omega
 jb:=by show m.p+2<m.p+4+m.n+5*m.A.length;omega
 rb:=by show m.p<m.p+4+m.n+5*m.A.length;omega
 tb:=by show m.p+1<m.p+4+m.n+5*m.A.length;omega
 jr:=by show m.p≠m.p+2;omega
 ib i hi:=by
  have hi:i<m.A.length:=hi
  show m.p+4+m.n+5*i+4<m.p+4+m.n+5*m.A.length/\m.p+4+m.n+5*i+4≠m.p+2/\m.p+4+m.n+5*i+4≠m.p
  omega
 ii i j hi hj e:=by
  have e:m.p+4+m.n+5*i+4=m.p+4+m.n+5*j+4:=e
  omega
 ts:=by
  refine⟨by show m.p+1≠m.p+2;omega,by show m.p+1≠m.p;omega,λi hi=>by show m.p+4+m.n+5*i+4≠m.p+1;omega,?_,λys=>zW7 h ys (by show m.p<=m.p+1;omega)⟩
  show qblk m _ _ (m.p+1)=_
  unfold qblk
  rw[if_neg (by omega),if_neg (by omega),if_pos rfl];rfl
 ab v hv:=by
  have hv:v<m.n:=hv
  refine⟨by show m.p+4+v<m.p+4+m.n+5*m.A.length;omega,by show m.p+4+v≠m.p+2;omega,by show m.p+4+v≠m.p;omega,λi hi=>by show m.p+4+m.n+5*i+4≠m.p+4+v;omega,?_,λys=>zW7 h ys (by show m.p<=m.p+4+v;omega)⟩
  show qblk m _ _ (m.p+4+v)=_
  unfold qblk
  rw[if_neg (by omega),if_neg (by omega),if_neg (by omega),if_neg (by omega),if_neg (by omega),if_pos (by omega),show m.p+4+v-(m.p+4)=v by omega];rfl
 ch k hk:=by
  have:=h.c k hk
  refine⟨by show k≠m.p+2;omega,by show k≠m.p;omega,by show k≠m.p+1;omega,λv hv=>by show k≠m.p+4+v;omega,λi hi=>by show k≠m.p+4+m.n+5*i+4;omega⟩
 cb:=⟨by have:=hm.cb;show m.cb<m.p+4+m.n+5*m.A.length;omega,h.cb⟩
 nb k hk:=ql_nam (m:=m) (ix:=ats m.A.length m.vs) (al:=Ar m.A.length) (c:=m.A.length) hm (λi hi=>BG.1 hi) (λv i hi=>BG.1 (Br.1 hi).1) _ (Ce (zHb hk))
 ny ys k b e:=by
  obtain⟨h1,h2⟩:=h.b ys k b e
  exact h2.imp id λh j hj=>h j (by have hj:m.p+4+m.n+5*m.A.length<=j:=hj;omega)
theorem qL_lay(h:YbOk m ch yb):lay (qL m ch yb) (S0 m)=qlay m (ats m.A.length m.vs) (Ar m.A.length) m.A.length:=by
 unfold lay qlay;refine BZ λk hk=>?_;have hk:k<m.p+4+m.n+5*m.A.length:=BG.1 hk;by_cases h1:k=m.p+2
 ·subst h1;refine(blk_j (L:=qL m ch yb)).trans ?_;unfold qblk;rw[if_neg (by omega),if_neg (by omega),if_neg (by omega),if_pos rfl];rfl
 by_cases h2:k=m.p
 ·grind [blk,qL,qblk]
 unfold blk;rw[if_neg (show¬k=(qL m ch yb).jb from h1),if_neg (show¬k=(qL m ch yb).rb from h2)];split
 ·rename_i i hi;have hi1:=BG.1 (List.mem_of_find?_eq_some hi);have hi2:=List.find?_some hi;simp only[beq_iff_eq]at hi2;have hi1:i<m.A.length:=hi1;have hi2:m.p+4+m.n+5*i+4=k:=hi2;subst hi2;rw[show m.p+4+m.n+5*i+4=m.p+4+m.n+(5*i+4) by omega,zZ2];unfold qatm;grind
 show(yb [] k).getD (qblk m _ _ k)=_;cases e:yb [] k with
 |none=>rfl
 |some b=>
  have hb:=h.z k b e;have hk2:=(h.b [] k b e).1;grind [qblk]
end
section
variable {P : Program} {T : Par} {ops : Array Oper} {dr : Bool} {l : List Oper} {sl : List D} {st : List Bk} {K : List D → List Bk → Prop}
theorem kill_set{sl:List D}{s k:Nat}{x:D}(h:sl[s]?=Am x)(hr:zAo k x= .unk):(sl.set s .unk).map (zAo k)=sl.map (zAo k):=by
 grind [CC,zAo,zTw]
theorem kill_osl{k o n m:Nat}{b:Bool}:zAo k (.osl k o n m b)= .unk:=by
 unfold zAo;simp only[refs,beq_self_eq_true,if_true]
theorem st_appo1(b e:Bk)(s1 k j:Nat)(p C:Prop)(b':Bk)(d':D)(s2:Nat)(x2:D)(h:appL P T l sl b e=Am (s1,k,j,p,b',d'))(hk:st[k]?=Am b)(hj:st[j]?=Am e)(hp:p)(h2:(sl.set s1 .unk)[s2]?=Am x2)(hr2:zAo k x2= .unk)(hC:nes k (ownL ((sl.set s1 .unk).set s2 .unk))=C)(hc:C)(hkp:T.keep k=Ac)
  (next:seqW P T ops dr l.tail (putD ((sl.set s1 .unk).set s2 .unk) (hdst l) d') ((st.map (zAs k)).set k b') K):seqW P T ops dr l sl st K:=by
 unfold appL at h;split at h
 ·cases h
 rename_i o r;split at h
 ·cases h
 rename_i hg;split at h
 ·rename_i c ho;split at h
  ·rename_i hcl;split at h
   ·rename_i t u s1' x hat har;split at h
    ·rename_i et et' ht hu;split at h
     ·rename_i i z k1 n mm j1 off m1 m2 wh hi hz hs hx;split at h
      ·cases h
      rename_i hm;split at h
      ·rename_i hn;simp only[Cf.injEq,Prod.mk.injEq]at h;obtain⟨rfl,rfl,rfl,rfl,rfl,rfl⟩:=h;have hmf:(!e.kd.isMap)=true:=by simpa using hm
       have he:aeff P T o.op o.type (evD sl) st= .app (b.arr=Ab/\b.cells.length=n*i.size/\mm=n*i.size/\b.ty=et/\b.sz=i.size/\((e.cells.drop off).take m2).length=m1*i.size/\0<i.size/\0<i.bytes/\et=et'/\(n+m1)*i.bytes<=140737488355328/\z.length=i.size/\b.kd.isMap=Ac/\(zCr P T t=Ac\/b.kd.isSh=Ab))
         k1 {b with cells:=if b.nob then b.cells++(e.cells.drop off).take m2 else(b.cells++(e.cells.drop off).take m2).map (zAo k1)} (.osl k1 0 (n+m1) ((n+m1)*i.size) Ab):=by
        rw[ho];simp only[aeff,hcl,hat,har,zFs,ht,hu,hi,hz,hs,hx,unB,zEe,hj,hmf,if_true,hn,aApp,hk]
       refine zBz hg<|go_app he ?_ hkp hp rfl rfl ?_
       ·rw[ho];obtain⟨cc,ca,ct⟩:=c;simp only at hcl;subst hcl;rfl
       have hkl:sl.map (zAo k1)=(sl.set s1' .unk).set s2 .unk:=by
        have h3:=zSn (by rw[hC];exact hc:nes k1 (ownL ((sl.set s1' .unk).set s2 .unk)));rw[kill_set h2 hr2,kill_set (x:= .osl k1 0 n mm Ab) ?_ kill_osl]at h3
        ·exact h3
        have hl:s1'<sl.length:=by
         rcases AF s1' sl.length with hl|hl
         ·exact hl
         simp only[evD,AB,BL hl]at hs;cases hs
        simp only[evD,AB,AI hl,B3]at hs;grind
       rw[hkl];exact next
      cases h
     cases h
    cases h
   cases h
  cases h
 cases h
end
end
section
open Go.RowKit
attribute [local irreducible] seqW awp zAa zAb zR Weak updS zAd retL Pure Acts rP setP setQ cP nP fr
set_option maxRecDepth 4096
def Tr2(p:Nat)(ch:List Nat):Par:=⟨λf=>f==79||f==80||f==78,λ_ _=>AM,λk=>decide (k<p)&&!ch.contains k,λ_=>Ac,λt=>t==188||t==182⟩
theorem Tr2_ok(p:Nat)(ch:List Nat):zBi As (Tr2 p ch):=by intro t n f h;cases h
theorem Tr2_new(p:Nat)(ch:List Nat):∀k,p<=k->(Tr2 p ch).keep k=false:=λk hk=>by
 show(decide (k<p)&&!ch.contains k)=Ac;rw[decide_eq_false (by omega)];rfl
theorem zH9(p:Nat)(ch:List Nat):∀k,p+3<=k->(Tr2 p ch).keep k=false:=by grind [Tr2_new]
abbrev yCl(cb:Nat):D:= .clo (.func 41) [] [.own cb 0]
abbrev atsD(A:List (List Nat×List Rw)):D:= .row (A.flatMap atN) A.length
theorem zT3:∀n,zL (AH n ⟨0,0,[]⟩)=repL n (vaC ⟨0,0,[]⟩):=λn=>by
 induction n with
 |zero=>rfl
 |succ n ih=>
  have:repL (n+1) (vaC ⟨0,0,[]⟩)=vaC ⟨0,0,[]⟩++repL n (vaC ⟨0,0,[]⟩):=by simp[repL,Cs]
  rw[this,<-ih,Cs];rfl
theorem co_set{k i:Nat}(h:i<k):setAt (rgD i++AH (k-i) (iD 0)) i [iD (i:Nat)]=rgD (i+1)++AH (k-(i+1)) (iD 0):=by
 show(rgD i++AH (k-i) (iD 0)).set i (iD (i:Nat))=_;have hl:(rgD i).length=i:=by simp
 rw[List.set_append_right _ _ (by omega),hl,Nat.sub_self,show k-i=k-(i+1)+1 by omega,Cs,List.set_cons_zero];simp_all [rgD,BD,CB]
theorem frz_args{st:List Bk}{k n l:Nat}{cs rs:List D}{b:Bool}(hk:st[k]?=Am ⟨cs,3,1,Ab,Ac, .plain⟩)(hb:(⟨cs,3,1,Ab,Ac, .plain⟩:Bk).nob=Ab)(ht:(cs.drop 0).take n=cs):mapF (frz Ab st zAy) [.agg [iD (n:Nat), .row rs l], .osl k 0 n n b]=Am ([.agg [iD (n:Nat), .row rs l], .row cs n],[k]):=by
 have h1:frz Ab st zAy (.agg [iD (n:Nat), .row rs l])=Am (.agg [iD (n:Nat), .row rs l],[]):=rfl;have h2:frz Ab st zAy (.osl k 0 n n b)=Am (.row cs n,[k]):=by
  unfold zAy;rw[frz];rw[hk];simp only[hb,if_true];rw[ht];rfl
 simp only[mapF,h1,h2];rfl
theorem setFz_app{st:List Bk}{k:Nat}{cs:List D}(h:st.length=k):zA1 (st++[⟨cs,3,1,Ab,Ac, .plain⟩]) [k]=st++[⟨cs,3,1,Ab,Ab, .plain⟩]:=by
 subst h;unfold zA1;show(st++[_]).modify st.length _=_;apply Bn;grind
theorem kill1{st:List Bk}{k:Nat}{B b':Bk}(hk:k<st.length)(hB:zAs k B=B):((st++[B]).map (zAs k)).set k b'=(st.map (zAs k)).set k b'++[B]:=by
 grind
theorem zZ6{m:Mk}{k:Nat}(h:k<m.p+4+m.n)(al:List Nat)(i:Nat):((al.map λi=>Ae (m.p+4+m.n+5*i+4) 0)++[Ae (m.p+4+m.n+5*i+4) 0]).map (zAo k)=(al++[i]).map λi=>Ae (m.p+4+m.n+5*i+4) 0:=by
 grind [D,zQ7,zMk]
abbrev tmB(m:Mk)(i:Nat):Bk:=⟨[.own (m.p+4+m.n+5*i+4) 0],188,1,Ab,Ac, .sh⟩
theorem tm_kill{m:Mk}{k i:Nat}(h:k<m.p+4+m.n):zAs k (tmB m i)=tmB m i:=zDk (by simp only[zAr,refs,A3,beq_eq_false_iff_ne];omega)
def ixp(m:Mk)(a:Nat)(l:List Nat)(v:Nat):List Nat:=ats a m.vs v++if v∈l then[a]else[]
theorem ixp_nil(m:Mk)(a:Nat):ixp m a []=ats a m.vs:=funext λv=>by
 show ats a m.vs v++(if v∈([]:List Nat)then[a]else[])=_;rw[if_neg (by simp),BA]
theorem ixp_all(m:Mk)(a:Nat):ixp m a (m.vs a)=ats (a+1) m.vs:=funext λv=>by
 show ats a m.vs v++(if v∈m.vs a then[a]else[])=ats (a+1) m.vs v;unfold ats;rw[BD,Ct];congr 1;split
 ·rename_i h;simp[h]
 rename_i h;simp[h]
theorem ixp_succ(m:Mk)(a:Nat)(l:List Nat)(u:Nat)(hu:u∉l):(λw=>if w=u then ixp m a l u++[a]else ixp m a l w)=ixp m a (l++[u]):=by grind [ixp]
theorem ql_mj{m:Mk}{ix:Nat->List Nat}{al:List Nat}{c:Nat}(h:MOk m){v:Nat}(hv:v<m.n)(b:Bk):(((qlay m ix al c).map (zAs (m.p+4+v))).set (m.p+4+v) b)[m.p+2]?=Am (joB m):=by
 have hcb:=h.cb;rw[BM (by omega),Bq,ql_j,BK];congr 1;refine zDk ?_;simp only[zAr,refs,A3,Co,Cn,beq_eq_false_iff_ne];omega
theorem hd_lt(m:Mk)(ix:Nat->List Nat)(v:Nat)(h:v<m.n):(((Ar m.n).map (ltP m ix)).drop v).headD .unk=ltP m ix v:=by
 simp_all
theorem ixp_len(m:Mk)(a:Nat)(l:List Nat)(v:Nat):(ixp m a l v).length<=a+1:=by
 grind [ixp,AU,ats,zYw]
theorem ixp_lt(m:Mk)(a:Nat)(l:List Nat):∀v,∀i∈ixp m a l v,i<a+1:=λv i hi=>by
 unfold ixp at hi;rcases Cu.1 hi with h|h
 ·have:=BG.1 (Br.1 h).1
  omega
 split at h
 ·rw[B5.1 h];omega
 cases h
theorem zTr{m:Mk}(hm:MOk m){st0 X:List Bk}(hp:st0.length=m.p)(hb:∀k,k<m.p->st0[k]?=Am (m.base k))(hX:X=st0++[roB (AH m.n ⟨0,0,[]⟩),(⟨repL m.n [nlD],182,1,Ab,Ac, .sh⟩:Bk),joB m]):∀b∈X,namB (m.p+3) b:=λb hbX=>by
 rw[hX]at hbX;rcases Cu.1 hbX with h|h
 ·obtain⟨k,hk,rfl⟩:=Cv h;have h1:=hb k (by omega);rw[AI hk]at h1;rw[Cf.inj h1];exact(hm.bs k (by omega)).imp id λh j hj=>h j (by omega)
 have hcb:=hm.cb;simp only[Bb,CD,or_false]at h;rcases h with rfl|rfl|rfl
 ·exact .inl rfl
 ·refine .inr λj _=>?_;show zAr j (repL m.n [nlD])=Ac;rw[zGj];exact(show∀n,zAr j (AH n nlD)=Ac from λn=>by
   induction n with
   |zero=>simp only[List.replicate_zero,zAr]
   |succ n ih=>simp only[Cs,zAr,refs,ih,A3]) _
 refine .inr λj hj=>?_;simp only[zAr,refs,A3,Co,Cn,beq_eq_false_iff_ne];omega
def sumS(its:List It):Nat->Nat
 |0=>0
 |i+1=>sumS its i+(its.getD i Al).s
theorem zXb{its:List It}{B:Nat}:∀{k:Nat},(∀i,i<k->(its.getD i Al).s<=B)->sumS its k<=k*B
 |0,_=>BY _
 |k+1,h=>by
  have h1:=zXb (k:=k) λi hi=>h i (by omega);grind [sumS,CE]
abbrev S1(m:Mk):Js:=extJ (ats m.A.length m.vs) m.n 0 (S0 m)
abbrev S2(m:Mk)(k:Nat):Js:={S1 m with s:=(S1 m).s+sumS (S1 m).its k}
theorem hd_pt(m:Mk){na i:Nat}(h:i<na):(((Ar na).map λi=>Ae (m.p+4+m.n+5*i+4) 0).drop i).headD .unk= .own (m.p+4+m.n+5*i+4) 0:=by
 simp_all
theorem lay_pt{m:Mk}{ch:List Nat}{yb:List (List Va)->Nat->Option Bk}(h:YbOk m ch yb)(S:Js):(lay (qL m ch yb) S)[m.p+3]?=Am (ptB m (Ar m.A.length)):=by
 rw[zHk (by show m.p+3<m.p+4+m.n+5*m.A.length;omega)];unfold blk;rw[if_neg (show¬m.p+3=(qL m ch yb).jb from show¬m.p+3=m.p+2 by omega),if_neg (show¬m.p+3=(qL m ch yb).rb from show¬m.p+3=m.p by omega),zN8 (λi hi=>by show m.p+4+m.n+5*i+4≠m.p+3;omega)];show Am ((yb S.ys (m.p+3)).getD (qblk m _ _ (m.p+3)))=_;rw[zW7 h S.ys (by omega)];grind [qblk]
abbrev q7_(x0:Mk):=Ai (AE atN (Mk.A x0)) (Aa (Mk.A x0))
abbrev q8_(x0:Nat)(x1:Mk):=Bc (Ag (x0*3) (AE atN (Mk.A x1)))
abbrev q9_(x0:Nat)(x1:Mk):=Ay (Av 3 (Ag (x0*3) (AE atN (Mk.A x1))))
theorem run_k(m:Mk)(hm:MOk m)(ha:AOk m)(ch:List Nat)(yb:List (List Va)->Nat->Option Bk)(hy:YbOk m ch yb)(hR:∀a∈m.A,a.2≠[])(M K:Nat)(hM:∀a∈m.A,a.2.length+m.n<=M)(hY:YOk (qL m ch yb) K)(hK:(S1 m).ys.length<=K)(hC:(m.A.length+1)*(cE m.A.length M m.n)+1<=big)(st0:List Bk)(hp:st0.length=m.p)(hb:∀k,k<m.p->st0[k]?=Am (m.base k)):Acts As 40 [iD (m.n:Nat),atsD m.A,yCl m.cb] st0 ch (.tup [iD ((S2 m m.A.length).s:Nat),iD 0]) (lay (qL m ch yb) (S2 m m.A.length)):=by
 have hn:=ha.n;have hV:=ha.v;have hA:=ha.na;have hp9:=ha.p;have hl1:∀b,(st0++[b]).length=m.p+1:=λb=>by rw[AU,hp];rfl
 have hl2:∀b c,(st0++[b]++[c]).length=m.p+2:=λb c=>by rw[AU,hl1];rfl
 refine zAz (Tr2_ok m.p ch) mixed Tryz.func40 rfl (λk hk=>by
  by_cases h:k∈ch
  ·exact .inr h
  refine .inl ?_;show(decide (k<m.p)&&!ch.contains k)=Ab;rw[decide_eq_true (by omega)];simpa using h) ?_
 refine vA<|zAf [] [(6,iD 0),(7,iD 0)] ?_;refine zB<|vd [0,2,4,1,3,5,6,7]<|zBa 3 [(23,iD ↑(Mk.n m)),(25,iD ↑(Mk.n m)),(27,AP (Fn.func 41) [] [Ae (Mk.cb m) 0])] ?_;refine zBn (Mk.p m) ((0:Int)<=(↑(Mk.n m):Int)/\(↑(Mk.n m):Int)<=(↑(Mk.n m):Int)/\(↑(32:Nat):Int)*(↑(Mk.n m):Int)<=(281474976710656:Int)/\(↑(Mk.n m):Int)<=(281474976710656:Int)/\0<3/\3=3) (Ao (repL (Ax (↑(Mk.n m):Int)) [iD 0,iD 0,q4_]) 107 3 Ab Ac<|kdOf<|zCr As (Tr2 (Mk.p m) ch) 110) (Af 0 0 (Ax (↑(Mk.n m):Int)) (Ax (↑(Mk.n m):Int)*3) Ab) hp ?_ (hp:=by omega);refine zBn (Mk.p m+1) ((0:Int)<=(↑(Mk.n m):Int)/\(↑(Mk.n m):Int)<=(↑(Mk.n m):Int)/\(↑(24:Nat):Int)*(↑(Mk.n m):Int)<=(281474976710656:Int)/\(↑(Mk.n m):Int)<=(281474976710656:Int)/\0<1/\1=1) (Ao (repL (Ax (↑(Mk.n m):Int)) [nl]) 182 1 Ab Ac<|kdOf<|zCr As (Tr2 (Mk.p m) ch) 179) (Af 0 0 (Ax (↑(Mk.n m):Int)) (Ax (↑(Mk.n m):Int)*1) Ab) (hl1 _) ?_ (hp:=by omega);refine zT 1 [] [] ((1=1/\1<=4/\1=1/\2<=4/\1=1/\4<=4/\True)/\Ab=Ab) [(28,Ay [Af (Mk.p m) 0 (Ax (↑(Mk.n m):Int)) (Ax (↑(Mk.n m):Int)*3) Ab,Af (Mk.p m+1) 0 (Ax (↑(Mk.n m):Int)) (Ax (↑(Mk.n m):Int)*1) Ab,iD 0,AP (Fn.func 41) [] [Ae (Mk.cb m) 0]])] ?_ (hc:=by decide);refine zAn 28 (Ay [Af (Mk.p m) 0 (Ax (↑(Mk.n m):Int)) (Ax (↑(Mk.n m):Int)*3) Ab,Af (Mk.p m+1) 0 (Ax (↑(Mk.n m):Int)) (Ax (↑(Mk.n m):Int)*1) Ab,iD 0,AP (Fn.func 41) [] [Ae (Mk.cb m) 0]]) (Ay [Af (Mk.p m) 0 (Mk.n m) (Mk.n m*3) Ab,Af (Mk.p m+1) 0 (Mk.n m) (Mk.n m) Ab,iD 0,AP (Fn.func 41) [] [Ae (Mk.cb m) 0]]) (by simp(disch:=omega) only[A2,AQ]) ?_;refine zBn (Mk.p m+2) (True) (Ao [Af (Mk.p m) 0 (Mk.n m) (Mk.n m*3) Ab,Af (Mk.p m+1) 0 (Mk.n m) (Mk.n m) Ab,iD 0,AP (Fn.func 41) [] [Ae (Mk.cb m) 0]] 181 0 Ac Ac Aq) (Ae 0 0) (hl2 _ _) ?_;refine zBa 1 [(8,Ae (Mk.p m+2) 0)] ?_;refine zAm ?_ (by kernel_rfl);refine zC ?_;obtain⟨X,hX⟩:∃X,X=st0++[roB (AH m.n ⟨0,0,[]⟩),(⟨repL m.n [nlD],182,1,Ab,Ac, .sh⟩:Bk),joB m]:=⟨_,rfl⟩;have hXl:X.length=m.p+3:=by rw[hX,AU,hp];rfl
 have hXn:∀b∈X,namB (m.p+3) b:=zTr hm hp hb hX;refine next_st X ?_ ?_
 ·rw[hX,Bf,Bf];unfold roB;rw[zT3];exact congrArg (st0++·) (by kernel_rfl)
 have hac:∀a:List Nat×List Rw,(atN a).length=3:=λ_=>rfl;refine zK<|zB<|vA<|zAf [0,2,23,24,25,26,27,28,29] [(30,(q7_ m)),(31,iD (Aa (Mk.A m):Int)),(32,iD 0)] ?_;refine zF<|zN (λ(a:Nat)=>fr 124 [(1,atsD<|Mk.A m),(8,Ae (Mk.p m+2) 0),(30,(q7_ m)),(31,iD (Aa (Mk.A m):Int)),(32,iD a)]) (λ(a:Nat)=>X) (λ(a:Nat)=>m.A.length-a) (λ(a:Nat)=>a<=m.A.length) 0 ?_ ?_ ?_
 ·omega
 ·refine vkp [1,8,30,31,32]
 intro a h1;rcases AF a m.A.length with h2|h2
 ·have hg2:=zDg hac m.A a h2;have hle:=zFp hac m.A a h2;have hne:=zEi hac (by decide) m.A;have ham:m.A.getD a Al∈m.A:=by rw[AB,AI h2];exact A7 h2
  have hr1:=hR _ ham;obtain⟨hr2,hr3,hr4⟩:=ha.r _ ham;generalize m.A.getD a Al=x at*;have hlen:=rlen_c (x.1.length:Nat) (x.2.map rowV) x.2.length;have hpos:0<x.2.length:=List.length_pos_iff.2 hr1;refine vA<|zAf [] [(33,bD<|decide ((a:Int)<(Aa (Mk.A m):Int)))] ?_;refine zB<|vT ((a:Int)<(Aa (Mk.A m):Int))<|vKB<|vA<|zT 2 [] [] (ix ↑a (Aa (Mk.A m):Int) (AE atN (Mk.A m)≠[])/\3<=Aa (Ag (a*3)<|AE atN<|Mk.A m)) [(34,(q8_ a m)),(35,(q9_ a m))] ?_ (hc:=⟨⟨(by omega),⟨(by omega),(by assumption)⟩⟩,(by omega)⟩);refine zAn 35 (Ay<|Av 3<|Ag (a*3)<|AE atN<|Mk.A m) (Ay<|atN x) (by simp(disch:=omega) only[hg2]) ?_;refine zBn (Mk.p m+3) (True) (Ao [nl,iD 0,nl] 75 0 Ac Ac Aq) (Ae 0 0) hXl ?_;refine zCh (Ao [nl,iD 0,nl] 75 0 Ac Ac Aq) (Mk.p m+3) (Ac=Ac/\Ab=Ab/\3=3/\3<=3) (Ao [Ai (Ad (λ(v:Nat)=>iD v)<|An x)<|Aa<|An x,iD (Aa (An x):Int),Ai (Ad rowV<|AD x)<|Aa<|AD x] 75 0 Ac Ac Aq) (zA5 hXl) ⟨(by kernel_rfl),⟨(by kernel_rfl),(by omega)⟩⟩ ?_;rw[zFr hXl];refine zAf [33,34,35] [] ?_;refine vA<|zBa 1 [(36,Ae (Mk.p m+3) 1)] ?_;refine zAq (Ao [Ai (Ad (λ(v:Nat)=>iD v)<|An x)<|Aa<|An x,iD (Aa (An x):Int),Ai (Ad rowV<|AD x)<|Aa<|AD x] 75 0 Ac Ac Aq) (Mk.p m+3) (Bh 2 2) (Ay [iD (Aa (An x):Int),Ai (Ad rowV<|AD x)<|Aa<|AD x]) (zA5 hXl) (by simp) ?_;refine zXd [Ay [iD (Aa (An x):Int),Ai (Ad rowV<|AD x)<|Aa<|AD x]] (by exact hlen) ?_;refine zAf [10,36,37,38] [(39,bD ((Aa (AD x):Int)==(0:Int)))] ?_;refine vEf ((Aa (AD x):Int)) ((0:Int))<|zM<|zD<|vN<|zA rfl<|zT 2 [] [] (i6 (↑a+1)) [(32,iD (↑a+1)),(40,iD (↑a+1))] ?_;refine zAm ?_ (by kernel_rfl);refine zC<|⟨a+1,h2,by omega,?_⟩;rw[zPn];refine zJw (m.p+2<m.p+3/\True) hXl hXn (zH9 _ _) ?_ (by kernel_rfl) ⟨by omega,trivial⟩;refine vkp [1,8,30,31,32]
 obtain rfl:a=m.A.length:=by omega
 refine vA<|zAf [] [(33,bD<|decide ((Aa (Mk.A m):Int)<(Aa (Mk.A m):Int)))] ?_;refine zB<|vF ((Aa (Mk.A m):Int)<(Aa (Mk.A m):Int))<|vZ2<|vA<|zBa 1 [(11,nl)] ?_;refine zAm ?_ (by kernel_rfl);refine zC ?_;rw[hX];refine next_start m st0 11 hp hb (by kernel_rfl) [30,31,32,33] ([Uk,atsD m.A]++AH 6 Uk++[.own (m.p+2) 0,Uk,Uk, .osl (m.p+3) 0 0 0 Ab]++AH 112 Uk) (by kernel_rfl) ?_;refine zB<|vA<|zAf [0,1,2,3,4,5,9,10,12,19,21,23,24,25,26,27,28,29,30,31,32,33,34,35,36,37,38,39,40,103] [(41,(q7_ m)),(42,iD (Aa (Mk.A m):Int)),(43,iD 0)] ?_;refine zF<|zN (λ(a:Nat)=>fr 124 [(8,Ae (Mk.p m+2) 0),(11,Af (Mk.p m+3) 0 a a Ab),(22,Uk),(41,(q7_ m)),(42,iD (Aa (Mk.A m):Int)),(43,iD a),(102,Uk),(104,Uk),(105,Uk),(106,Uk),(107,Uk),(108,Uk),(109,Uk),(110,Uk),(111,Uk),(112,Uk),(113,Uk),(114,Uk),(115,Uk),(116,Uk),(117,Uk),(118,Uk),(119,Uk),(120,Uk),(121,Uk),(122,Uk),(123,Uk)]) (λ(a:Nat)=>qlay m (ats a m.vs) (Ar a) a) (λ(a:Nat)=>m.A.length-a) (λ(a:Nat)=>a<=m.A.length) 0 ?_ ?_ ?_
 ·omega
 ·rw[show ats 0 m.vs=λ_=>[]from rfl,show Ar 0=[]from rfl];refine vkp [8,11,41,42,43]
 intro a h1;rcases AF a m.A.length with h2|h2
 ·have hg2:=zDg hac m.A a h2;have hle:=zFp hac m.A a h2;have hne:=zEi hac (by decide) m.A;have ham:m.A.getD a Al∈m.A:=by rw[AB,AI h2];exact A7 h2
  have hr1:=hR _ ham;obtain⟨hr2,hr3,hr4⟩:=ha.r _ ham;have hql:(qlay m (ats a m.vs) (Ar a) a).length=m.p+4+m.n+5*a:=zLy;have hql1:∀b,(qlay m (ats a m.vs) (Ar a) a++[b]).length=m.p+4+m.n+5*a+1:=λb=>by rw[AU,hql];rfl
  have hvp:=hV.asc a h2;have hvt:=hV.lt a h2;have hvl:(m.A.getD a Al).1.length<=32:=ha.vl h2;have hix:=ixp_all m a;change (m.A.getD a Al).1.Pairwise _ at hvp;change ∀w∈(m.A.getD a Al).1,w<m.n at hvt;change ixp m a (m.A.getD a Al).1=_ at hix;generalize hgx:m.A.getD a Al=x at hg2 hne hle ham hr1 hr2 hr3 hr4 hvl hvp hvt hix⊢;refine vA<|zAf [] [(44,bD<|decide ((a:Int)<(Aa (Mk.A m):Int)))] ?_;refine zB<|vT ((a:Int)<(Aa (Mk.A m):Int))<|vKB<|vA<|zT 2 [] [] (ix ↑a (Aa (Mk.A m):Int) (AE atN (Mk.A m)≠[])/\3<=Aa (Ag (a*3)<|AE atN<|Mk.A m)) [(45,(q8_ a m)),(46,(q9_ a m))] ?_ (hc:=⟨⟨(by omega),⟨(by omega),(by assumption)⟩⟩,(by omega)⟩);refine zAn 46 (Ay<|Av 3<|Ag (a*3)<|AE atN<|Mk.A m) (Ay<|atN x) (by simp(disch:=omega) only[hg2]) ?_;refine zBn (Mk.p m+4+Mk.n m+5*a) (True) (Ao [nl,iD 0,nl] 75 0 Ac Ac Aq) (Ae 0 0) hql ?_;refine zCh (Ao [nl,iD 0,nl] 75 0 Ac Ac Aq) (Mk.p m+4+Mk.n m+5*a) (Ac=Ac/\Ab=Ab/\3=3/\3<=3) (Ao [Ai (Ad (λ(v:Nat)=>iD v)<|An x)<|Aa<|An x,iD (Aa (An x):Int),Ai (Ad rowV<|AD x)<|Aa<|AD x] 75 0 Ac Ac Aq) (zA5 hql) ⟨(by kernel_rfl),⟨(by kernel_rfl),(by omega)⟩⟩ ?_;rw[zFr hql];refine zAf [44,45,46] [] ?_;refine vA<|zBa 1 [(47,Ae (Mk.p m+4+Mk.n m+5*a) 0)] ?_;refine zAq (Ao [Ai (Ad (λ(v:Nat)=>iD v)<|An x)<|Aa<|An x,iD (Aa (An x):Int),Ai (Ad rowV<|AD x)<|Aa<|AD x] 75 0 Ac Ac Aq) (Mk.p m+4+Mk.n m+5*a) (Bh 1 3) (Ai (Ad (λ(v:Nat)=>iD v)<|An x)<|Aa<|An x) (zA5 hql) (by simp) ?_;refine zBa 1 [(49,iD (Aa (An x):Int))] ?_;refine zBn (Mk.p m+4+Mk.n m+5*a+1) ((0:Int)<=(Aa (An x):Int)/\(Aa (An x):Int)<=(Aa (An x):Int)/\(↑(8:Nat):Int)*(Aa (An x):Int)<=(281474976710656:Int)/\(Aa (An x):Int)<=(281474976710656:Int)/\0<1/\1=1) (Ao (repL (Ax (Aa (An x):Int)) [iD 0]) 3 1 Ab Ac<|kdOf<|zCr As (Tr2 (Mk.p m) ch) 39) (Af 0 0 (Ax (Aa (An x):Int)) (Ax (Aa (An x):Int)*1) Ab) (hql1 _) ?_ (hp:=by omega);refine zJd (qlay m (ats a m.vs) (Ar a) a++[acB x]++[⟨rgD 0++AH (x.1.length-0) (iD 0),3,1,Ab,Ac,.plain⟩]) ?_ ?_
  ·rw[zGj];rfl
  refine zBa 1 [(14,Af (Mk.p m+4+Mk.n m+5*a+1) 0 (Ax (Aa (An x):Int)) (Ax (Aa (An x):Int)*1) Ab)] ?_;refine zAn 14 (Af (Mk.p m+4+Mk.n m+5*a+1) 0 (Ax (Aa (An x):Int)) (Ax (Aa (An x):Int)*1) Ab) (Af (Mk.p m+4+Mk.n m+5*a+1) 0 (Aa<|An x) (Aa<|An x) Ab) (by simp(disch:=omega) only[A2,AQ]) ?_;refine zAf [47,48,49,50] [] ?_;refine zB<|vA<|zAf [51] [(52,iD (Aa (An x):Int)),(53,iD 0)] ?_;refine zF<|zN (λ(i:Nat)=>fr 124 [(8,Ae (Mk.p m+2) 0),(11,Af (Mk.p m+3) 0 a a Ab),(13,Ae (Mk.p m+4+Mk.n m+5*a) 0),(14,Af (Mk.p m+4+Mk.n m+5*a+1) 0 (Aa<|An x) (Aa<|An x) Ab),(22,Uk),(41,(q7_ m)),(42,iD (Aa (Mk.A m):Int)),(43,iD a),(52,iD (Aa (An x):Int)),(53,iD i),(102,Uk),(104,Uk),(105,Uk),(106,Uk),(107,Uk),(108,Uk),(109,Uk),(110,Uk),(111,Uk),(112,Uk),(113,Uk),(114,Uk),(115,Uk),(116,Uk),(117,Uk),(118,Uk),(119,Uk),(120,Uk),(121,Uk),(122,Uk),(123,Uk)]) (λ(i:Nat)=>qlay m (ats a m.vs) (Ar a) a++[acB x]++[⟨rgD i++AH (x.1.length-i) (iD 0),3,1,Ab,Ac,.plain⟩]) (λ(i:Nat)=>x.1.length-i) (λ(i:Nat)=>i<=x.1.length) 0 ?_ ?_ ?_
  ·omega
  ·refine vkp [8,11,13,14,41,42,43,52,53]
  intro i h3;rcases AF i x.1.length with h4|h4
  ·have hl2:(qlay m (ats a m.vs) (Ar a) a++[acB x]).length=m.p+4+m.n+5*a+1:=hql1 _;refine vA<|zAf [] [(54,bD<|decide ((i:Int)<(Aa (An x):Int)))] ?_;refine zB<|vT ((i:Int)<(Aa (An x):Int))<|vKB<|vA<|zAf [54,55] [(15,iD i)] ?_;refine zA rfl<|zT 4 [] [] ((0:Int)<=(i:Int)/\(i:Int)<(Aa (An x):Int)) [(56,Af (Mk.p m+4+Mk.n m+5*a+1) 0 (Aa<|An x) (Aa<|An x) Ab),(57,iD i),(58,iD i),(59,Ae (Mk.p m+4+Mk.n m+5*a+1) (0+Ax (i:Int)*1))] ?_;refine zAn 59 (Ae (Mk.p m+4+Mk.n m+5*a+1) (0+Ax (i:Int)*1)) (Ae (Mk.p m+4+Mk.n m+5*a+1) i) (by simp(disch:=omega) only[A2,AQ,BN]) ?_;refine st_puta (Ao (rgD i++AH (Aa (An x)-i) (iD 0)) 3 1 Ab Ac Aq) (Mk.p m+4+Mk.n m+5*a+1) (Ac=Ac/\Ab=Ab/\1=1/\i+1<=Aa (rgD i++AH (Aa (An x)-i) (iD 0))) (Ao (setAt (rgD i++AH (Aa (An x)-i) (iD 0)) i<|cellsOf<|iD i) 3 1 Ab Ac Aq) (by kernel_rfl) (zA5 hl2) ⟨(by kernel_rfl),⟨(by kernel_rfl),⟨(by kernel_rfl),(by(simp;omega))⟩⟩⟩ ?_;rw[zFr hl2];refine zJd (qlay m (ats a m.vs) (Ar a) a++[acB x]++[⟨rgD (i+1)++AH (x.1.length-(i+1)) (iD 0),3,1,Ab,Ac,.plain⟩]) ?_ ?_
   ·exact congrArg (λcs=>qlay m (ats a m.vs) (Ar a) a++[acB x]++[(⟨cs,3,1,Ab,Ac, .plain⟩:Bk)]) (co_set h4)
   refine zAm ?_ (by kernel_rfl);refine zD<|vN<|zA rfl<|zT 2 [] [] (i6 (↑i+1)) [(53,iD (↑i+1)),(60,iD (↑i+1))] ?_;refine zAm ?_ (by kernel_rfl);refine zC<|⟨i+1,by omega,by omega,?_⟩;refine vkp [8,11,13,14,41,42,43,52,53]
  obtain rfl:i=x.1.length:=by omega
  rw[Nat.sub_self,List.replicate_zero,BA];have hl1:=hql1 (acB x);refine vA<|zAf [] [(54,bD<|decide ((Aa (An x):Int)<(Aa (An x):Int)))] ?_;refine zB<|vF ((Aa (An x):Int)<(Aa (An x):Int))<|vZ2<|vA<|zBa 1 [(62,Ae (Mk.p m+4+Mk.n m+5*a) 1)] ?_;have htn:=trieNew_c x.1.length x.2 (by omega) hr2 hr3 hr4;refine zAq (Ao [Ai (Ad (λ(v:Nat)=>iD v)<|An x)<|Aa<|An x,iD (Aa (An x):Int),Ai (Ad rowV<|AD x)<|Aa<|AD x] 75 0 Ac Ac Aq) (Mk.p m+4+Mk.n m+5*a) (Bh 2 2) (Ay [iD (Aa (An x):Int),Ai (Ad rowV<|AD x)<|Aa<|AD x]) (zBh<|zA5 hql) (by simp) ?_;refine zBa 1 [(64,Af (Mk.p m+4+Mk.n m+5*a+1) 0 (Aa<|An x) (Aa<|An x) Ab)] ?_;refine st_callo 77 [.agg [iD (x.1.length:Nat),.row (x.2.map rowV) x.2.length],.osl (m.p+4+m.n+5*a+1) 0 x.1.length x.1.length Ab] _ [m.p+4+m.n+5*a+1] (by kernel_rfl) (frz_args (zA5 hl1) rfl<|AT (by simp)) htn ?_;rw[setFz_app hl1];have hl2:(qlay m (ats a m.vs) (Ar a) a++[acB x]++[coB x.1.length]).length=m.p+4+m.n+5*a+2:=by rw[AU,hl1];rfl
  have hl3:(qlay m (ats a m.vs) (Ar a) a++[acB x]++[coB x.1.length]++[teB (zCo x.1.length x.2)]).length=m.p+4+m.n+5*a+3:=by rw[AU,hl2];rfl
  have hit:=(iter_a (zCo x.1.length x.2)).new0 (st:=qlay m (ats a m.vs) (Ar a) a++[acB x]++[coB x.1.length]++[teB (zCo x.1.length x.2)]) (λI w β vs h=>h) (λb hb=>by
   simp only[Bb,CD,or_false]at hb;rcases hb with rfl|rfl
   ·exact .inr λk=>by simp only[zAr,refs,A3]
   exact zBd (zBv _))
  rw[hl3]at hit;change Acts _ _ _ _ _ (.own (m.p+4+m.n+5*a+4) 0) _ at hit;refine zT 3 [] [] (0<2/\1<2) [(61,D.tup [Ay [Ai (AE lvC<|zCo (Aa<|An x)<|AD x)<|Aa<|zCo (Aa<|An x)<|AD x],iD 0]),(66,Ay [Ai (AE lvC<|zCo (Aa<|An x)<|AD x)<|Aa<|zCo (Aa<|An x)<|AD x]),(67,iD 0)] ?_;refine zBn (Mk.p m+4+Mk.n m+5*a+2) (True) (q6_) (Ae 0 0) hl2 ?_;refine zCh (q6_) (Mk.p m+4+Mk.n m+5*a+2) (Ac=Ac/\Ab=Ab/\1=1/\1<=1) (Ao [Ai (AE lvC<|zCo (Aa<|An x)<|AD x)<|Aa<|zCo (Aa<|An x)<|AD x] 185 0 Ac Ac Aq) (zA5 hl2) ⟨(by kernel_rfl),⟨(by kernel_rfl),(by omega)⟩⟩ ?_;rw[zFr hl2];refine zAf [14,52,53,54,61,62,63,64,65,66,67] [(17,iD 0)] ?_;refine zB<|vA<|zAf [68] [(69,bD Ac)] ?_;refine vf<|vK<|vA<|zAq (Ao [Ai (AE lvC<|zCo (Aa<|An x)<|AD x)<|Aa<|zCo (Aa<|An x)<|AD x] 185 0 Ac Ac Aq) (Mk.p m+4+Mk.n m+5*a+2) (Bh 1 1) (Ay [Ai (AE lvC<|zCo (Aa<|An x)<|AD x)<|Aa<|zCo (Aa<|An x)<|AD x]) (zA5 hl2) (by simp) ?_;refine zAl [] [] [Ay [Ai (AE lvC<|zCo (Aa<|An x)<|AD x)<|Aa<|zCo (Aa<|An x)<|AD x]] [Ay [Ai (AE lvC<|zCo (Aa<|An x)<|AD x)<|Aa<|zCo (Aa<|An x)<|AD x]] (Bg _) (by exact hit) ?_;refine zAf [16,17,69,71,72] [(18,Ae (Mk.p m+4+Mk.n m+5*a+4) 0)] ?_;refine vA<|zBa 2 [(73,Af (Mk.p m+3) 0 a a Ab),(74,Ae (Mk.p m+4+Mk.n m+5*a+4) 0)] ?_;refine zJd (qlay m (ats a m.vs) (Ar a) (a+1)) ?_ ?_
  ·grind [ql_snoc]
  have hqn:∀ix al,(qlay m ix al (a+1)).length=m.p+4+m.n+5*(a+1):=λ_ _=>zLy;refine zBn (Mk.p m+4+Mk.n m+5*(a+1)) ((1=1/\1<=1/\True)/\0<1/\1=1/\1<=16777216/\1<=9223372036854775807) (Ao [Ae (Mk.p m+4+Mk.n m+5*a+4) 0] 188 1 Ab Ac BB) (Af 0 0 1 1 Ab) (hqn _ _) ?_ (hp:=⟨⟨(by kernel_rfl),⟨(by omega),trivial⟩⟩,(by omega)⟩);refine st_appo1 (ptB m<|Ar a) (tmB m a) 73 (m.p+3) (m.p+4+m.n+5*(a+1)) (Ab=Ab/\(ptB m<|Ar a).cells.length=a*1/\a=a*1/\188=188/\1=1/\1=1/\0<1/\0<8/\188=188/\(a+1)*8<=140737488355328/\1=1/\Ac=Ac/\(zCr As (Tr2 m.p ch) 182=Ac\/Ab=Ab)) (m.p+2≠m.p+3/\m.p+4+m.n+5*a≠m.p+3/\m.p+4+m.n+5*a+4≠m.p+3/\m.p+4+m.n+5*a+4≠m.p+3/\m.p+4+m.n+5*(a+1)≠m.p+3/\True) ⟨(((Ar a).map λi=>Ae (m.p+4+m.n+5*i+4) 0)++[Ae (m.p+4+m.n+5*a+4) 0]).map<|zAo (m.p+3),188,1,Ab,Ac,.sh⟩ (.osl (m.p+3) 0 (a+1) ((a+1)*1) Ab) 11 (.osl (m.p+3) 0 a a Ab) (by kernel_rfl) (zBh ql_al) (zA5<|hqn _ _) ⟨rfl,by simp,by omega,rfl,rfl,rfl,by decide,by decide,rfl,by omega,rfl,rfl,.inr rfl⟩ (by kernel_rfl) kill_osl (by kernel_rfl) ⟨by omega,by omega,by omega,by omega,by omega,trivial⟩ (zH9 _ _ _<|Ba _) ?_;rw[kill1 (k:=m.p+3) (by rw[hqn];omega) (tm_kill (by omega)),zZ6 (k:=m.p+3) (by omega)];refine zJd (qlay m (ats a m.vs) (Ar (a+1)) (a+1)++[tmB m a]) ?_ ?_
  ·grind [ql_all,Ar,BD]
  refine zBa 1 [(11,Af (Mk.p m+3) 0 (a+1) ((a+1)*1) Ab)] ?_;refine zAn 11 (Af (Mk.p m+3) 0 (a+1) ((a+1)*1) Ab) (Af (Mk.p m+3) 0 (a+1) (a+1) Ab) (by simp(disch:=omega) only[AQ]) ?_;refine zAm ?_ (by kernel_rfl);refine zC ?_;have hrl:∀i∈Ar (a+1),i<a+1:=λi hi=>BG.1 hi;refine zHg [74,75,76] (AH 8 Uk++[.own (m.p+2) 0,Uk,Uk,.osl (m.p+3) 0 (a+1) (a+1) Ab,Uk,.own (m.p+4+m.n+5*a) 0]++AH 4 Uk++[.own (m.p+4+m.n+5*a+4) 0]++AH 22 Uk++[atsD m.A,iD (m.A.length:Nat),iD (a:Nat)]++AH 80 Uk) (m.p+2<m.p+4+m.n+5*(a+1)/\m.p+3<m.p+4+m.n+5*(a+1)/\m.p+4+m.n+5*a<m.p+4+m.n+5*(a+1)/\m.p+4+m.n+5*a+4<m.p+4+m.n+5*(a+1)/\True) (hqn _ _) (ql_nam hm hrl (by rw[<-ixp_nil];exact ixp_lt m a [])) (λk hk=>zH9 _ _ _ (by omega)) (by kernel_rfl) (by kernel_rfl) ⟨by omega,by omega,by omega,by omega,trivial⟩ ?_;have hqa:∀ix al,(qlay m ix al (a+1))[m.p+4+m.n+5*a]?=Am (acB x):=λix al=>by
   rw[ql_atm (by omega)];simp_all [qatm]
  refine vA<|zBa 1 [(77,Ae (Mk.p m+4+Mk.n m+5*a) 0)] ?_;refine zAq (Ao [Ai (Ad (λ(v:Nat)=>iD v)<|An x)<|Aa<|An x,iD (Aa (An x):Int),Ai (Ad rowV<|AD x)<|Aa<|AD x] 75 0 Ac Ac Aq) (Mk.p m+4+Mk.n m+5*a) (Bh 1 3) (Ai (Ad (λ(v:Nat)=>iD v)<|An x)<|Aa<|An x) (hqa _ _) (by simp) ?_;refine zAf [0,1,2,3,4,5,9,10,12,13,14,15,16,17,19,21,23,24,25,26,27,28,29,30,31,32,33,34,35,36,37,38,39,40,44,45,46,47,48,49,50,51,52,53,54,55,56,57,58,59,60,61,62,63,64,65,66,67,68,69,70,71,72,73,74,75,76,77,103] [(79,iD (Aa (An x):Int)),(80,iD 0)] ?_;refine zF<|zN (λ(t:Nat)=>fr 124 [(6,Uk),(7,Uk),(8,Ae (Mk.p m+2) 0),(11,Af (Mk.p m+3) 0 (a+1) (a+1) Ab),(18,Ae (Mk.p m+4+Mk.n m+5*a+4) 0),(22,Uk),(41,atsD<|Mk.A m),(42,iD (Aa (Mk.A m):Int)),(43,iD a),(78,Ai (Ad (λ(v:Nat)=>iD v)<|An x)<|Aa<|An x),(79,iD (Aa (An x):Int)),(80,iD t),(101,Uk),(102,Uk),(104,Uk),(105,Uk),(106,Uk),(107,Uk),(108,Uk),(109,Uk),(110,Uk),(111,Uk),(112,Uk),(113,Uk),(114,Uk),(115,Uk),(116,Uk),(117,Uk),(118,Uk),(119,Uk),(120,Uk),(121,Uk),(122,Uk),(123,Uk)]) (λ(t:Nat)=>qlay m (ixp m a<|x.1.take t) (Ar (a+1)) (a+1)) (λ(t:Nat)=>x.1.length-t) (λ(t:Nat)=>t<=x.1.length) 0 ?_ ?_ ?_
  ·omega
  ·rw[CM,ixp_nil];refine vkp [8,11,18,41,42,43,78,79,80]
  intro t ht;rcases AF t x.1.length with ht2|ht2
  ·have hhd:=zDe (λv:Nat=>iD (v:Nat)) x.1 0 t ht2;have hne1:(x.1.map λv=>iD (v:Nat))≠[]:=zW;have htk:=zB2 x.1 0 t ht2;have hun:x.1.getD t 0∉x.1.take t:=zG6 (hvp.imp λh=>Nat.ne_of_lt h) ht2;have hum:x.1.getD t 0<m.n:=hvt _ (by rw[AB,AI ht2];exact A7 ht2);have hsu:=ixp_succ m a (x.1.take t) (x.1.getD t 0) hun;rw[<-htk]at hsu;have hil:=ixp_len m a (x.1.take t) (x.1.getD t 0);generalize x.1.getD t 0=u at*;generalize hix0:ixp m a (x.1.take t)=ix at*;refine vA<|zAf [] [(81,bD<|decide ((t:Int)<(Aa (An x):Int)))] ?_;refine zB<|vT ((t:Int)<(Aa (An x):Int))<|vKB<|vA<|zT 1 [] [] (YtmfamhoopjeaiaaGreatDoor.ix ↑t (Aa (An x):Int) (Ad (λ(v:Nat)=>iD v) (An x)≠[])) [(82,Bc<|Ag (Ax (t:Int)*1)<|Ad (λ(v:Nat)=>iD v)<|An x)] ?_ (hc:=⟨(by omega),⟨(by omega),(by assumption)⟩⟩);refine zAn 82 (Bc<|Ag (Ax (t:Int)*1)<|Ad (λ(v:Nat)=>iD v)<|An x) (Bc<|Ag t<|Ad (λ(v:Nat)=>iD v)<|An x) (by simp(disch:=omega) only[A2,AQ]) ?_;refine zT 1 [] [] (0<Aa (Ag t<|Ad (λ(v:Nat)=>iD v)<|An x)) [(83,AR (Ag t<|Ad (λ(v:Nat)=>iD v)<|An x) Uk)] ?_ (hc:=by(simp;omega));refine zAn 83 (AR (Ag t<|Ad (λ(v:Nat)=>iD v)<|An x) Uk) (iD u) (by simp(disch:=omega) only[hhd]) ?_;refine zAf [81,82,83] [(20,iD u)] ?_;refine zC8 [0,1,2,4,5,6,7,9,12,3,8,10,11,13] [(14,[(3,100000)],[15,16])] rfl ?_;refine zT 9 [] [] (True/\True) [(84,Ae (Mk.p m+2) 0),(85,Ae (Mk.p m+2) 0),(86,Ae (Mk.p m+2) 1),(88,iD u),(89,Ae (Mk.p m+2) 0),(90,Ae (Mk.p m+2) 0),(91,Ae (Mk.p m+2) 1),(93,iD u),(96,Ae (Mk.p m+4+Mk.n m+5*a+4) 0)] ?_ (hc:=by decide);refine zAq (Ao [Af (Mk.p m) 0 (Mk.n m) (Mk.n m*3) Ab,Af (Mk.p m+1) 0 (Mk.n m) (Mk.n m) Ab,iD ↑(0:Nat),AP (Fn.func 41) [] [Ae (Mk.cb m) 0]] 181 0 Ac Ac Aq) (Mk.p m+2) (Bh 1 3) (Af (Mk.p m+1) 0 (Mk.n m) (Mk.n m) Ab) ql_j (by simp) ?_;refine zAq (Ao [Af (Mk.p m) 0 (Mk.n m) (Mk.n m*3) Ab,Af (Mk.p m+1) 0 (Mk.n m) (Mk.n m) Ab,iD ↑(0:Nat),AP (Fn.func 41) [] [Ae (Mk.cb m) 0]] 181 0 Ac Ac Aq) (Mk.p m+2) (Bh 1 3) (Af (Mk.p m+1) 0 (Mk.n m) (Mk.n m) Ab) ql_j (by simp) ?_;refine zT 1 [] [] ((0:Int)<=(u:Int)/\(u:Int)<↑(Mk.n m)) [(94,Ae (Mk.p m+1) (0+Ax (u:Int)*1))] ?_;refine zAn 94 (Ae (Mk.p m+1) (0+Ax (u:Int)*1)) (Ae (Mk.p m+1) u) (by simp(disch:=omega) only[A2,AQ,BN]) ?_;refine zAq (Ao (Ad (ltP m ix)<|Ar<|Mk.n m) 182 1 Ab Ac BB) (Mk.p m+1) (Bh 1<|Aa<|Ag u<|Ad (ltP m ix)<|Ar<|Mk.n m) (AR (Ag u<|Ad (ltP m ix)<|Ar<|Mk.n m) Uk) ql_t (by(simp;omega)) ?_;rw[hd_lt m ix u hum];refine zBn (Mk.p m+4+Mk.n m+5*(a+1)) ((1=1/\1<=1/\True)/\0<1/\1=1/\1<=16777216/\1<=9223372036854775807) (Ao [Ae (Mk.p m+4+Mk.n m+5*a+4) 0] 188 1 Ab Ac BB) (Af 0 0 1 1 Ab) (hqn ix _) ?_ (hp:=⟨⟨(by kernel_rfl),⟨(by omega),trivial⟩⟩,(by omega)⟩);refine zAm ?_ (by kernel_rfl);have hqt:(qlay m ix (Ar (a+1)) (a+1)++[tmB m a]).length=m.p+4+m.n+5*(a+1)+1:=by rw[AU,hqn];rfl
   refine zFn rfl rfl (zFl<|λx hx=>by rw[hqt];simp at hx;subst hx;show _<=100000;omega) ?_;refine zRp (Ao (Ad (λ(i:Nat)=>Ae (Mk.p m+4+Mk.n m+5*i+4) 0)<|ix u) 188 1 Ab Ac BB) (Ao [Ae (Mk.p m+4+Mk.n m+5*a+4) 0] 188 1 Ab Ac BB) 95 (Mk.p m+4+u) (Mk.p m+4+Mk.n m+5*(a+1)) (Ab=Ab/\Aa (Ad (λ(i:Nat)=>Ae (Mk.p m+4+Mk.n m+5*i+4) 0)<|ix u)=Aa (ix u)*1/\Aa (ix u)=Aa (ix u)*1/\188=188/\1=1/\1=1/\0<1/\0<8/\188=188/\(Aa (ix u)+1)*8<=140737488355328/\1=1/\AW BB=Ac/\(zCr As (Tr2 (Mk.p m) ch) 182=Ac\/AX BB=Ab)) (Mk.p m+2≠Mk.p m+4+u/\Mk.p m+3≠Mk.p m+4+u/\Mk.p m+4+Mk.n m+5*a+4≠Mk.p m+4+u/\Mk.p m+2≠Mk.p m+4+u/\Mk.p m+2≠Mk.p m+4+u/\Mk.p m+2≠Mk.p m+4+u/\Mk.p m+1≠Mk.p m+4+u/\Mk.p m+2≠Mk.p m+4+u/\Mk.p m+2≠Mk.p m+4+u/\Mk.p m+2≠Mk.p m+4+u/\Mk.p m+1≠Mk.p m+4+u/\Mk.p m+1≠Mk.p m+4+u/\Mk.p m+4+Mk.n m+5*a+4≠Mk.p m+4+u/\Mk.p m+4+Mk.n m+5*(a+1)≠Mk.p m+4+u/\True) (Ao (Ad (zAo (Mk.p m+4+u)) (Ad (λ(i:Nat)=>Ae (Mk.p m+4+Mk.n m+5*i+4) 0) (ix u)++[Ae (Mk.p m+4+Mk.n m+5*a+4) 0])) 188 1 Ab Ac BB) (Af (Mk.p m+4+u) 0 (Aa (ix u)+1) ((Aa (ix u)+1)*1) Ab) (by kernel_rfl) (zBh<|ql_v hum) (zA5<|hqn ix _) ?_ (by kernel_rfl) ⟨(by omega),⟨(by omega),⟨(by omega),⟨(by omega),⟨(by omega),⟨(by omega),⟨(by omega),⟨(by omega),⟨(by omega),⟨(by omega),⟨(by omega),⟨(by omega),⟨(by omega),⟨(by omega),trivial⟩⟩⟩⟩⟩⟩⟩⟩⟩⟩⟩⟩⟩⟩ ?_ ?_
   ·exact⟨rfl,by simp,by omega,rfl,rfl,rfl,by decide,by decide,rfl,by omega,rfl,rfl, .inr rfl⟩
   ·grind [zH9]
   rw[kill1 (k:=m.p+4+u) (by rw[hqn];omega) (tm_kill (by omega)),zZ6 (k:=m.p+4+u) (by omega)];refine zAm ?_ (by kernel_rfl);refine zFc (by rw[AU,AU,Cp,AK];exact Ba _) (zE1 3 100000 (joB m) (m.p+2) (0<3) (.osl (m.p+1) 0 m.n m.n Ab) (by kernel_rfl) (by
    rw[zFa (by rw[AU,Cp,AK,hqn];show _+1<=100000;omega)];exact zBh (ql_mj hm hum _)) (by decide) (by kernel_rfl)) ?_
   refine zT 1 [] [] ((0:Int)<=(u:Int)/\(u:Int)<↑(Mk.n m)) [(99,Ae (Mk.p m+1) (0+Ax (u:Int)*1))] ?_;refine zAn 99 (Ae (Mk.p m+1) (0+Ax (u:Int)*1)) (Ae (Mk.p m+1) u) (by simp(disch:=omega) only[A2,AQ,BN]) ?_;refine zCh (Ao (Ad (zAo (Mk.p m+4+u))<|Ad (ltP m ix)<|Ar<|Mk.n m) 182 1 Ab Ac BB) (Mk.p m+1) (Ac=Ac/\Ab=Ab/\1=1/\u+1<=Aa (Ad (zAo (Mk.p m+4+u))<|Ad (ltP m ix)<|Ar<|Mk.n m)) (Ao (setAt (Ad (zAo (Mk.p m+4+u))<|Ad (ltP m ix)<|Ar<|Mk.n m) u<|cellsOf<|Af (Mk.p m+4+u) 0 (Aa (ix u)+1) ((Aa (ix u)+1)*1) Ab) 182 1 Ab Ac BB) (zBh<|ql_mk hm hum _) ⟨(by kernel_rfl),⟨(by kernel_rfl),⟨(by kernel_rfl),(by(simp;omega))⟩⟩⟩ ?_;refine zJd (qlay m (ixp m a<|x.1.take (t+1)) (Ar (a+1)) (a+1)++[tmB m a]) ?_ ?_
   ·rw[zB9 (by rw[Cp,AK,hqn];omega),<-hsu,AQ];exact congrArg (λs=>s++[tmB m a]) (ql_app hm hum a)
   refine zAm ?_ (by kernel_rfl);refine zFd<|zD<|zC<|zHg (20::Cq 84 16) (AH 8 Uk++[.own (m.p+2) 0,Uk,Uk,.osl (m.p+3) 0 (a+1) (a+1) Ab]++AH 6 Uk++[.own (m.p+4+m.n+5*a+4) 0]++AH 22 Uk++[atsD m.A,iD (m.A.length:Nat),iD (a:Nat)]++AH 34 Uk++[.row (x.1.map λv=>iD (v:Nat)) x.1.length,iD (x.1.length:Nat),iD (t:Nat)]++AH 43 Uk) (m.p+2<m.p+4+m.n+5*(a+1)/\m.p+3<m.p+4+m.n+5*(a+1)/\m.p+4+m.n+5*a+4<m.p+4+m.n+5*(a+1)/\True) (hqn _ _) (ql_nam hm hrl<|ixp_lt m a _) (λk hk=>zH9 _ _ _ (by omega)) (by kernel_rfl) (by kernel_rfl) ⟨by omega,by omega,by omega,trivial⟩ ?_;refine zA rfl<|zT 2 [] [] (i6 (↑t+1)) [(80,iD ↑(t+1)),(100,iD ↑(t+1))] ?_;refine zAm ?_ (by kernel_rfl);refine zC<|⟨t+1,by omega,by omega,?_⟩;refine vkp [8,11,18,41,42,43,78,79,80]
  obtain rfl:t=x.1.length:=by omega
  rw[Cg,hix];refine vA<|zAf [] [(81,bD<|decide ((Aa (An x):Int)<(Aa (An x):Int)))] ?_;refine zB<|vF ((Aa (An x):Int)<(Aa (An x):Int))<|vY2<|zD<|vN<|zA rfl<|zT 2 [] [] (i6 (↑a+1)) [(43,iD ↑(a+1)),(101,iD ↑(a+1))] ?_;refine zAm ?_ (by kernel_rfl);refine zC<|⟨a+1,by omega,by omega,?_⟩;refine vkp [8,11,41,42,43]
 obtain rfl:a=m.A.length:=by omega
 have hL:=qL_ok hm ha hy;have hat:=itS_at ha hR;have hbd:=itS_bd ha;have hsz:=itS_sz ha hM;have hc0:1*cE m.A.length M m.n<=(m.A.length+1)*cE m.A.length M m.n:=B6 _ (by omega);have hc1:0+cE m.A.length M m.n+1<=big:=by omega
 have hc2:∀a,a<m.A.length->((S0 m).its.getD a Al).s+cE m.A.length M m.n<=big:=λa h=>by
  grind
 have hsp:=zKp hV m.n 0 (S0 m) (by omega) hat (by simp);have hco:=zSz hV M m.n 0 (S0 m) (by omega) hat (by simp) hsz hc1 hc2;have hex:=extend_a (qL m ch yb) hL hV M K hY (by show m.n<=_;omega) (by show m.A.length<=_;omega) m.n 0 (S0 m) rfl hat List.length_replicate hbd hsz hc1 hc2 hK;change Acts _ _ [.own (m.p+2) 0,iD (0:Nat)] _ ch (bD Ab) (lay (qL m ch yb) (S2 m 0))at hex;rw[<-qL_lay hy];focus
  refine vA<|zAf [] [(44,bD<|decide ((Aa (Mk.A m):Int)<(Aa (Mk.A m):Int)))] ?_;refine zB<|vF ((Aa (Mk.A m):Int)<(Aa (Mk.A m):Int))<|vZ2<|vA<|zBa 1 [(102,Ae (Mk.p m+2) 0)] ?_;refine zRq [] [] [Ae (Mk.p m+2) 0,iD 0] [Ae (Mk.p m+2) 0,iD 0] (¬Mk.p m+2∈ch/\¬Mk.p m+3∈ch/\¬Mk.p m+2∈ch/\True) (by kernel_rfl) trivial (Bg _) (by exact hex) (by kernel_rfl) ?_ ?_ ?_;rotate_left;rotate_left;refine zAf [41,42,43,44,102,103] [] ?_;refine zB<|vA<|zAf [11] [(104,Af (Mk.p m+3) 0 (Aa<|Mk.A m) (Aa<|Mk.A m) Ab),(105,iD (Aa (Mk.A m):Int)),(106,iD 0)] ?_;refine zF ?_;rotate_left
 ·exact λk hk=>by
   show(decide (k<m.p)&&!ch.contains k)=Ac;grind
 ·exact⟨λh=>by have:=hy.c _ h;omega,λh=>by have:=hy.c _ h;omega,λh=>by have:=hy.c _ h;omega,trivial⟩
 refine zN (λ(i:Nat)=>fr 124 [(8,Ae (Mk.p m+2) 0),(104,Af (Mk.p m+3) 0 (Aa<|Mk.A m) (Aa<|Mk.A m) Ab),(105,iD (Aa (Mk.A m):Int)),(106,iD i),(120,Uk),(121,Uk),(122,Uk),(123,Uk)]) (λ(i:Nat)=>lay (qL m ch yb) (S2 m i)) (λ(i:Nat)=>m.A.length-i) (λ(i:Nat)=>i<=m.A.length) 0 ?_ ?_ ?_
 ·omega
 ·refine vkp [8,104,105,106]
 intro i hi;rcases AF i m.A.length with hi2|hi2
 ·have hpt:=lay_pt hy (S2 m i);have hhd:=hd_pt m hi2;have hli:(lay (qL m ch yb) (S2 m i))[m.p+4+m.n+5*i+4]?=Am (itK ((S1 m).its.getD i Al)):=zSm (L:=qL m ch yb) (S:=S2 m i) hL (i:=i) hi2;have hlj:(lay (qL m ch yb) (S2 m i))[m.p+2]?=Am (jB (qL m ch yb) (S2 m i).s):=zP3 (L:=qL m ch yb) (S:=S2 m i) hL;have hre:=hsp.res i hi2;have hst:=steps_g hli ((hbd i hi2).of hre.t hre.fl);have hb2:sumS (S1 m).its (i+1)<=(i+1)*cE m.A.length M m.n:=zXb λj hj=>by
   grind
  have hb3:(i+1)*cE m.A.length M m.n<=m.A.length*cE m.A.length M m.n:=B6 _ (by omega);have hb1:(S1 m).s+sumS (S1 m).its i+((S1 m).its.getD i Al).s<=100000000000000000:=by
   have h1:sumS (S1 m).its i+((S1 m).its.getD i Al).s<=m.A.length*cE m.A.length M m.n:=AV hb2 hb3;grind
  refine vA<|zAf [] [(107,bD<|decide ((i:Int)<(Aa (Mk.A m):Int)))] ?_;refine zB<|vT ((i:Int)<(Aa (Mk.A m):Int))<|vKB<|vA<|zT 1 [] [] ((0:Int)<=(i:Int)/\(i:Int)<(Aa (Mk.A m):Int)) [(108,Ae (Mk.p m+3) (0+Ax (i:Int)*1))] ?_;refine zAn 108 (Ae (Mk.p m+3) (0+Ax (i:Int)*1)) (Ae (Mk.p m+3) i) (by simp(disch:=omega) only[A2,AQ,BN]) ?_;refine zAq (Ao (Ad (λ(i:Nat)=>Ae (Mk.p m+4+Mk.n m+5*i+4) 0)<|Ar<|Aa<|Mk.A m) 188 1 Ab Ac BB) (Mk.p m+3) (Bh 1<|Aa<|Ag i<|Ad (λ(i:Nat)=>Ae (Mk.p m+4+Mk.n m+5*i+4) 0)<|Ar<|Aa<|Mk.A m) (AR (Ag i<|Ad (λ(i:Nat)=>Ae (Mk.p m+4+Mk.n m+5*i+4) 0)<|Ar<|Aa<|Mk.A m) Uk) hpt (by(simp;omega)) ?_;refine zBa 1 [(22,AR (Ag i<|Ad (λ(i:Nat)=>Ae (Mk.p m+4+Mk.n m+5*i+4) 0)<|Ar<|Aa<|Mk.A m) Uk)] ?_;refine zAn 22 (AR (Ag i<|Ad (λ(i:Nat)=>Ae (Mk.p m+4+Mk.n m+5*i+4) 0)<|Ar<|Aa<|Mk.A m) Uk) (Ae (Mk.p m+4+Mk.n m+5*i+4) 0) (by simp(disch:=omega) only[hhd]) ?_;refine zAf [107,108,109] [] ?_;refine zC8 [0,1,2,4,3] [(5,[(3,100000)],[6,7,8,9])] rfl ?_;refine zBa 4 [(110,Ae (Mk.p m+2) 0),(111,Ae (Mk.p m+2) 0),(112,Ae (Mk.p m+2) 2),(114,Ae (Mk.p m+4+Mk.n m+5*i+4) 0)] ?_;refine zAq (Ao [Af (Lay.rb<|qL m ch yb) 0 (Bd<|qL m ch yb) (Bd (qL m ch yb)*3) Ab,Af (Lay.tb<|qL m ch yb) 0 (Bd<|qL m ch yb) (Bd<|qL m ch yb) Ab,iD (↑(Js.s<|S2 m i):Int),AP (Fn.func 41) [] [Ae (Lay.cb<|qL m ch yb) 0]] 181 0 Ac Ac Aq) (Mk.p m+2) (Bh 1 2) (iD (↑(Js.s<|S2 m i):Int)) hlj (by simp) ?_;have hll:(lay (qL m ch yb) (S2 m i)).length<=100000:=by rw[zBc];exact hL.sm
  have hlk:(lay (qL m ch yb) (S2 m i)).take 100000=lay (qL m ch yb) (S2 m i):=zFa hll;refine zAm ?_ (by kernel_rfl);refine zFn rfl rfl (zFl<|λx hx=>by simp at hx;subst hx;exact hll) ?_;refine zAl [] [] [Ae (Mk.p m+4+Mk.n m+5*i+4) 0] [Ae (Mk.p m+4+Mk.n m+5*i+4) 0] (Bg _) (by exact hst) ?_;refine zAm ?_ (by kernel_rfl);refine zFc (Ba _) (zE1 3 100000 (jB (qL m ch yb) (S2 m i).s) (m.p+2) (0<2) (iD ((S2 m i).s:Nat)) (by kernel_rfl) (by rw[hlk];exact hlj) (by decide) (by kernel_rfl)) ?_;refine zT 1 [116] [] (True) [(116,iD<|A4 Bs ((↑(Js.s<|S2 m i):Int)+(↑(It.s<|Ap (BT<|S1 m) i Al):Int)))] ?_ (hc:=trivial);refine zAn 116 (iD<|A4 Bs ((↑(Js.s<|S2 m i):Int)+(↑(It.s<|Ap (BT<|S1 m) i Al):Int))) (iD ((↑(Js.s (S1 m)+sumS (BT<|S1 m) i):Int)+(↑(It.s<|Ap (BT<|S1 m) i Al):Int))) (by simp(disch:=omega) only[wrap_i64]) ?_;refine zBa 2 [(117,Ae (Mk.p m+2) 0),(118,Ae (Mk.p m+2) 2)] ?_;refine zCh (Ao [Af (Lay.rb<|qL m ch yb) 0 (Bd<|qL m ch yb) (Bd (qL m ch yb)*3) Ab,Af (Lay.tb<|qL m ch yb) 0 (Bd<|qL m ch yb) (Bd<|qL m ch yb) Ab,iD (↑(Js.s<|S2 m i):Int),AP (Fn.func 41) [] [Ae (Lay.cb<|qL m ch yb) 0]] 181 0 Ac Ac Aq) (Mk.p m+2) (Ac=Ac/\Ab=Ab/\1=1/\3<=4) (Ao [Af (Lay.rb<|qL m ch yb) 0 (Bd<|qL m ch yb) (Bd (qL m ch yb)*3) Ab,Af (Lay.tb<|qL m ch yb) 0 (Bd<|qL m ch yb) (Bd<|qL m ch yb) Ab,iD ((↑(Js.s (S1 m)+sumS (BT<|S1 m) i):Int)+(↑(It.s<|Ap (BT<|S1 m) i Al):Int)),AP (Fn.func 41) [] [Ae (Lay.cb<|qL m ch yb) 0]] 181 0 Ac Ac Aq) hlj ⟨(by kernel_rfl),⟨(by kernel_rfl),(by omega)⟩⟩ ?_;refine zJd (lay (qL m ch yb)<|S2 m (i+1)) ?_ ?_
  ·rw[show S2 m (i+1)={S2 m i with s:=(S2 m i).s+((S1 m).its.getD i Al).s} by simp only[S2,sumS,Nat.add_assoc]];exact zN1 (L:=qL m ch yb) (S:=S2 m i) hL ((S2 m i).s+((S1 m).its.getD i Al).s)
  refine zAm ?_ (by kernel_rfl);refine zFd<|zD<|zC<|zNr (22::Cq 110 9) ([Uk,Uk,Uk,Uk,Uk,Uk,Uk,Uk,.own (m.p+2) 0]++AH 95 Uk++[.osl (m.p+3) 0 m.A.length m.A.length Ab,iD (m.A.length:Nat),iD (i:Nat)]++AH 17 Uk) (by kernel_rfl) ?_;refine zA rfl<|zT 2 [] [] (i6 (↑i+1)) [(106,iD ↑(i+1)),(119,iD ↑(i+1))] ?_;refine zAm ?_ (by kernel_rfl);refine zC<|⟨i+1,by omega,by omega,?_⟩;refine vkp [8,104,105,106]
 obtain rfl:i=m.A.length:=by omega
 have hlj:(lay (qL m ch yb) (S2 m m.A.length))[m.p+2]?=Am (jB (qL m ch yb) (S2 m m.A.length).s):=zP3 (L:=qL m ch yb) (S:=S2 m m.A.length) hL;refine vA<|zAf [] [(107,bD<|decide ((Aa (Mk.A m):Int)<(Aa (Mk.A m):Int)))] ?_;refine zB<|vF ((Aa (Mk.A m):Int)<(Aa (Mk.A m):Int))<|vZ2<|vA<|zBa 3 [(120,Ae (Mk.p m+2) 0),(121,Ae (Mk.p m+2) 0),(122,Ae (Mk.p m+2) 2)] ?_;refine zAq (Ao [Af (Lay.rb<|qL m ch yb) 0 (Bd<|qL m ch yb) (Bd (qL m ch yb)*3) Ab,Af (Lay.tb<|qL m ch yb) 0 (Bd<|qL m ch yb) (Bd<|qL m ch yb) Ab,iD (↑(Js.s<|S2 m<|Aa<|Mk.A m):Int),AP (Fn.func 41) [] [Ae (Lay.cb<|qL m ch yb) 0]] 181 0 Ac Ac Aq) (Mk.p m+2) (Bh 1 2) (iD (↑(Js.s<|S2 m<|Aa<|Mk.A m):Int)) hlj (by simp) ?_;refine zAf [8,104,105,106,107,120,121,122,123] [(6,iD (↑(Js.s (S1 m)+sumS (BT<|S1 m) (Aa<|Mk.A m)):Int)),(7,iD 0)] ?_;refine zG<|zZ (True) [Aj<|Ak Bs (↑(Js.s (S1 m)+sumS (BT<|S1 m) (Aa<|Mk.A m)):Int),q2_] (.inr rfl) ?_;exact⟨by kernel_rfl,rfl⟩
theorem run0_k(m:Mk)(hm:MOk m)(ha:AOk m)(e:Nat)(he:e<m.A.length)(he0:(m.A.getD e Al).2=[])(he1:∀j,j<e->(m.A.getD j Al).2≠[])(ch:List Nat)(st0:List Bk)(hp:st0.length=m.p)(hb:∀k,k<m.p->st0[k]?=Am (m.base k)):∃bs,Acts As 40 [iD (m.n:Nat),atsD m.A,yCl m.cb] st0 ch (.tup [iD 0,iD 0]) (st0++bs):=by
 have hn:=ha.n;have hA:=ha.na;refine⟨[roB (AH m.n ⟨0,0,[]⟩),(⟨repL m.n [nlD],182,1,Ab,Ac, .sh⟩:Bk),joB m,acB (m.A.getD e Al)],?_⟩;have hl1:∀b,(st0++[b]).length=m.p+1:=λb=>by rw[AU,hp];rfl
 have hl2:∀b c,(st0++[b]++[c]).length=m.p+2:=λb c=>by rw[AU,hl1];rfl
 refine zAz (Tr2_ok m.p ch) mixed Tryz.func40 rfl (λk hk=>by
  by_cases h:k∈ch
  ·exact .inr h
  refine .inl ?_;show(decide (k<m.p)&&!ch.contains k)=Ab;rw[decide_eq_true (by omega)];simpa using h) ?_
 refine vA<|zAf [] [(6,iD 0),(7,iD 0)] ?_;refine zB<|vd [0,2,4,1,3,5,6,7]<|zBa 3 [(23,iD ↑(Mk.n m)),(25,iD ↑(Mk.n m)),(27,AP (Fn.func 41) [] [Ae (Mk.cb m) 0])] ?_;refine zBn (Mk.p m) ((0:Int)<=(↑(Mk.n m):Int)/\(↑(Mk.n m):Int)<=(↑(Mk.n m):Int)/\(↑(32:Nat):Int)*(↑(Mk.n m):Int)<=(281474976710656:Int)/\(↑(Mk.n m):Int)<=(281474976710656:Int)/\0<3/\3=3) (Ao (repL (Ax (↑(Mk.n m):Int)) [iD 0,iD 0,q4_]) 107 3 Ab Ac<|kdOf<|zCr As (Tr2 (Mk.p m) ch) 110) (Af 0 0 (Ax (↑(Mk.n m):Int)) (Ax (↑(Mk.n m):Int)*3) Ab) hp ?_ (hp:=by omega);refine zBn (Mk.p m+1) ((0:Int)<=(↑(Mk.n m):Int)/\(↑(Mk.n m):Int)<=(↑(Mk.n m):Int)/\(↑(24:Nat):Int)*(↑(Mk.n m):Int)<=(281474976710656:Int)/\(↑(Mk.n m):Int)<=(281474976710656:Int)/\0<1/\1=1) (Ao (repL (Ax (↑(Mk.n m):Int)) [nl]) 182 1 Ab Ac<|kdOf<|zCr As (Tr2 (Mk.p m) ch) 179) (Af 0 0 (Ax (↑(Mk.n m):Int)) (Ax (↑(Mk.n m):Int)*1) Ab) (hl1 _) ?_ (hp:=by omega);refine zT 1 [] [] ((1=1/\1<=4/\1=1/\2<=4/\1=1/\4<=4/\True)/\Ab=Ab) [(28,Ay [Af (Mk.p m) 0 (Ax (↑(Mk.n m):Int)) (Ax (↑(Mk.n m):Int)*3) Ab,Af (Mk.p m+1) 0 (Ax (↑(Mk.n m):Int)) (Ax (↑(Mk.n m):Int)*1) Ab,iD 0,AP (Fn.func 41) [] [Ae (Mk.cb m) 0]])] ?_ (hc:=by decide);refine zAn 28 (Ay [Af (Mk.p m) 0 (Ax (↑(Mk.n m):Int)) (Ax (↑(Mk.n m):Int)*3) Ab,Af (Mk.p m+1) 0 (Ax (↑(Mk.n m):Int)) (Ax (↑(Mk.n m):Int)*1) Ab,iD 0,AP (Fn.func 41) [] [Ae (Mk.cb m) 0]]) (Ay [Af (Mk.p m) 0 (Mk.n m) (Mk.n m*3) Ab,Af (Mk.p m+1) 0 (Mk.n m) (Mk.n m) Ab,iD 0,AP (Fn.func 41) [] [Ae (Mk.cb m) 0]]) (by simp(disch:=omega) only[A2,AQ]) ?_;refine zBn (Mk.p m+2) (True) (Ao [Af (Mk.p m) 0 (Mk.n m) (Mk.n m*3) Ab,Af (Mk.p m+1) 0 (Mk.n m) (Mk.n m) Ab,iD 0,AP (Fn.func 41) [] [Ae (Mk.cb m) 0]] 181 0 Ac Ac Aq) (Ae 0 0) (hl2 _ _) ?_;refine zBa 1 [(8,Ae (Mk.p m+2) 0)] ?_;refine zAm ?_ (by kernel_rfl);refine zC ?_;obtain⟨X,hX⟩:∃X,X=st0++[roB (AH m.n ⟨0,0,[]⟩),(⟨repL m.n [nlD],182,1,Ab,Ac, .sh⟩:Bk),joB m]:=⟨_,rfl⟩;have hXl:X.length=m.p+3:=by rw[hX,AU,hp];rfl
 have hXn:∀b∈X,namB (m.p+3) b:=zTr hm hp hb hX;refine next_st X ?_ ?_
 ·rw[hX,Bf,Bf];unfold roB;rw[zT3];exact congrArg (st0++·) (by kernel_rfl)
 have hac:∀a:List Nat×List Rw,(atN a).length=3:=λ_=>rfl;refine zK<|zB<|vA<|zAf [0,2,23,24,25,26,27,28,29] [(30,(q7_ m)),(31,iD (Aa (Mk.A m):Int)),(32,iD 0)] ?_;refine zF<|zN (λ(a:Nat)=>fr 124 [(1,atsD<|Mk.A m),(8,Ae (Mk.p m+2) 0),(30,(q7_ m)),(31,iD (Aa (Mk.A m):Int)),(32,iD a)]) (λ(a:Nat)=>X) (λ(a:Nat)=>e-a) (λ(a:Nat)=>a<=e) 0 ?_ ?_ ?_
 ·omega
 ·refine vkp [1,8,30,31,32]
 intro a h1;have h2:a<m.A.length:=by omega
 have hg2:=zDg hac m.A a h2;have hle:=zFp hac m.A a h2;have hne:=zEi hac (by decide) m.A;rcases AF a e with h3|h3
 ·have hr1:=he1 a h3;obtain⟨hr2,hr3,hr4⟩:=ha.r _ (ha.get h2);generalize m.A.getD a Al=x at*;have hlen:=rlen_c (x.1.length:Nat) (x.2.map rowV) x.2.length;have hpos:0<x.2.length:=List.length_pos_iff.2 hr1;refine vA<|zAf [] [(33,bD<|decide ((a:Int)<(Aa (Mk.A m):Int)))] ?_;refine zB<|vT ((a:Int)<(Aa (Mk.A m):Int))<|vKB<|vA<|zT 2 [] [] (ix ↑a (Aa (Mk.A m):Int) (AE atN (Mk.A m)≠[])/\3<=Aa (Ag (a*3)<|AE atN<|Mk.A m)) [(34,(q8_ a m)),(35,(q9_ a m))] ?_ (hc:=⟨⟨(by omega),⟨(by omega),(by assumption)⟩⟩,(by omega)⟩);refine zAn 35 (Ay<|Av 3<|Ag (a*3)<|AE atN<|Mk.A m) (Ay<|atN x) (by simp(disch:=omega) only[hg2]) ?_;refine zBn (Mk.p m+3) (True) (Ao [nl,iD 0,nl] 75 0 Ac Ac Aq) (Ae 0 0) hXl ?_;refine zCh (Ao [nl,iD 0,nl] 75 0 Ac Ac Aq) (Mk.p m+3) (Ac=Ac/\Ab=Ab/\3=3/\3<=3) (Ao [Ai (Ad (λ(v:Nat)=>iD v)<|An x)<|Aa<|An x,iD (Aa (An x):Int),Ai (Ad rowV<|AD x)<|Aa<|AD x] 75 0 Ac Ac Aq) (zA5 hXl) ⟨(by kernel_rfl),⟨(by kernel_rfl),(by omega)⟩⟩ ?_;rw[zFr hXl];refine zAf [33,34,35] [] ?_;refine vA<|zBa 1 [(36,Ae (Mk.p m+3) 1)] ?_;refine zAq (Ao [Ai (Ad (λ(v:Nat)=>iD v)<|An x)<|Aa<|An x,iD (Aa (An x):Int),Ai (Ad rowV<|AD x)<|Aa<|AD x] 75 0 Ac Ac Aq) (Mk.p m+3) (Bh 2 2) (Ay [iD (Aa (An x):Int),Ai (Ad rowV<|AD x)<|Aa<|AD x]) (zA5 hXl) (by simp) ?_;refine zXd [Ay [iD (Aa (An x):Int),Ai (Ad rowV<|AD x)<|Aa<|AD x]] (by exact hlen) ?_;refine zAf [10,36,37,38] [(39,bD ((Aa (AD x):Int)==(0:Int)))] ?_;refine vEf ((Aa (AD x):Int)) ((0:Int))<|zM<|zD<|vN<|zA rfl<|zT 2 [] [] (i6 (↑a+1)) [(32,iD (↑a+1)),(40,iD (↑a+1))] ?_;refine zAm ?_ (by kernel_rfl);refine zC<|⟨a+1,h3,by omega,?_⟩;rw[zPn];refine zJw (m.p+2<m.p+3/\True) hXl hXn (zH9 _ _) ?_ (by kernel_rfl) ⟨by omega,trivial⟩;refine vkp [1,8,30,31,32]
 obtain rfl:a=e:=by omega
 obtain⟨x,hx⟩:∃x,x=m.A.getD a default:=⟨_,rfl⟩;rw[<-hx]at hg2 he0;have hlen:=rlen_c (x.1.length:Nat) (x.2.map rowV) x.2.length;have hz:x.2.length=0:=by rw[he0];rfl
 refine vA<|zAf [] [(33,bD<|decide ((a:Int)<(Aa (Mk.A m):Int)))] ?_;refine zB<|vT ((a:Int)<(Aa (Mk.A m):Int))<|vKB<|vA<|zT 2 [] [] (ix ↑a (Aa (Mk.A m):Int) (AE atN (Mk.A m)≠[])/\3<=Aa (Ag (a*3)<|AE atN<|Mk.A m)) [(34,(q8_ a m)),(35,(q9_ a m))] ?_ (hc:=⟨⟨(by omega),⟨(by omega),(by assumption)⟩⟩,(by omega)⟩);refine zAn 35 (Ay<|Av 3<|Ag (a*3)<|AE atN<|Mk.A m) (Ay<|atN x) (by simp(disch:=omega) only[hg2]) ?_;refine zBn (Mk.p m+3) (True) (Ao [nl,iD 0,nl] 75 0 Ac Ac Aq) (Ae 0 0) hXl ?_;refine zCh (Ao [nl,iD 0,nl] 75 0 Ac Ac Aq) (Mk.p m+3) (Ac=Ac/\Ab=Ab/\3=3/\3<=3) (Ao [Ai (Ad (λ(v:Nat)=>iD v)<|An x)<|Aa<|An x,iD (Aa (An x):Int),Ai (Ad rowV<|AD x)<|Aa<|AD x] 75 0 Ac Ac Aq) (zA5 hXl) ⟨(by kernel_rfl),⟨(by kernel_rfl),(by omega)⟩⟩ ?_;rw[zFr hXl];refine zAf [33,34,35] [] ?_;refine vA<|zBa 1 [(36,Ae (Mk.p m+3) 1)] ?_;refine zAq (Ao [Ai (Ad (λ(v:Nat)=>iD v)<|An x)<|Aa<|An x,iD (Aa (An x):Int),Ai (Ad rowV<|AD x)<|Aa<|AD x] 75 0 Ac Ac Aq) (Mk.p m+3) (Bh 2 2) (Ay [iD (Aa (An x):Int),Ai (Ad rowV<|AD x)<|Aa<|AD x]) (zA5 hXl) (by simp) ?_;refine zXd [Ay [iD (Aa (An x):Int),Ai (Ad rowV<|AD x)<|Aa<|AD x]] (by exact hlen) ?_;refine zAf [10,36,37,38] [(39,bD ((Aa (AD x):Int)==(0:Int)))] ?_;refine vEt ((Aa (AD x):Int)) ((0:Int))<|vA<|zAf [39] [(6,iD 0),(7,iD 0)] ?_;refine zG<|zJ<|zE<|zE<|zJ<|zE<|zZ (True) [q2_,q2_] (.inr rfl) ?_;exact⟨by kernel_rfl,by rw[hX,<-hx,Bf];rfl⟩
theorem rs_it0{k:Nat}{L:List Rw}(hL:∀r∈L,r.length=k)(hs:Rsc L)(hne:L≠[]):RS (it0 (zCo k L))=L:=by
 show rws (zCo k L) 0 (szT (zCo k L))=L;rcases Nat.eq_zero_or_pos k with h0|h0
 ·subst h0;have ht:zCo 0 L=[]:=CN.1 (zJ0 0 L);rw[ht];show[[]]=L;have h1:∀r∈L,r=[]:=λr hr=>CN.1 (hL r hr);match L,hne,h1,hs with
  |[r],_,h1,_=>rw[h1 r (by simp)]
  |r::u::L,_,h1,hs=>
   have h2:=(List.pairwise_cons.1 hs).1 u (by simp);rw[h1 r (by simp),h1 u (by simp)]at h2;exact absurd h2 (by decide)
 grind [trie_rows,dst_of]
def jn(m:Mk):List Rw:=if m.A.all (λa=>!a.2.isEmpty)then(S1 m).ys else[]
theorem jn_spec{m:Mk}(ha:AOk m):Rsc (jn m)/\∀y,y∈jn m↔(y.length=m.n/\∀a,a<m.A.length->prj m.vs a 0 y∈(m.A.getD a Al).2):=by
 unfold jn;split
 ·rename_i h;have hne:∀a∈m.A,a.2≠[]:=λa h1=>by
   grind
  obtain⟨J,h1,h2,h3⟩:=(zKp ha.v m.n 0 (S0 m) (by omega) (itS_at ha hne) (by simp)).ys;rw[show(S1 m).ys=J from h1];refine⟨h2,λy=>?_⟩;rw[h3];have hrs:∀a,a<m.A.length->RS ((S0 m).its.getD a Al)=(m.A.getD a Al).2:=λa h=>by
   obtain⟨_,r3,r4⟩:=ha.r _ (ha.get h);rw[show(S0 m).its.getD a Al=it0 (m.tr a)from zSr m h];grind [rs_it0]
  grind
 rename_i h;refine⟨B7.nil,λy=>⟨λh=>by simp at h,λ⟨_,k⟩=>?_⟩⟩;grind [Bo,Cv,AI,prj]
theorem blk_low{m:Mk}{ch:List Nat}{yb:List (List Va)->Nat->Option Bk}(S:Js){k:Nat}(hk:k<m.p):blk (qL m ch yb) S k=(yb S.ys k).getD (m.base k):=by
 unfold blk;rw[if_neg (show¬k=(qL m ch yb).jb from show¬k=m.p+2 by omega),if_neg (show¬k=(qL m ch yb).rb from show¬k=m.p by omega),zN8 (λi hi=>by show m.p+4+m.n+5*i+4≠k;omega)];show(yb S.ys k).getD (qblk m _ _ k)=_;unfold qblk;rw[if_pos hk]
theorem lay_low{m:Mk}{ch:List Nat}{yb:List (List Va)->Nat->Option Bk}(S:Js):lay (qL m ch yb) S=((Ar m.p).map λk=>(yb S.ys k).getD (m.base k))++(Cq m.p (4+m.n+5*m.A.length)).map (blk (qL m ch yb) S):=by
 have e:Ar (m.p+4+m.n+5*m.A.length)=Ar m.p++Cq m.p (4+m.n+5*m.A.length):=by
  rw[List.range_eq_range',List.range_eq_range',show m.p+4+m.n+5*m.A.length=m.p+(4+m.n+5*m.A.length) by omega,<-List.range'_append_1,BN]
 show(Ar (m.p+4+m.n+5*m.A.length)).map (blk (qL m ch yb) S)=_;grind [BZ,blk_low]
theorem low_nam{m:Mk}(hm:MOk m){ch:List Nat}{yb:List (List Va)->Nat->Option Bk}(hy:YbOk m ch yb)(ys:List (List Va)):∀b∈(Ar m.p).map (λk=>(yb ys k).getD (m.base k)),namB m.p b:=λb hb=>by
 obtain⟨k,hk,rfl⟩:=A6.1 hb;show namB m.p ((yb ys k).getD (m.base k));cases e:yb ys k with
 |none=>exact hm.bs k (BG.1 hk)
 |some b=>exact(hy.b ys k b e).2
theorem S2_le(m:Mk)(ha:AOk m)(hR:∀a∈m.A,a.2≠[])(M:Nat)(hM:∀a∈m.A,a.2.length+m.n<=M)(hC:(m.A.length+1)*(cE m.A.length M m.n)+1<=big):(S2 m m.A.length).s<=big:=by
 have hc0:1*cE m.A.length M m.n<=(m.A.length+1)*cE m.A.length M m.n:=B6 _ (by omega);have hc1:0+cE m.A.length M m.n+1<=big:=by omega
 have hc2:∀a,a<m.A.length->((S0 m).its.getD a Al).s+cE m.A.length M m.n<=big:=λa h=>by
  grind
 have hco:=zSz ha.v M m.n 0 (S0 m) (by omega) (itS_at ha hR) (by simp) (itS_sz ha hM) hc1 hc2;have hb2:sumS (S1 m).its m.A.length<=m.A.length*cE m.A.length M m.n:=zXb λj hj=>by
  grind
 grind
theorem run_a(m:Mk)(hm:MOk m)(ha:AOk m)(ch:List Nat)(yb:List (List Va)->Nat->Option Bk)(hy:YbOk m ch yb)(M K:Nat)(hM:∀a∈m.A,a.2.length+m.n<=M)(hY:YOk (qL m ch yb) K)(hK:(jn m).length<=K)(hC:(m.A.length+1)*(cE m.A.length M m.n)+1<=big)(st0:List Bk)(hp:st0.length=m.p)(hb:∀k,k<m.p->st0[k]?=Am (m.base k)):∃z:Nat,z<=big/\Acts As 40 [iD (m.n:Nat),atsD m.A,yCl m.cb] st0 ch (.tup [iD (z:Nat),iD 0]) ((Ar m.p).map λk=>(yb (jn m) k).getD (m.base k)):=by
 by_cases h:∀a∈m.A,a.2≠[]
 ·have hj:jn m=(S1 m).ys:=by
   grind [jn,Bo]
  rw[hj]at hK⊢;have hr:=run_k m hm ha ch yb hy h M K hM hY hK hC st0 hp hb;rw[lay_low]at hr;exact⟨_,S2_le m ha h M hM hC,hr.tail (N:=m.p) (by simp) (by omega) (low_nam hm hy _) (λj hj=>by simp only[refs,zAr,A3])⟩
 have hj:jn m=[]:=by
  grind [jn,Bo]
 have hx:∃e,e<m.A.length/\(m.A.getD e Al).2=[]/\∀j,j<e->(m.A.getD j Al).2≠[]:=by
  have h0:∃e,e<m.A.length/\(m.A.getD e Al).2=[]:=by
   refine Classical.byContradiction λhn=>h λa h1 h2=>hn ?_;obtain⟨i,hi,rfl⟩:=Cv h1;simp_all
  obtain⟨e,he⟩:=h0;induction e using Nat.strongRecOn with
  |ind e ih=>
   grind
 obtain⟨e,e1,e2,e3⟩:=hx;obtain⟨bs,hr⟩:=run0_k m hm ha e e1 e2 e3 ch st0 hp hb;have hst:st0=(Ar m.p).map λk=>(yb (jn m) k).getD (m.base k):=by
  apply Bn;intro i;rcases AF i m.p with hi|hi
  ·rw[hb i hi,Bq,CL hi,BK,hj];cases e:yb [] i with
   |none=>rfl
   |some b=>rw[hy.z i b e];rfl
  grind
 have hr2:=hr.tail (N:=m.p) hp (by omega) (by rw[hst];exact low_nam hm hy _) (λj hj=>by simp only[refs,zAr,A3]);grind
end
section
open Go.RowKit
structure At where
 V:List Int
 ar:Int
 R:List Rw
 deriving Inhabited
abbrev atC(a:At):List D:=[.row (a.V.map λz=>iD z) a.V.length,iD a.ar, .row (a.R.map rowV) a.R.length]
theorem zYx(a:At):(atC a).length=3:=rfl
def aStep(V:List Int)(i:Nat):Bool:=decide (i=0)||decide (V.getD (i-1) 0<V.getD i 0)
def ascB(V:List Int):Bool:=(Ar V.length).all (aStep V)
def inB(n:Int)(v:Int):Bool:=decide (0<=v/\v<n)
def atE(n:Int)(a:At):Int:=if ascB a.V=Ac then 16 else if a.V.all (inB n)=Ac then 3 else if(a.V.length:Int)≠a.ar then 6 else 0
def atL(n:Int):List At->Int
 |[]=>0
 |a::l=>if atE n a≠0 then atE n a else atL n l
def useP(n:Nat)(ats:List At)(W:List Int):List Bool:=(Ar n).map λv:Nat=>(ats.any λa=>decide ((v:Int)∈a.V))||decide ((v:Int)∈W)
theorem zRf(n:Nat)(ats:List At)(W:List Int):(useP n ats W).length=n:=by simp[useP]
theorem useP_0(n:Nat):useP n [] []=AH n false:=by
 apply BU (by simp[useP]);intro i h1 h2;simp[useP]
theorem useP_set(n:Nat)(ats:List At)(W:List Int)(v:Nat)(h:v<n):(useP n ats W).set v Ab=useP n ats (W++[(v:Int)]):=by
 apply BU (by simp[useP]);intro i h1 h2;rw[List.getElem_set];simp only[useP,List.getElem_map,List.getElem_range,Cu,B5];grind
theorem useP_snoc(n:Nat)(ats:List At)(a:At):useP n ats a.V=useP n (ats++[a]) []:=by
 grind [useP,BZ]
theorem atL_at{n:Int}:∀{L:List At}{i:Nat},(∀j,j<i->atE n (L.getD j Al)=0)->i<L.length->atE n (L.getD i Al)≠0->atL n L=atE n (L.getD i Al)
 |x::l,0,_,_,h=>by
  have h:atE n x≠0:=h;simp only[atL,if_pos h];rfl
 |x::l,i+1,h,hi,he=>by
  have h0:atE n x=0:=h 0 (by omega);simp only[atL];rw[if_neg (by rw[h0];exact λk=>k rfl)]
  have:=atL_at (n:=n) (L:=l) (i:=i) (λj hj=>by have:=h (j+1) (by omega);simpa using this) (by simpa using hi) (by simpa using he)
  rw[this];simp
theorem atL_0{n:Int}:∀{L:List At},(∀j,j<L.length->atE n (L.getD j Al)=0)->atL n L=0
 |[],_=>rfl
 |x::l,h=>by
  have h0:atE n x=0:=h 0 (by simp);simp only[atL];rw[if_neg (by rw[h0];exact λk=>k rfl)];exact atL_0 λj hj=>by have:=h (j+1) (by simpa using hj);simpa using this
end
section
open Go.RowKit
attribute [local irreducible] seqW awp zAa zAb zR Weak updS zAd retL Pure Acts rP setP setQ cP nP fr
set_option maxRecDepth 4096
abbrev boD(bs:List Bool):List D:=bs.map λb=>bD b
theorem headD_bo(bs:List Bool)(i:Nat)(h:i<bs.length):((boD bs).drop i).headD .unk=bD (bs.getD i Ab):=by simp_all
theorem indexF_c(bs:List Bool)(n:Nat)(hn:bs.length=n)(hb:n<=1000000):∃z:Int,(0<=z↔bs.contains Ac=Ab)/\Pure As 123 [.row (boD bs) n,bD Ac] [] (iD z):=by
 subst hn;by_cases hc:bs.contains Ac=Ab
 ·obtain⟨p,hp,hq,hm⟩:∃p,p<bs.length/\bs.getD p Ab=Ac/\∀j,j<p->bs.getD j Ab=true:=by
   have hf:∃p,p<bs.length/\bs.getD p Ab=false:=by
    rw[List.contains_iff_mem]at hc;obtain⟨p,h1,h2⟩:=CO.1 hc;exact⟨p,h1,by rw[AB,AI h1];exact h2⟩
   let p:=bs.findIdx (· ==Ac);have hlt:p<bs.length:=List.findIdx_lt_length_of_exists (by
    obtain⟨p,h1,h2⟩:=hf;exact⟨Ac,List.contains_iff_mem.1 hc,rfl⟩)
   refine⟨p,hlt,?_,λj hj=>?_⟩;all_goals grind
  refine⟨p,⟨λ_=>hc,λ_=>by omega⟩,?_⟩;refine zH zFt mixed Tryz.func123 rfl<|vAu<|zB<|vAe<|zF<|zN (λ(i:Nat)=>fr 19 [(0,Ai (boD bs)<|Aa bs),(1,bD Ac),(7,iD (Aa bs:Int)),(8,iD (i:Int))]) (λ(i:Nat)=>[]) (λ(i:Nat)=>p-i) (λ(i:Nat)=>i<=p) 0 ?_ ?_ ?_
  ·omega
  ·refine vk 0
  rintro i h1;have hx:=headD_bo bs i (by omega);have hne:boD bs≠[]:=zW;rcases AF i p with h2|h2
  ·rw[hm i h2]at hx;refine vAu<|zB<|vT ((i:Int)<↑(Aa bs))<|vKB<|vAe<|vA<|vr 4 (ix ↑i ↑(Aa bs) (boD bs≠[]))<|vp 14 i (boD bs)<|vr 1 (0<Aa (Ag i<|boD bs))<|vsh 15 hx<|veT<|vf<|zM<|zD<|vN<|zA rfl<|vr 2 (i6 (↑i+1))<|vnil<|zC<|⟨i+1,by omega,by omega,?_⟩;refine vk 0
  obtain rfl:i=p:=by omega
  rw[hq]at hx;refine vAu<|zB<|vT ((i:Int)<↑(Aa bs))<|vKB<|vAe<|vA<|vr 4 (ix ↑i ↑(Aa bs) (boD bs≠[]))<|vp 14 i (boD bs)<|vr 1 (0<Aa (Ag i<|boD bs))<|vsh 15 hx<|veT<|vt<|vAe<|zG<|zJ<|zE<|zE<|zJ<|zE<|vret (True)<|.inr rfl
 refine⟨-1,⟨λh=>by omega,λh=>absurd h hc⟩,?_⟩;have hall:∀j,j<bs.length->bs.getD j Ab=true:=λj hj=>by
  grind
 refine zH zFt mixed Tryz.func123 rfl<|vAu<|zB<|vAe<|zF<|zN (λ(i:Nat)=>fr 19 [(0,Ai (boD bs)<|Aa bs),(1,bD Ac),(7,iD (Aa bs:Int)),(8,iD (i:Int))]) (λ(i:Nat)=>[]) (λ(i:Nat)=>bs.length-i) (λ(i:Nat)=>i<=bs.length) 0 ?_ ?_ ?_
 ·omega
 ·refine vk 0
 rintro i h1;rcases AF i bs.length with h2|h2
 ·have hx:=headD_bo bs i h2;have hne:boD bs≠[]:=zW;rw[hall i h2]at hx;refine vAu<|zB<|vT ((i:Int)<↑(Aa bs))<|vKB<|vAe<|vA<|vr 4 (ix ↑i ↑(Aa bs) (boD bs≠[]))<|vp 14 i (boD bs)<|vr 1 (0<Aa (Ag i<|boD bs))<|vsh 15 hx<|veT<|vf<|zM<|zD<|vN<|zA rfl<|vr 2 (i6 (↑i+1))<|vnil<|zC<|⟨i+1,by omega,by omega,?_⟩;refine vk 0
 refine vAu<|zB<|vF ((i:Int)<(Aa bs:Int))<|vZ2<|vAe<|zG<|vret (True)<|.inr rfl
theorem zYl(bs:List Bool)(n:Nat)(hn:bs.length=n)(hb:n<=1000000):Pure As 75 [.row (boD bs) n,bD Ac] [] (bD (bs.contains Ac)):=by
 obtain⟨z,h1,h2⟩:=indexF_c bs n hn hb;cases hc:bs.contains Ac with
 |true=>
  refine zH zFt mixed Tryz.func75 rfl<|vAu<|vA<|vrT 2<|vc (h2)<|veT<|zG<|vre (True) (Aj<|BV<|decide (z>=(0:Int))) (.inr rfl) ?_;grind
 |false=>
  refine zH zFt mixed Tryz.func75 rfl<|vAu<|vA<|vrT 2<|vc (h2)<|veT<|zG<|vre (True) (Aj<|BV<|decide (z>=(0:Int))) (.inr rfl) ?_;grind
theorem repL_bo(n:Nat):repL n [.val (.bool Ac)]=boD (useP n [] []):=by simp_all [zGj,useP_0]
theorem set_bo(bs:List Bool)(v:Nat):(boD bs).set v (bD Ab)=boD (bs.set v Ab):=by simp
abbrev boB(bs:List Bool):Bk:=⟨boD bs,4,1,Ab,Ac, .plain⟩
abbrev atB(a:At):Bk:=⟨atC a,75,0,Ac,Ac, .plain⟩
set_option maxHeartbeats 4000000 in
theorem lfCheck_c(n:Nat)(ats:List At)(hn:n<=32)(hm:ats.length<=32)(hl:∀a∈ats,a.V.length<=2000000):Pure As 39 [iD (n:Nat), .row (ats.flatMap atC) ats.length] [] (iD (if atL n ats≠0 then atL n ats else if(useP n ats []).contains Ac then 22 else 0)):=by
 refine zH zFt mixed Tryz.func39 rfl<|vAu<|zB<|vA<|vew [] [(2,Ac)] (decide ((n:Int)<0)=Ac)<|vF ((n:Int)>(32:Int))<|vK<|zB<|vAe<|vF ((Aa ats:Int)>(32:Int))<|vK<|vA<|vr 3 ((0:Int)<=(n:Int)/\(n:Int)<=(n:Int)/\(↑(1:Nat):Int)*(n:Int)<=(281474976710656:Int)/\(n:Int)<=(281474976710656:Int)/\0<1/\1=1)<|vs 5 (Af 0 0 (Ax (n:Int)) (Ax (n:Int)*1) Ab) (Af 0 0 n n Ab)<|veT<|zB<|vAe<|zF<|zN (λ(i:Nat)=>fr 75 [(0,iD (n:Int)),(5,Af 0 0 n n Ab),(22,Ai (AE atC ats)<|Aa ats),(23,iD (Aa ats:Int)),(24,iD (i:Int))]) (λ(i:Nat)=>[boB<|useP n (ats.take i) []]) (λ(i:Nat)=>ats.length-i) (λ(i:Nat)=>i<=ats.length/\∀j,j<i->atE n (ats.getD j Al)=0) 0 ?_ ?_ ?_
 ·grind
 ·refine wkn (fr 75 [(0,iD (↑n:Int)),(4,iD 0),(5,Af 0 0 n n Ab),(22,Ai (AE atC ats) (Aa ats)),(23,iD (↑(Aa ats):Int)),(24,iD 0)]) [Ao (repL n [bD Ac]) 4 1 Ab Ac (kdOf Ac)] (zHs [(0,1),(5,1),(22,1),(23,1),(24,1)] (iD (↑n:Int)=iD (↑n:Int)/\Af 0 0 n n Ab=Af 0 0 n n Ab/\Ai (AE atC ats) (Aa ats)=Ai (AE atC ats) (Aa ats)/\iD (↑(Aa ats):Int)=iD (↑(Aa ats):Int)/\iD 0=iD (↑(0:Nat):Int)) 1 [] (by kernel_rfl) ⟨rfl,rfl,rfl,rfl,(by kernel_rfl)⟩ (by kernel_rfl) (λ_ _=>rfl) (by simp[updB,repL_bo,zEo]))
 rintro i ⟨h1,h2⟩;rcases AF i ats.length with h3|h3;case inr=>
  have hco:=zYl (useP n ats []) n (zRf ..) (by omega);rw[if_neg (by rw[atL_0 λj hj=>h2 j (by omega)];exact λk=>k rfl),AT h3];have htn:(boD (useP n ats [])).take n=boD (useP n ats []):=AT (by simp[zRf]);by_cases hc:(useP n ats []).contains Ac=Ab
  ·rw[hc]at hco;rw[if_pos hc];refine vAu<|zB<|vF ((i:Int)<↑(Aa ats))<|vZ2<|zB<|vA<|vrT 1<|vcl [Ai (Av n<|Ag 0<|AJ<|boB<|useP n ats []) n,bD Ac] [Ai (boD<|useP n ats []) n,bD Ac] (LeL.of_eq (by simp(disch:=omega) only[A8,htn])) (by exact hco)<|veT<|vt<|vAe<|zG<|zE<|vret (True)<|.inr rfl
  rw[if_neg hc];rw[Bool.not_eq_true]at hc;rw[hc]at hco;refine vAu<|zB<|vF ((i:Int)<↑(Aa ats))<|vZ2<|zB<|vA<|vrT 1<|vcl [Ai (Av n<|Ag 0<|AJ<|boB<|useP n ats []) n,bD Ac] [Ai (boD<|useP n ats []) n,bD Ac] (LeL.of_eq (by simp(disch:=omega) only[A8,htn])) (by exact hco)<|veT<|vf<|vK<|vAe<|zG<|vret (True)<|.inr rfl
 have hg2:=zDg zYx ats i h3;have hle:=zFp zYx ats i h3;have hne:=zEi zYx (by decide) ats;have hat:=atL_at h2 h3;have hvl:=hl _ (zAx ats Al i h3);have htk:=zBm ats i h3;generalize hA:ats.getD i Al=a at*;obtain⟨V,ar,R⟩:=a;simp only at hvl;refine vAu<|zB<|vT ((i:Int)<↑(Aa ats))<|vKB<|vA<|vr 2 (ix ↑i ↑(Aa ats) (AE atC ats≠[])/\3<=Aa (Ag (i*3)<|AE atC ats))<|vs 27 (Ay<|Av 3<|Ag (i*3)<|AE atC ats) (Ay<|atC<|At.mk V ar R)<|ve (Ac=Ac/\Ab=Ab/\3=3/\3<=3)<|zB<|vAe<|zF<|zN (λ(k:Nat)=>fr 75 [(0,iD n),(5,Af 0 0 n n Ab),(7,Ae 1 0),(8,iD (↑k+1)),(22,Ai (AE atC ats)<|Aa ats),(23,iD<|Aa ats),(24,iD i)]) (λ(k:Nat)=>[boB<|useP n (ats.take i) [],atB ⟨V,ar,R⟩]) (λ(k:Nat)=>V.length-k) (λ(k:Nat)=>(k=0\/k+1<=V.length)/\∀j,j<=k->j<V.length->aStep V j=Ab) 0 ?_ ?_ ?_
 ·exact⟨.inl rfl,λj h _=>by
   obtain rfl:j=0:=by omega
   rfl⟩
 ·refine vk 2
 rintro k ⟨k1,k2⟩;rcases AF (k+1) V.length with k3|k3
 ·have hneV:(V.map λz=>iD z)≠[]:=zW;have hx:=zB0 V (k+1) k3;have hx0:=zB0 V k (by omega);have hst:aStep V (k+1)=decide (V.getD k 0<V.getD (k+1) 0):=by simp[aStep]
  have hno:aStep V (k+1)=Ac->atE n ⟨V,ar,R⟩=16:=λh=>by
   grind [ascB,zT1,atE]
  have e1:((k+1:Nat):Int)-1=(k:Int):=by omega
  have e2:((k:Int)+1)=((k+1:Nat):Int):=by omega
  by_cases hs:V.getD k 0<V.getD (k+1) 0
  ·generalize V.getD (k+1) 0=v at*;generalize V.getD k 0=u at*;refine zB<|vAs<|ve (True/\0<3)<|vT ((↑(k+1):Int)<↑(Aa V))<|vKB<|zB<|vd [0,2,3,6,8,1,4,5,7,9,10,11]<|vr 3 (True/\i6 (↑(k+1)-1))<|vs 38 (iD (↑(k+1)-1)) (iD k)<|vr 4 (True/\0<3/\ix ↑k ↑(Aa V) (Ad (λ(z:Int)=>iD z) V≠[]))<|vp 39 k (Ad (λ(z:Int)=>iD z) V)<|vr 1 (0<Aa (Ag k<|Ad (λ(z:Int)=>iD z) V))<|vsh 40 hx0<|vr 2 (0<3/\ix ↑(k+1) ↑(Aa V) (Ad (λ(z:Int)=>iD z) V≠[]))<|vp 44 (k+1) (Ad (λ(z:Int)=>iD z) V)<|vr 1 (0<Aa (Ag (k+1)<|Ad (λ(z:Int)=>iD z) V))<|vsh 45 hx<|veT<|vF (u>=v)<|zM<|zD<|vN<|zA rfl<|vr 3 (i6 (↑(k+1)+1))<|vnil<|zC<|⟨k+1,⟨.inr k3,λj hj hjl=>?_⟩,by omega,?_⟩
   ·grind
   refine vk 2
  have he:atE n ⟨V,ar,R⟩=16:=hno (by rw[hst];exact decide_eq_false hs);rw[he]at hat;rw[if_pos (by rw[hat (by decide)];decide),hat (by decide)];generalize V.getD (k+1) 0=v at*;generalize V.getD k 0=u at*;refine zB<|vAs<|ve (True/\0<3)<|vT ((↑(k+1):Int)<↑(Aa V))<|vKB<|zB<|vd [0,2,3,6,8,1,4,5,7,9,10,11]<|vr 3 (True/\i6 (↑(k+1)-1))<|vs 38 (iD (↑(k+1)-1)) (iD k)<|vr 4 (True/\0<3/\ix ↑k ↑(Aa V) (Ad (λ(z:Int)=>iD z) V≠[]))<|vp 39 k (Ad (λ(z:Int)=>iD z) V)<|vr 1 (0<Aa (Ag k<|Ad (λ(z:Int)=>iD z) V))<|vsh 40 hx0<|vr 2 (0<3/\ix ↑(k+1) ↑(Aa V) (Ad (λ(z:Int)=>iD z) V≠[]))<|vp 44 (k+1) (Ad (λ(z:Int)=>iD z) V)<|vr 1 (0<Aa (Ag (k+1)<|Ad (λ(z:Int)=>iD z) V))<|vsh 45 hx<|veT<|vT (u>=v)<|vAe<|zG<|zJ<|zE<|zE<|zJ<|zE<|zJ<|zE<|zE<|zJ<|zE<|vret (True)<|.inr rfl
 have hasc:ascB V=true:=zGh λj hj=>k2 j (by omega) hj;refine zB<|vAs<|ve (True/\0<3)<|vF ((k:Int)+(1:Int)<(Aa V:Int))<|vZ2<|zB<|vA<|ve (True/\0<3)<|zF<|zN (λ(j:Nat)=>fr 75 [(0,iD n),(5,Af 0 0 n n Ab),(7,Ae 1 0),(22,Ai (AE atC ats)<|Aa ats),(23,iD<|Aa ats),(24,iD i),(48,Ai (Ad (λ(z:Int)=>iD z) V)<|Aa V),(49,iD<|Aa V),(50,iD j)]) (λ(j:Nat)=>[boB<|useP n (ats.take i)<|V.take j,atB ⟨V,ar,R⟩]) (λ(j:Nat)=>V.length-j) (λ(j:Nat)=>j<=V.length/\∀t,t<j->t<V.length->inB n (V.getD t 0)=Ab) 0 ?_ ?_ ?_
 ·grind
 ·refine vk 2
 clear k1 k2 k3 k;rintro j ⟨j1,j2⟩;rcases AF j V.length with j3|j3
 ·have hneV:(V.map λz=>iD z)≠[]:=zW;have hx:=zB0 V j j3;have htv:V.take (j+1)=V.take j++[V.getD j 0]:=zBm V j j3;have hno:inB n (V.getD j 0)=Ac->atE n ⟨V,ar,R⟩=3:=λh=>by
   unfold atE;grind
  by_cases hs:0<=V.getD j 0/\V.getD j 0<n
  ·obtain⟨v,hv⟩:∃v:Nat,V.getD j 0=v:=⟨(V.getD j 0).toNat,by omega⟩;rw[hv]at hx htv hs hno;have hin:inB n (V.getD j 0)=true:=by rw[hv];exact decide_eq_true hs
   have hup:=useP_set n (ats.take i) (V.take j) v (by omega);rw[<-htv]at hup;have hsb:=set_bo (useP n (ats.take i) (V.take j)) v;rw[hup]at hsb;have hul:=zRf n (ats.take i) (V.take j);refine vAu<|zB<|vT ((j:Int)<↑(Aa V))<|vKB<|vA<|vr 1 (ix ↑j ↑(Aa V) (Ad (λ(z:Int)=>iD z) V≠[]))<|vp 52 j (Ad (λ(z:Int)=>iD z) V)<|vr 1 (0<Aa (Ag j<|Ad (λ(z:Int)=>iD z) V))<|vsh 53 hx<|veT<|zB<|vA<|vew [] [(2,Ac)] (decide ((v:Int)<0)=Ac)<|vF ((v:Int)>=(n:Int))<|vK<|zA rfl<|vr 3 ((0:Int)<=(v:Int)/\(v:Int)<↑n)<|vo 63 0 v<|vr 1 (Bk.fz (boB<|useP n (Av i ats)<|Av j V)=Ac/\Ab=Ab/\1=1/\v+1<=Aa (AJ<|boB<|useP n (Av i ats)<|Av j V)/\¬0∈[])<|vb 0 (Ao (setAt (AJ<|boB<|useP n (Av i ats)<|Av j V) v [bD Ab]) (A9<|boB<|useP n (Av i ats)<|Av j V) (A_<|boB<|useP n (Av i ats)<|Av j V) Ab Ac<|AO<|boB<|useP n (Av i ats)<|Av j V) (Ao (boD<|useP n (Av i ats)<|Av (j+1) V) (4:TypeId) 1 Ab Ac Aq)<|vnil<|zD<|vN<|zA rfl<|vr 2 (i6 (↑j+1))<|vnil<|zC<|⟨j+1,⟨by omega,λt ht htl=>?_⟩,by omega,?_⟩
   ·grind
   refine vk 2
  have he:=hno (decide_eq_false hs);rw[he]at hat;rw[if_pos (by rw[hat (by decide)];decide),hat (by decide)];generalize V.getD j 0=v at*;by_cases hv0:v<0
  ·refine vAu<|zB<|vT ((j:Int)<(Aa V:Int))<|vKB<|vA<|vr 1 (ix (j:Int) (Aa V:Int) (Ad (λ(z:Int)=>iD z) V≠[]))<|vp 52 (j) (Ad (λ(z:Int)=>iD z) V)<|vr 1 (0<Aa (Ag j<|Ad (λ(z:Int)=>iD z) V))<|vsh 53 hx<|veT<|zB<|vA<|vew [] [(2,Ab)] (decide (v<0)=Ab)<|vt<|vAe<|zG<|zE<|zJ<|zE<|zE<|zJ<|zE<|zJ<|zE<|zE<|zJ<|zE<|vret (True)<|.inr rfl
  have hvn:(n:Int)<=v:=by omega
  refine vAu<|zB<|vT ((j:Int)<↑(Aa V))<|vKB<|vA<|vr 1 (ix ↑j ↑(Aa V) (Ad (λ(z:Int)=>iD z) V≠[]))<|vp 52 j (Ad (λ(z:Int)=>iD z) V)<|vr 1 (0<Aa (Ag j<|Ad (λ(z:Int)=>iD z) V))<|vsh 53 hx<|veT<|zB<|vA<|vew [] [(2,Ac)] (decide (v<0)=Ac)<|vT (v>=(n:Int))<|vAe<|zG<|zE<|zJ<|zE<|zE<|zJ<|zE<|zJ<|zE<|zE<|zJ<|zE<|vret (True)<|.inr rfl
 have hrng:=zEk (p:=inB n) (d:=0) j3 j2;have hus:useP n (ats.take i) V=useP n (ats.take i++[⟨V,ar,R⟩]) []:=useP_snoc n _ ⟨V,ar,R⟩;rw[AT j3,hus];have hty:=zZ1 ar (R.map rowV) R.length;have htk2:ats.take (i+1)=ats.take i++[⟨V,ar,R⟩]:=htk;rw[<-htk2];by_cases hs:(V.length:Int)=ar
 ·subst hs;have he:atE n ⟨V,V.length,R⟩=0:=by
   grind [atE]
  refine vAu<|zB<|vF ((j:Int)<↑(Aa V))<|vZ2<|zB<|vd [0,3,1,2,4,5,6]<|vr 5 (True/\True/\0<3/\2<=2)<|vc hty<|veT<|zG4 (t:=(Aa V:Int)!=(Aa V:Int)) (by kernel_rfl) (by simp)<|zM<|zD<|vN<|zA rfl<|vr 2 (i6 (↑i+1))<|vnil<|zC<|⟨i+1,⟨by omega,λt ht=>?_⟩,by omega,?_⟩
  ·grind
  refine vk 1
 have he:atE n ⟨V,ar,R⟩=6:=by
  grind [atE]
 rw[he]at hat;rw[if_pos (by rw[hat (by decide)];decide),hat (by decide)];refine vAu<|zB<|vF ((j:Int)<↑(Aa V))<|vZ2<|zB<|vd [0,3,1,2,4,5,6]<|vr 5 (True/\True/\0<3/\2<=2)<|vc hty<|veT<|zFm (t:=(Aa V:Int)!=ar) (by kernel_rfl) (by simpa using by omega)<|vAe<|zG<|zJ<|zE<|zE<|zJ<|zE<|vret (True)<|.inr rfl
def Tcu(N:Nat)(i:FuncId->Bool):Par:=⟨i,λ_ _=>AM,λk=>decide (k<N),λ_=>Ac,λ_=>Ac⟩
theorem Tcu_ok(N:Nat)(i:FuncId->Bool):zBi As (Tcu N i):=by intro t n f h;cases h
abbrev cuB(k:Nat):Bk:=⟨[.val (.int .u64 (k:Nat))],52,0,Ac,Ac, .plain⟩
def mkC(n:Nat)(A:List (List Nat×List Rw)):Mk:=⟨1,n,0,A,λ_=>cuB 0⟩
def ybC(ys:List (List Va))(k:Nat):Option Bk:=if k=0 then Am (cuB ys.length)else AM
theorem cu_nam(k:Nat):namB 1 (cuB k):= .inr λj _=>rfl
theorem mkC_ok(n:Nat)(A:List (List Nat×List Rw)):MOk (mkC n A):=⟨λk _=>cu_nam 0,Nat.zero_lt_one⟩
theorem ybC_ok(n:Nat)(A:List (List Nat×List Rw)):YbOk (mkC n A) [] ybC where
 c k hk:=by cases hk
 cb h:=by cases h
 b ys k b h:=by
  unfold ybC at h
  split at h
  ·rename_i e
   subst e
   cases h
   exact⟨Nat.zero_lt_one,cu_nam _⟩
  cases h
 z k b h:=by
  unfold ybC at h
  split at h
  ·cases h;rfl
  cases h
section
variable {n : Nat} {A : List (List Nat × List Rw)}
abbrev LC(n:Nat)(A:List (List Nat×List Rw)):Lay:=qL (mkC n A) [] ybC
theorem lc_c(S:Js):(lay (LC n A) S)[0]?=Am (cuB S.ys.length):=by
 rw[zHk (by show 0<1+4+n+5*A.length;omega)];unfold blk;rw[if_neg (show¬0=(LC n A).jb from show¬0=1+2 by omega),if_neg (show¬0=(LC n A).rb from show¬0=1 by omega),zN8 (λi hi=>by show 1+4+n+5*i+4≠0;omega)];rfl
theorem lc_set(S:Js):(lay (LC n A) S).set 0 (cuB (S.ys.length+1))=lay (LC n A) {S with ys:=S.ys++[S.row]}:=by
 refine zSl (λj hj=>?_) ?_
 ·have e:(LC n A).yb S.ys j=(LC n A).yb (S.ys++[S.row]) j:=by
   show ybC _ _=ybC _ _;unfold ybC;rw[if_neg hj,if_neg hj]
  unfold blk;dsimp only;rw[e]
 have h:=lc_c (n:=n) (A:=A) {S with ys:=S.ys++[S.row]};rw[zHk (by show 0<1+4+n+5*A.length;omega)]at h;have h:=Cf.inj h;rw[h];show cuB (S.ys++[S.row]).length=_;rw[AU];rfl
theorem count1_a(hL:LOk (LC n A)):YOk (LC n A) 18446744073709551615:=λS hsn hsr hsk=>by
 have hlc:=lc_c (n:=n) (A:=A) S;have hs:=lc_set (n:=n) (A:=A) S;generalize S.ys.length=c at*;have m1:=zDu (k:= .u64) (x:=(c:Int)+1) (by simp only[inK];omega);show Acts As 41 [.osl (LC n A).rb 0 n (n*3) Ab, .own 0 0] (lay (LC n A) S) [] (bD Ab) _;rw[<-hs];refine zAz (Tcu_ok (LC n A).N λ_=>Ac) mixed Tryz.func41 rfl (λk hk=>.inl<|decide_eq_true (by rwa[zBc]at hk))<|vA<|zAf [0] [(3,bD Ac)] ?_;refine vA<|zAq (Ao [Aj<|Ak A5 (c:Int)] 52 0 Ac Ac Aq) (0) (Bh 1 1) (Aj<|Ak A5 (c:Int)) hlc (by simp) ?_;refine zT 1 [] [] (u6 (↑c+1)) [(5,Aj<|Ak A5 ((c:Int)+(1:Int)))] ?_;refine zCh (Ao [Aj<|Ak A5 (c:Int)] 52 0 Ac Ac Aq) (0) (Ac=Ac/\Ab=Ab/\1=1/\1<=1) (Ao [Aj<|Ak A5 ((c:Int)+(1:Int))] 52 0 Ac Ac Aq) hlc ⟨(by kernel_rfl),⟨(by kernel_rfl),(by omega)⟩⟩ ?_;refine zAf [1,4,5] [] ?_;refine vA<|zAf [] [(3,bD Ab)] ?_;refine zG<|zZ (True) [Aj<|BV Ab] (.inr rfl) ?_;exact⟨rfl,rfl⟩
theorem lcount_c(hao:AOk (mkC n A))(M:Nat)(hM:∀a∈A,a.2.length+n<=M)(hj:(jn (mkC n A)).length<18446744073709551615)(hC:(A.length+1)*(cE A.length M n)+1<=big)(hchk:Pure As 39 [iD (n:Nat),atsD A] [] (iD 0)):∃z:Nat,Pure As 19 [iD (n:Nat),atsD A] [] (.tup [natD (jn (mkC n A)).length,iD (z:Nat),iD 0]):=by
 have hm:=mkC_ok n A;have hy:=ybC_ok n A;obtain⟨z,hz,hrun⟩:=run_a (mkC n A) hm hao [] ybC hy M _ hM (count1_a (qL_ok hm hao hy)) (Nat.le_of_lt hj) hC [cuB 0] rfl (λk hk=>by
  have hk:k<1:=hk;obtain rfl:k=0:=by omega
  rfl)
 refine⟨z,?_⟩;have hrun:Acts As 40 [iD (n:Nat),atsD A, .clo (.func 41) [] [.own 0 0]] [cuB 0] [] (.tup [iD (z:Nat),iD 0]) [cuB (jn (mkC n A)).length]:=hrun;generalize (jn (mkC n A)).length=c at*;have hof:=of_c c (by omega);refine zH (Tcu_ok 0 λf=>f==40) mixed Tryz.func19 rfl<|vAu<|zB<|vA<|vrT 2<|vc (hchk)<|veT<|vAe<|vf<|vK<|vA<|ve (Ac=Ac/\Ab=Ab/\1=1/\1<=1)<|vA<|vrT 3<|vnt [Ao [Aj<|Ak A5 (0:Int)] 52 0 Ac Ac Aq]<|zAl [] [] [iD (n:Int),Ai (AE atN A)<|Aa A,AP (Fn.func 41) [] [Ae 0 0]] [iD (n:Int),Ai (AE atN A)<|Aa A,AP (Fn.func 41) [] [Ae 0 0]] (Bg _) (by exact hrun) ?_;refine v0s<|ve (0<2/\1<2)<|zB<|vAe<|vf<|vK<|vA<|vr 1 (0<1)<|vc hof<|veT<|zG<|vret (True)<|.inr rfl
end
end
section
open Go.RowKit Go.Shelf Go.Lib
theorem zT9{P:Program}{f:FuncId}{us:List Value}{v:Value}(h:∀I w,Gl I w->Calls P f us.toArray w λe w'=>e= .returned v/\w=w'):Pure P f (us.map .val) [] (.val v):=by
 intro I w vs hr hi hg;rw[zHy us vs hr];refine(h I w hg).mono ?_;rintro e w' ⟨rfl,rfl⟩;exact⟨v,I,noB,rfl,Ext.refl _,hi,Fix.refl _ _,λ_ _ h=> .inl h,λ_ _ _ h=>(by cases h),λ_ _ _ h=>(by cases h),λ_ _ _ _ _ h=>(by cases h),λ_ _ _ _ _ h=>(by cases h),λ_ _ h=>(by cases h),by simp only[Rel],by simp⟩
section
variable {P : Program} {I : Im} {w : World} {β : Be} {st : List Bk}
theorem zQd:∀(ys xs pre zs:List D),xs.length=ys.length->setAt (pre++xs++zs) pre.length ys=pre++ys++zs
 |[],xs,pre,zs,hl=>by
  obtain rfl:xs=[]:=List.eq_nil_of_length_eq_zero (by simpa using hl);rfl
 |y::ys,[],pre,zs,hl=>by simp at hl
 |y::ys,x::xs,pre,zs,hl=>by
  simp only[setAt];have e1:(pre++x::xs++zs).set pre.length y=(pre++[y])++xs++zs:=by simp
  rw[e1]
  have:=zQd ys xs (pre++[y]) zs (by simpa using hl)
  grind
theorem acts_fill{f:FuncId}{k n:Nat}{e:Bk}{wh:Bool}{us vs:List Value}{zMf:List D}{more:List Value}(hmore:∀I w β vs,RelT I w β zMf vs->vs=more)(he:st[k]?=Am e)(hkd:e.kd.isMap=Ac)(hf:e.fz=Ac)(hc:e.cells.take n=us.map .val)(hn:n<=e.cells.length)(hu:us.length=n)(hv:vs.length=n)(h1:∀v∈vs,v.oneCell'=Ab)(hpos:0<n)
  (h:∀b c w,(∀j,j<n->w.cell? ⟨b,0+j,AM⟩=Am (us.getD j undef))->(∀j,j<n->w.frozen? ⟨b,0+j,AM⟩=Ac)->n<=c->Calls P f (#[.slice (Am ⟨b,0,AM⟩) n c]++more.toArray) w λx w'=>x= .returned (.tuple #[])/\∃q,w'=(w.drewN q).setCells b 0 vs):
  Acts P f (.osl k 0 n n wh::zMf) st [] (.val (.tuple #[])) (st.set k {e with cells:=vs.map .val++e.cells.drop n}):=by
 intro β I w xs hr hsr hinj hfz hdom hi hg;simp only[RelT]at hr;obtain⟨v,ys,rfl,hr,hys⟩:=hr;obtain rfl:=hmore _ _ _ _ hys;simp only[Rel]at hr;rcases hr with⟨e0,_,rfl⟩|⟨e0,_,_,a,c,rfl,_⟩|⟨b,c,cap,hb,rfl,k1,k2,k3⟩
 ·omega
 ·omega
 have hs0:Sim β I w ([]:List D) st ({tmps:=#[],defers:=[]}:Act).tmps.toList:=⟨by simp only[RelT],hsr,hinj,hfz,hdom,hi,hg⟩;obtain⟨e',he',hown⟩:=hsr k b c hb;rw[he]at he';cases he';obtain⟨cur,c1,c2,c3,c4⟩:=hown.c hkd;have hul:(cur.take n)=us:=by
  have hx:RelL I w (if e.nob then noB else β) (e.cells.take n) (cur.take n):=by
   refine RelL.of_get (by simp;omega) λi d v hd hv=>?_;rw[BI]at hd hv;split at hd
   ·rename_i hi;rw[if_pos hi]at hv;obtain⟨v',k1,k2,k3⟩:=c3.get i d hd;grind
   cases hd
  rw[hc]at hx;exact zT4 hx
 have hpre:=(hs0.put (off:=0) (cs:=e.cells) (vs:=cur.take e.cells.length) (ks:=[]) hb he hf hkd (by simp) (RelL.mono (zAt _) _ _ (BeLe.refl _) _ _ c3) (by simp) AM undef).2.2;have hlc:(cur.take e.cells.length).length=e.cells.length:=c3.length.symm;have e1:(#[Value.slice (Am ⟨b,0,AM⟩) n cap]++ys.toArray)=(Value.slice (Am ⟨b,0,AM⟩) n cap::ys).toArray:=by apply Array.ext';simp
 rw[<-e1];refine(h b cap w (λj hj=>?_) (λj hj=>(hpre j (by omega)).2) k1).mono ?_
 ·have hlt:j<cur.length:=by omega
  rw[<-hul,AB,BI,if_pos hj,AI hlt];simp[World.cell?,c1,hlt]
 rintro x w' ⟨rfl,q,rfl⟩;obtain⟨s1,s2,s3⟩:=(hs0.drew q).put (off:=0) (cs:=vs.map .val) (vs:=vs) (ks:=[]) hb he hf hkd (by simp) (zLw h1) (by simp;omega) AM undef;have hset2:setAt e.cells 0 (vs.map .val)=vs.map .val++e.cells.drop n:=by
  have:=zQd (vs.map .val) (e.cells.take n) [] (e.cells.drop n) (by simp;omega)
  grind [List.take_append_drop]
 rw[hset2]at s1;exact⟨_,β,_,rfl,s1.imb,(Stp.drew β I w q).trans s2,λ_ _ _ h=>h,s1.sr,s1.inj,s1.fz,s1.dom,by simp only[Rel]⟩
end
theorem small_c(n:Nat)(h:n<100):Pure As 199 [.val (.int .i64 n)] [] (.val (.string ⟨(AG n).toArray⟩)):=
 zC4 (us:=[.int .i64 n]) λw=>(Tryz.internal_strconv_small n h w).mono λe w' h=>⟨h.1,h.2.symm⟩
theorem zXs(u:Nat)(h1:1<=u)(h2:u<18446744073709551616):Pure As 200 [.val (.int .u64 u)] [] (.val (.int .i64 (AL u))):=by
 refine zT9 (us:=[.int .u64 u]) λI w hG=>?_;obtain⟨hnd,h19⟩:=Lib.numDigits_eq u h1 h2;have hL:BJ u<=64:=Lib.bitLen_le u 64 (Ba _) h2;have hcell:w.cell? ⟨1,Lib.l10 (BJ u),AM⟩=Am (.int .u64 ((10^Lib.l10 (BJ u):Nat):Int)):=by
  refine(hG (1,Lib.pow10Tab.map λz=>Ak .u64 z) (by simp[globT]) (Lib.l10 (BJ u)) _ ?_).2;rw[Bq,<-Lib.pow10Tab_at _ (by omega)];rw[AB,AI (by rw[Lib.pow10Tab_length];omega)];rfl
 have hto:((u:Int)).toNat=u:=by omega
 generalize hq:Lib.l10 (BJ u)=q at hnd h19 hcell;generalize hT:10^q=T at hnd hcell;have Hnd:=Lib.hid hnd;clear hnd;clear hG;go_enter Tryz.func200,Tryz.ntmps200;go_wp2_with fail;refine(Tryz.bits_Len64 (u:Int) w (by omega) (by omega)).mono ?_;rintro e w' ⟨rfl,rfl⟩;rw[hto];go_wp2_with fail;refine(Tryz.internal_strconv_log10Pow2 _ hL _).mono ?_;rintro e w' ⟨rfl,rfl⟩;rw[hq];go_wp2_with fail;all_goals (
  refine(Tryz.internal_strconv_bool2_int _ _).mono ?_;rintro e w' ⟨rfl,rfl⟩)
 all_goals go_wp2_with fail
 all_goals go_ret
 all_goals (
  refine⟨?_,rfl⟩;have hnd:=Hnd.out;congr 2;split at hnd<;>simp_all<;>omega)
open Go.Sort in
theorem zX5{st:List Bk}{k u n:Nat}{e:Bk}{wh:Bool}(hn:n=AL u)(he:st[k]?=Am e)(hkd:e.kd.isMap=Ac)(hf:e.fz=Ac)(hc:e.cells.take n=AH n (.val (.int .u8 0)))(hl:n<=e.cells.length)(hu:u<18446744073709551616):
  Acts As 201 [.osl k 0 n n wh, .val (.int .u64 u)] st [] (.val (.tuple #[])) (st.set k {e with cells:=(Cx (AG u)).map .val++e.cells.drop n}):=by
 have hpos:0<n:=by rw[hn];unfold AL;split<;>omega
 have hdl:(AG u).length=n:=by rw[CP,hn]
 refine acts_fill (us:=AH n (.int .u8 0)) (more:=[.int .u64 u]) (λI w β vs h=>?_) he hkd hf (by rw[hc,List.map_replicate]) hl (by simp) (by rw[Lib.byteCells_length,hdl]) (λv hv=>?_) hpos (λb c w h1 h2 h3=>?_)
 ·exact zHy [.int .u64 u] vs h
 ·obtain⟨x,_,rfl⟩:=A6.1 hv;rfl
 have hH:Holds (λ(b:UInt8)=>Ak .u8 (b.toNat:Int)) w b 0 (CQ n (0:UInt8)):=λj hj=>by
  simp_all
 have main:=Tryz.internal_strconv_formatBase10 b 0 c u (CQ n (0:UInt8)) w hH (by
  rw[CR,hn];exact Lib.lt_pow_nDigits u) hu (by
  rw[CR,hn]
  have:=CS u hu;omega)
 rw[CR]at main;refine main.mono ?_;rintro x w' ⟨rfl,q,v',dk,rfl,hfm⟩;refine⟨rfl,q,?_⟩;have hsz:=hfm.size;have hdk:dk.toList=AG u:=by
  apply BU
  ·grind
  intro j a b';subst hn;rw[Lib.row_is_numeral hfm j b',Array.getElem_toList,getElem!_pos dk j (by simpa using a)]
 have:=Lib.putRow_eq_setCells (λ(b:UInt8)=>Ak .u8 (b.toNat:Int)) w b 0 (CQ n (0:UInt8)) dk.toList q hH (by simp[hsz])
 rw[hdk]at this;rw[show(AG u).toArray=dk by rw[<-hdk]]at this;exact this
end
section
open Go.RowKit
attribute [local irreducible] seqW awp zAa zAb zR Weak updS zAd retL Pure Acts rP setP setQ cP nP fr
set_option maxRecDepth 4096
abbrev byB(l:List UInt8):Bk:=⟨zAp l,5,1,Ab,Ac, .plain⟩
def Ta:Par:=⟨λf=>f==163||f==177||f==193||f==201,λ_ _=>AM,λk=>k==1,λ_=>Ac,λ_=>Ac⟩
theorem Ta_ok:zBi As Ta:=by intro t n f h;cases h
theorem zDq(a b:List UInt8):zAp a++zAp b=zAp (a++b):=by simp[zAp]
theorem zBk(a:List UInt8):(zAp a).length=a.length:=by simp[zAp]
theorem zJq(l:List UInt8):(Cx l).map Aj=zAp l:=by simp[Cx,zAp]
theorem zPm(l:List UInt8):(zAp l).map zL8=zAp l:=by simp[zAp,zL8]
theorem take_bytes(l:List UInt8)(r:List D)(n:Nat)(h:l.length=n):(zAp l++r).take n=zAp l:=by
 grind [zBk,AT]
theorem bs_dl(l:List UInt8):(bs l).data.toList=l:=rfl
theorem dd_len(u:Nat)(h:u<18446744073709551616):(AG u).length<=20:=by
 rw[CP];exact CS u h
set_option maxHeartbeats 2000000 in
theorem zWy(l:List UInt8)(u:Nat)(n:Nat)(hn:l.length=n)(hl:n<=1000000000)(hu:u<18446744073709551616):Acts As 193 [.osl 0 0 n n Ab, .val (.int .u64 u), .val (.int .i64 10)] [byB l] [0] (.osl 0 0 (n+(AG u).length) (n+(AG u).length) Ab) [byB (l++AG u)]:=by
 subst hn;have hd:=dd_len u hu;by_cases h1:u<100
 ·refine zAz Ta_ok mixed Tryz.func193 rfl (by intro k hk;match k,hk with|0,_=>exact .inr (by simp)|1,_=>exact .inl rfl)<|vAu<|zB<|vAe<|vt<|zB<|vAe<|vT ((u:Int)<(100:Int))<|vA<|vr 3 (i6 (u:Int))<|vc (small_c u h1)<|vr 1 (Bi (byB l)=Ab/\Aa (AJ<|byB l)=Aa l*1/\Aa l=Aa l*1/\A9 (byB l)=5/\A_ (byB l)=1/\Aa (zAp<|Bt<|Bu<|AY<|BO<|AG u)=Aa (Bt<|Bu<|AY<|BO<|AG u)*1/\0<1/\0<1/\5=5/\(Aa l+Aa (Bt<|Bu<|AY<|BO<|AG u))*1<=140737488355328/\1=1/\AW (AO<|byB l)=Ac/\(Ac=Ac\/AX (AO<|byB l)=Ab)) (vb 0 (Ao (AJ (byB l)++zAp (Bt<|Bu<|AY<|BO<|AG u)) (A9<|byB l) (A_<|byB l) Ab Ac<|AO<|byB l) (Ao (zAp (l++AG u)) (5:TypeId) 1 Ab Ac Aq) (hd:=by simp(disch:=omega) only[zDq])<|vrT 1<|vs 6 (Af 0 0 (Aa l+Aa (Bt<|Bu<|AY<|BO<|AG u)) ((Aa l+Aa (Bt<|Bu<|AY<|BO<|AG u))*1) Ab) (Af 0 0 (Aa l+Aa (AG u)) (Aa l+Aa (AG u)) Ab)<|veT<|zG<|zE<|zE ?_) ⟨(by kernel_rfl),⟨(by simp[zBk]),⟨(by omega),⟨(by kernel_rfl),⟨(by kernel_rfl),⟨(by simp[zBk]),⟨(by omega),⟨(by omega),⟨(by kernel_rfl),⟨(by(simp;omega)),⟨(by kernel_rfl),⟨(by kernel_rfl),(by simp)⟩⟩⟩⟩⟩⟩⟩⟩⟩⟩⟩⟩;refine zZ (True) [Af 0 0 (Aa l+Aa (AG u)) (Aa l+Aa (AG u)) Ab] (.inr rfl) ?_;exact⟨by kernel_rfl,by kernel_rfl⟩
 have h2:AL u<=20:=CS u hu;have hz:∀n,n<=20->(AH 24 (Aj (.int .u8 0))).take n=AH n (.val (.int .u8 0)):=λn h=>by rw[List.take_replicate,Nat.min_eq_left (by omega)]
 have hx:=CP u;have hk:∀r,(zAp (AG u)++r).take (AL u)=zAp (AG u):=λr=>take_bytes _ r _ hx;have main:Acts As 193 [.osl 0 0 l.length l.length Ab, .val (.int .u64 u), .val (.int .i64 10)] [byB l] [0] (.osl 0 0 (l.length+(AG u).length) (l.length+(AG u).length) Ab) [byB (l++AG u),⟨Ad (zAo 0) (zAp (AG u)++Ag (AL u) (AH 24 (.val (.int .u8 0)))),314,0,Ac,Ac, .plain⟩]:=by
  refine zAz Ta_ok mixed Tryz.func193 rfl (by intro k hk;match k,hk with|0,_=>exact .inr (by simp)|1,_=>exact .inl rfl)<|vAu<|zB<|vAe<|vt<|zB<|vAe<|vF ((u:Int)<(100:Int))<|vK<|vAe<|vA<|vrT 1<|vc (zXs u (by omega) hu)<|veT<|vA<|vr 2 (True/\(0:Int)<=(↑(AL u):Int)/\0<1/\Ax (↑(AL u):Int)<=24/\24<=maxLen)<|vs 21 (Af 1 0 (Ax (↑(AL u):Int)) (Ax (↑(AL u):Int)*1) Ac) (Af 1 0 (AL u) (AL u) Ac)<|vrT 1<|vnt [byB l,Ao [Aj<|Ak Au (0:Int),Aj<|Ak Au (0:Int),Aj<|Ak Au (0:Int),Aj<|Ak Au (0:Int),Aj<|Ak Au (0:Int),Aj<|Ak Au (0:Int),Aj<|Ak Au (0:Int),Aj<|Ak Au (0:Int),Aj<|Ak Au (0:Int),Aj<|Ak Au (0:Int),Aj<|Ak Au (0:Int),Aj<|Ak Au (0:Int),Aj<|Ak Au (0:Int),Aj<|Ak Au (0:Int),Aj<|Ak Au (0:Int),Aj<|Ak Au (0:Int),Aj<|Ak Au (0:Int),Aj<|Ak Au (0:Int),Aj<|Ak Au (0:Int),Aj<|Ak Au (0:Int),Aj<|Ak Au (0:Int),Aj<|Ak Au (0:Int),Aj<|Ak Au (0:Int),Aj<|Ak Au (0:Int)] 314 0 Ac Ac Aq]<|zAl [] [] [Af 1 0 (AL u) (AL u) Ac,Aj<|Ak A5 (u:Int)] [Af 1 0 (AL u) (AL u) Ac,Aj<|Ak A5 (u:Int)] (Bg _) (by exact zX5 (k:=1) rfl rfl rfl rfl (hz _ h2) (by simp;omega) hu) ?_;refine v0s<|veT<|vA<|vr 3 (True/\(0:Int)<=(↑(AL u):Int)/\0<1/\Ax (↑(AL u):Int)<=24/\24<=maxLen)<|vs 26 (Af 1 0 (Ax (↑(AL u):Int)) (Ax (↑(AL u):Int)*1) Ac) (Af 1 0 (AL u) (AL u) Ac)<|vr 1 (Ab=Ab/\Aa (zAp l)=Aa l*1/\Aa l=Aa l*1/\5=5/\1=1/\Aa (Ad zL8<|Av (AL u)<|Ag 0 (Ad Aj (Cx<|AG u)++Ag (AL u) [Aj<|Ak Au 0,Aj<|Ak Au 0,Aj<|Ak Au 0,Aj<|Ak Au 0,Aj<|Ak Au 0,Aj<|Ak Au 0,Aj<|Ak Au 0,Aj<|Ak Au 0,Aj<|Ak Au 0,Aj<|Ak Au 0,Aj<|Ak Au 0,Aj<|Ak Au 0,Aj<|Ak Au 0,Aj<|Ak Au 0,Aj<|Ak Au 0,Aj<|Ak Au 0,Aj<|Ak Au 0,Aj<|Ak Au 0,Aj<|Ak Au 0,Aj<|Ak Au 0,Aj<|Ak Au 0,Aj<|Ak Au 0,Aj<|Ak Au 0,Aj<|Ak Au 0]))=AL u*1/\0<1/\0<1/\5=5/\(Aa l+AL u)*1<=140737488355328/\1=1/\AW Aq=Ac/\(Ac=Ac\/AX Aq=Ab)) ?_ ⟨(by kernel_rfl),⟨(by simp[zBk]),⟨(by omega),⟨(by kernel_rfl),⟨(by kernel_rfl),⟨(by simp[zBk,hk,zPm,zJq,hx]),⟨(by omega),⟨(by omega),⟨(by kernel_rfl),⟨(by omega),⟨(by kernel_rfl),⟨(by kernel_rfl),(by simp)⟩⟩⟩⟩⟩⟩⟩⟩⟩⟩⟩⟩;refine vb 0 (Ao (zAp l++Ad zL8 (Av (AL u)<|Ag 0 (Ad Aj (Cx<|AG u)++Ag (AL u) [Aj<|Ak Au 0,Aj<|Ak Au 0,Aj<|Ak Au 0,Aj<|Ak Au 0,Aj<|Ak Au 0,Aj<|Ak Au 0,Aj<|Ak Au 0,Aj<|Ak Au 0,Aj<|Ak Au 0,Aj<|Ak Au 0,Aj<|Ak Au 0,Aj<|Ak Au 0,Aj<|Ak Au 0,Aj<|Ak Au 0,Aj<|Ak Au 0,Aj<|Ak Au 0,Aj<|Ak Au 0,Aj<|Ak Au 0,Aj<|Ak Au 0,Aj<|Ak Au 0,Aj<|Ak Au 0,Aj<|Ak Au 0,Aj<|Ak Au 0,Aj<|Ak Au 0]))) 5 1 Ab Ac Aq) (Ao (zAp (l++AG u)) 5 1 Ab Ac Aq) (hd:=by simp(disch:=omega) only[zJq,A8,zPm,zDq,hk])<|vrT 1<|vs 6 (Af 0 0 (Aa l+AL u) ((Aa l+AL u)*1) Ab) (Af 0 0 (Aa l+AL u) (Aa l+AL u) Ab)<|veT<|zG<|zE<|zZ (True) [Af 0 0 (Aa l+AL u) (Aa l+AL u) Ab] (.inr rfl) ?_;exact⟨by rw[hx];rfl,by rw[<-zJq (AG u)];kernel_rfl⟩
 exact main.cut 1 (by simp) rfl
set_option maxHeartbeats 2000000 in
theorem appIntI_c(l:List UInt8)(z:Int)(n:Nat)(hn:l.length=n)(hl:n<=900000000)(h0:-9223372036854775808<=z)(h1:z<=9223372036854775807):Acts As 177 [.osl 0 0 n n Ab,iD z,iD 10] [byB l] [0] (.osl 0 0 (n+(Ah z).length) (n+(Ah z).length) Ab) [byB (l++Ah z)]:=by
 subst hn;by_cases hz:z<0
 ·have e:Ah z=45::AG z.natAbs:=by unfold Ah;rw[if_pos hz]
  have e1:(A5.wrap (0-A5.wrap z))=((z.natAbs:Nat):Int):=by
   simp only[A4,IntKind.bits,IntKind.signed,Bool.false_and,B8,if_false];omega
  have j1:=(zWy (l++[45]) z.natAbs (l.length+1) (by simp) (by omega) (by omega)).atC 0 (st:=[byB (l++[45]),byB [45]]) rfl (.inl rfl) (.inl rfl) (only_osl [.int .u64 z.natAbs, .int .i64 10]) (λj e0 hj he=>by match j,hj,he with|0,hj,_=>exact absurd rfl hj|1,_,he=>cases he;exact .inl rfl);have main:Acts As 177 [.osl 0 0 l.length l.length Ab,iD z,iD 10] [byB l] [0] (.osl 0 0 (l.length+1+(AG z.natAbs).length) (l.length+1+(AG z.natAbs).length) Ab) [byB (l++[45]++AG z.natAbs),byB [45]]:=by
   refine zAz Ta_ok mixed Tryz.func177 rfl (by intro k hk;match k,hk with|0,_=>exact .inr (by simp)|1,_=>exact .inl rfl)<|vAu<|vA<|vew [9] [] (True)<|zB<|vAe<|vT (z<0)<|vA<|vr 3 (((1=1/\1<=1/\True)/\0<1/\1=1/\1<=16777216/\1<=9223372036854775807)/\Bi (byB l)=Ab/\Aa (AJ<|byB l)=Aa l*1/\Aa l=Aa l*1/\A9 (byB l)=5/\A_ (byB l)=1/\1=1/\0<1/\0<1/\5=5/\(Aa l+1)*1<=140737488355328/\1=1/\AW (AO<|byB l)=Ac/\(Ac=Ac\/AX (AO<|byB l)=Ab)) (vb 0 (Ao (AJ (byB l)++[Aj<|Ak Au (45:Int)]) (A9<|byB l) (A_<|byB l) Ab Ac<|AO<|byB l) (Ao (zAp (l++[(45:UInt8)])) (5:TypeId) 1 Ab Ac Aq) (hd:=by simp(disch:=omega) only[zDq,show([Aj (Ak Au 45)]:List D)=zAp [45]from rfl])<|vrT 1<|vs 0 (Af 0 0 (Aa l+1) ((Aa l+1)*1) Ab) (Af 0 0 (Aa l+1) (Aa l+1) Ab)<|veT<|zA rfl<|vw 2 [16] [] (True)<|vs 16 (Aj<|Ak A5<|A4 A5 ((0:Int)-A4 A5 z)) (Aj<|Ak A5 (↑(Cy z):Int))<|veT<|vA<|vrT 3<|vnt [Ao (zAp (l++[(45:UInt8)])) (5:TypeId) 1 Ab Ac Aq,Ao (zAp [(45:UInt8)]) 5 1 Ab Ac Aq] ?_) ⟨⟨⟨(by kernel_rfl),⟨(by omega),trivial⟩⟩,(by omega)⟩,⟨(by kernel_rfl),⟨(by simp[zBk]),⟨(by omega),⟨(by kernel_rfl),⟨(by kernel_rfl),⟨(by kernel_rfl),⟨(by omega),⟨(by omega),⟨(by kernel_rfl),⟨(by omega),⟨(by kernel_rfl),⟨(by kernel_rfl),(by simp)⟩⟩⟩⟩⟩⟩⟩⟩⟩⟩⟩⟩⟩;refine zK0 [] [] [Af 0 0 (Aa l+1) (Aa l+1) Ab,Aj<|Ak A5 (↑(Cy z):Int),iD 10] [Af 0 0 (Aa l+1) (Aa l+1) Ab,Aj<|Ak A5 (↑(Cy z):Int),iD 10] (by kernel_rfl) trivial (Bg _) (by exact j1) (by kernel_rfl) ?_;refine v0s<|veT<|zG<|zZ (True) [Af 0 0 (Aa l+1+Aa (AG<|Cy z)) (Aa l+1+Aa (AG<|Cy z)) Ab] (.inr rfl) ?_;exact⟨by kernel_rfl,by kernel_rfl⟩
  have h2:=main.cut 1 (by simp) rfl;grind
 obtain⟨u,rfl⟩:∃u:Nat,z=u:=⟨z.toNat,by omega⟩;have e:Ah u=AG u:=Lib.itoa_nonneg u;have j1:=zWy l u l.length rfl (by omega) (by omega);rw[e];refine zAz Ta_ok mixed Tryz.func177 rfl (by intro k hk;match k,hk with|0,_=>exact .inr (by simp)|1,_=>exact .inl rfl)<|vAu<|vA<|ve (u6 (u:Int))<|zB<|vAe<|vF ((u:Int)<0)<|vK<|vA<|vrT 3<|vnt [byB l]<|zK0 [] [] [Af 0 0 (Aa l) (Aa l) Ab,Aj<|Ak A5 (u:Int),iD 10] [Af 0 0 (Aa l) (Aa l) Ab,Aj<|Ak A5 (u:Int),iD 10] (by kernel_rfl) trivial (Bg _) (by exact j1) (by kernel_rfl) ?_;refine v0s<|veT<|zG<|zZ (True) [Af 0 0 (Aa l+Aa (AG u)) (Aa l+Aa (AG u)) Ab] (.inr rfl) ?_;exact⟨by kernel_rfl,by kernel_rfl⟩
theorem appInt_c(l:List UInt8)(z:Int)(n:Nat)(hn:l.length=n)(hl:n<=900000000)(h0:-9223372036854775808<=z)(h1:z<=9223372036854775807):Acts As 163 [.osl 0 0 n n Ab,iD z,iD 10] [byB l] [0] (.osl 0 0 (n+(Ah z).length) (n+(Ah z).length) Ab) [byB (l++Ah z)]:=by
 refine zAz Ta_ok mixed Tryz.func163 rfl (by intro k hk;match k,hk with|0,_=>exact .inr (by simp)|1,_=>exact .inl rfl)<|vAu<|vA<|vrT 3<|vnt [byB l]<|zK0 [] [] [Af 0 0 n n Ab,iD z,iD 10] [Af 0 0 n n Ab,iD z,iD 10] (by kernel_rfl) trivial (Bg _) (by exact appIntI_c l z n hn hl h0 h1) (by kernel_rfl) ?_;refine v0s<|veT<|zG<|zZ (True) [Af 0 0 (n+Aa (Ah z)) (n+Aa (Ah z)) Ab] (.inr rfl) ?_;exact⟨by kernel_rfl,by kernel_rfl⟩
theorem zPs{st:List Bk}(k:Nat)(l:List UInt8)(z:Int)(n:Nat)(hn:l.length=n)(hl:n<=900000000)(h0:-9223372036854775808<=z)(h1:z<=9223372036854775807)(he:st[k]?=Am (byB l))(hno:∀j e0,j≠k->st[j]?=Am e0->e0.nob=Ab\/zAr k e0.cells=Ac):Acts As 163 [.osl k 0 n n Ab,iD z,iD 10] st [k] (.osl k 0 (n+(Ah z).length) (n+(Ah z).length) Ab) (st.set k (byB (l++Ah z))):=
 (appInt_c l z n hn hl h0 h1).atC k he (.inl rfl) (.inl rfl) (only_osl [.int .i64 z, .int .i64 10]) hno
def idV(v:Va):List UInt8:=Ah v.kind++[32]++Ah v.int++[32]++Ah (v.str.length:Nat)++[32]++v.str
def idR(r:List Va):List UInt8:=r.flatMap idV
def Vs(v:Va):Prop:=(-9223372036854775808<=v.kind/\v.kind<=9223372036854775807)/\(-9223372036854775808<=v.int/\v.int<=9223372036854775807)/\v.str.length<=10000
theorem idV_len(v:Va)(h:Vs v):(idV v).length<=10100:=by
 have h1:=Ch v.kind h.1.1 h.1.2;have h2:=Ch v.int h.2.1.1 h.2.1.2;have h3:=Ch (v.str.length:Nat) (by omega) (by have:=h.2.2;omega);have h4:=h.2.2;simp only[idV,AU,BH,Ci];omega
theorem idR_succ(r:List Va)(i:Nat)(h:i<r.length):idR (r.take (i+1))=idR (r.take i)++idV (r.getD i Al):=by
 rw[BP h,idR,List.flatMap_append,AB,AI h];simp[idR]
theorem idR_len(r:List Va)(h:∀v∈r,Vs v)(i:Nat)(hi:i<=r.length):(idR (r.take i)).length<=10100*i:=by
 induction i with
 |zero=>simp[idR]
 |succ i ih=>
  rw[idR_succ r i (by omega),AU]
  have:=ih (by omega)
  have:=idV_len (r.getD i Al) (by rw[AB,AI (by omega)];exact h _ (A7 _))
  omega
def isConv:Op->Bool
 | .convert s d _=>s==281&&d==9
 |_=>Ac
def Tiy:Par:=⟨λf=>f==163,λ_ _=>AM,λ_=>Ac,isConv,λ_=>Ac⟩
theorem Tiy_ok:zBi As Tiy:=by intro t n f h;cases h
theorem zWr(l:List UInt8):zGy (zAp l)=Am l:=by
 induction l with
 |nil=>rfl
 |cons b l ih=>
  show(zGy (zAp l)).map (UInt8.ofNat ((b.toNat:Int)).toNat::·)=_;rw[ih];simp
theorem zS7(l:List UInt8):zRa (zAp l)=l:=by
 induction l with
 |nil=>rfl
 |cons b l ih=>
  show byteG (.val (.int .u8 b.toNat))::zRa (zAp l)=_;rw[ih];simp[byteG]
theorem zJg(l:List UInt8)(n:Nat)(h:l.length=n):(zAp l).take n=zAp l:=AT (by rw[zBk];omega)
def zQi(k:Nat)(st:List Bk):Bool:=st.zipIdx.all λp=>p.2==k||p.1.nob||!zAr k p.1.cells
theorem zGm{k:Nat}{st:List Bk}(h:zQi k st=Ab):∀j e0,j≠k->st[j]?=Am e0->e0.nob=Ab\/zAr k e0.cells=false:=λj e0 hj he=>by
 unfold zQi at h;rw[Bo]at h
 have:=h (e0,j) (List.mem_zipIdx_iff_getElem?.2 he)
 simp only[Cj,beq_iff_eq,Cz]at this;rcases this with(h1|h1)|h1
 ·exact absurd h1 hj
 ·exact .inl h1
 exact .inr h1
set_option maxHeartbeats 4000000 in
theorem rkey_c(r:List Va)(n:Nat)(hn:r.length=n)(hl:n<=10000)(hv:∀v∈r,Vs v):Pure As 142 [.row (zL r) n] [] (strD (idR r)):=by
 subst hn;refine zH Tiy_ok mixed Tryz.func142 rfl<|vAu<|vAe<|zB<|vAe<|zF<|zN (λ(i:Nat)=>fr 51 [(0,Ai (zL r)<|Aa r),(2,Aj<|AN (AY #[])),(3,Af 0 0 (Aa<|idR<|Av i r) (Aa<|idR<|Av i r) Ab),(6,iD (Aa r:Int)),(7,iD (i:Int))]) (λi=>[byB<|idR<|r.take i]) (λi=>r.length-i) (λi=>i<=r.length) 0 ?_ ?_ ?_
 ·omega
 ·rw[show idR (r.take 0)=[]from rfl];refine vk 0
 rintro i h1;have hb:=idR_len r hv i (by omega);generalize ex:idR (r.take i)=x at*;rcases AF i r.length with hi|hi
 ·have hvi:Vs (r.getD i Al):=by rw[AB,AI hi];exact hv _ (A7 _)
  have e2:=idR_succ r i hi;rw[ex]at e2;obtain⟨v,ev⟩:∃v,v=r.getD i default:=⟨_,rfl⟩;rw[<-ev]at e2 hvi;have l1:=Ch v.kind hvi.1.1 hvi.1.2;have l2:=Ch v.int hvi.2.1.1 hvi.2.1.2;have l3:=hvi.2.2;have l4:=Ch (v.str.length:Nat) (by omega) (by omega);have e3:x++idV v=x++Ah v.kind++[32]++Ah v.int++[32]++Ah (v.str.length:Nat)++[32]++v.str:=by simp[idV]
  have e4:=zWq r i hi;rw[<-ev]at e4;focus
   refine vAu<|zB<|vT ((i:Int)<↑(Aa r))<|vKB<|vAe<|vA<|vr 4 (ix ↑i ↑(Aa r) (zL r≠[])) (vs 13 (Bc<|Ag (Ax (i:Int)*3)<|zL r) (Bc (iD (Aw v)::iD (AC v)::strD (AA v)::zL (Ag (i+1) r))) (hd:=by simp(disch:=omega) only[A2,BF,BS,e4])<|vr 2 (True/\0<Aa (iD (Aw v)::iD (AC v)::strD (AA v)::zL (Ag (i+1) r)))<|vnt [byB x] ?_) ⟨(by omega),⟨(by omega),(by exact zFv _)⟩⟩;refine zK0 [] [] [Af 0 0 (Aa x) (Aa x) Ab,iD<|Aw v,iD 10] [Af 0 0 (Aa x) (Aa x) Ab,iD<|Aw v,iD 10] (by kernel_rfl) trivial (Bg _) (by exact zPs 0 _ v.kind _ (by simp) (by omega) hvi.1.1 hvi.1.2 rfl (zGm rfl)) (by kernel_rfl) ?_;refine v0s<|veT<|vA<|vr 3 (((1=1/\1<=1/\True)/\0<1/\1=1/\1<=16777216/\1<=9223372036854775807)/\Ab=Ab/\Aa (zAp (x++Ah (Aw v)))=(Aa x+Aa (Ah<|Aw v))*1/\Aa x+Aa (Ah<|Aw v)=(Aa x+Aa (Ah<|Aw v))*1/\5=5/\1=1/\1=1/\0<1/\0<1/\5=5/\(Aa x+Aa (Ah<|Aw v)+1)*1<=140737488355328/\1=1/\AW Aq=Ac/\(Ac=Ac\/AX Aq=Ab)) (vb 0 (Ao (zAp (x++Ah (Aw v))++[Aj<|Ak Au 32]) 5 1 Ab Ac Aq) (Ao (zAp (x++Ah (Aw v)++[(32:UInt8)])) 5 1 Ab Ac Aq) (hd:=by simp(disch:=omega) only[zDq,show([Aj (Ak Au 32)]:List D)=zAp [32]from rfl])<|vrT 1<|vs 3 (Af 0 0 (Aa x+Aa (Ah<|Aw v)+1) ((Aa x+Aa (Ah<|Aw v)+1)*1) Ab) (Af 0 0 (Aa x+Aa (Ah<|Aw v)+1) (Aa x+Aa (Ah<|Aw v)+1) Ab) (hd:=by simp(disch:=omega) only[AQ]) ?_) ⟨⟨⟨(by kernel_rfl),⟨(by omega),trivial⟩⟩,(by omega)⟩,⟨(by kernel_rfl),⟨(by simp[zBk]),⟨(by omega),⟨(by kernel_rfl),⟨(by kernel_rfl),⟨(by kernel_rfl),⟨(by omega),⟨(by omega),⟨(by kernel_rfl),⟨(by omega),⟨(by kernel_rfl),⟨(by kernel_rfl),(by simp)⟩⟩⟩⟩⟩⟩⟩⟩⟩⟩⟩⟩⟩;refine veT<|vA<|vr 4 (ix ↑i ↑(Aa r) (zL r≠[])) (vs 23 (Bc<|Ag (Ax (i:Int)*3)<|zL r) (Bc (iD (Aw v)::iD (AC v)::strD (AA v)::zL (Ag (i+1) r))) (hd:=by simp(disch:=omega) only[A2,BF,BS,e4])<|vr 2 (True/\0<Aa (iD (AC v)::strD (AA v)::zL (Ag (i+1) r)))<|vnt [Ao (zAp (x++Ah (Aw v)++[(32:UInt8)])) 5 1 Ab Ac Aq,Ao (zAp [(32:UInt8)]) 5 1 Ab Ac Aq] ?_) ⟨(by omega),⟨(by omega),(by exact zFv _)⟩⟩;refine zK0 [] [] [Af 0 0 (Aa x+Aa (Ah<|Aw v)+1) (Aa x+Aa (Ah<|Aw v)+1) Ab,iD<|AC v,iD 10] [Af 0 0 (Aa x+Aa (Ah<|Aw v)+1) (Aa x+Aa (Ah<|Aw v)+1) Ab,iD<|AC v,iD 10] (by kernel_rfl) trivial (Bg _) (by exact zPs 0 _ v.int _ (by simp;omega) (by omega) hvi.2.1.1 hvi.2.1.2 rfl (zGm rfl)) (by kernel_rfl) ?_;refine v0s<|veT<|vA<|vr 3 (((1=1/\1<=1/\True)/\0<1/\1=1/\1<=16777216/\1<=9223372036854775807)/\Ab=Ab/\Aa (zAp (x++Ah (Aw v)++[(32:UInt8)]++Ah (AC v)))=(Aa x+Aa (Ah<|Aw v)+1+Aa (Ah<|AC v))*1/\Aa x+Aa (Ah<|Aw v)+1+Aa (Ah<|AC v)=(Aa x+Aa (Ah<|Aw v)+1+Aa (Ah<|AC v))*1/\5=5/\1=1/\1=1/\0<1/\0<1/\5=5/\(Aa x+Aa (Ah<|Aw v)+1+Aa (Ah<|AC v)+1)*1<=140737488355328/\1=1/\AW Aq=Ac/\(Ac=Ac\/AX Aq=Ab)) (vb 0 (Ao (zAp (x++Ah (Aw v)++[(32:UInt8)]++Ah (AC v))++[Aj<|Ak Au 32]) 5 1 Ab Ac Aq) (Ao (zAp (x++Ah (Aw v)++[(32:UInt8)]++Ah (AC v)++[(32:UInt8)])) 5 1 Ab Ac Aq) (hd:=by simp(disch:=omega) only[zDq,show([Aj (Ak Au 32)]:List D)=zAp [32]from rfl]) ?_) ⟨⟨⟨(by kernel_rfl),⟨(by omega),trivial⟩⟩,(by omega)⟩,⟨(by kernel_rfl),⟨(by(simp[zBk];omega)),⟨(by omega),⟨(by kernel_rfl),⟨(by kernel_rfl),⟨(by kernel_rfl),⟨(by omega),⟨(by omega),⟨(by kernel_rfl),⟨(by omega),⟨(by kernel_rfl),⟨(by kernel_rfl),(by simp)⟩⟩⟩⟩⟩⟩⟩⟩⟩⟩⟩⟩⟩;refine vrT 1<|vs 3 (Af 0 0 (Aa x+Aa (Ah<|Aw v)+1+Aa (Ah<|AC v)+1) ((Aa x+Aa (Ah<|Aw v)+1+Aa (Ah<|AC v)+1)*1) Ab) (Af 0 0 (Aa x+Aa (Ah<|Aw v)+1+Aa (Ah<|AC v)+1) (Aa x+Aa (Ah<|Aw v)+1+Aa (Ah<|AC v)+1) Ab) (hd:=by simp(disch:=omega) only[AQ])<|veT<|vA<|vr 4 (ix ↑i ↑(Aa r) (zL r≠[])) (vs 33 (Bc<|Ag (Ax (i:Int)*3)<|zL r) (Bc (iD (Aw v)::iD (AC v)::strD (AA v)::zL (Ag (i+1) r))) (hd:=by simp(disch:=omega) only[A2,BF,BS,e4])<|vr 3 (True/\0<Aa (strD (AA v)::zL (Ag (i+1) r)))<|vnt [Ao (zAp (x++Ah (Aw v)++[(32:UInt8)]++Ah (AC v)++[(32:UInt8)])) 5 1 Ab Ac Aq,Ao [Aj<|Ak Au (↑(32:Nat):Int)] 5 1 Ab Ac Aq,Ao (zAp [(32:UInt8)]) 5 1 Ab Ac Aq] ?_) ⟨(by omega),⟨(by omega),(by exact zFv _)⟩⟩;refine zK0 [] [] [Af 0 0 (Aa x+Aa (Ah<|Aw v)+1+Aa (Ah<|AC v)+1) (Aa x+Aa (Ah<|Aw v)+1+Aa (Ah<|AC v)+1) Ab,iD (Aa (AA v):Int),iD 10] [Af 0 0 (Aa x+Aa (Ah<|Aw v)+1+Aa (Ah<|AC v)+1) (Aa x+Aa (Ah<|Aw v)+1+Aa (Ah<|AC v)+1) Ab,iD (Aa (AA v):Int),iD 10] (by kernel_rfl) trivial (Bg _) (by exact zPs 0 _ (v.str.length:Nat) _ (by simp;omega) (by omega) (by omega) (by omega) rfl (zGm rfl)) (by kernel_rfl) ?_;refine v0s<|veT<|vA<|vr 3 (((1=1/\1<=1/\True)/\0<1/\1=1/\1<=16777216/\1<=9223372036854775807)/\Ab=Ab/\Aa (zAp (x++Ah (Aw v)++[(32:UInt8)]++Ah (AC v)++[(32:UInt8)]++Ah (Aa (AA v):Int)))=(Aa x+Aa (Ah<|Aw v)+1+Aa (Ah<|AC v)+1+Aa (Ah (Aa (AA v):Int)))*1/\Aa x+Aa (Ah<|Aw v)+1+Aa (Ah<|AC v)+1+Aa (Ah (Aa (AA v):Int))=(Aa x+Aa (Ah<|Aw v)+1+Aa (Ah<|AC v)+1+Aa (Ah (Aa (AA v):Int)))*1/\5=5/\1=1/\1=1/\0<1/\0<1/\5=5/\(Aa x+Aa (Ah<|Aw v)+1+Aa (Ah<|AC v)+1+Aa (Ah (Aa (AA v):Int))+1)*1<=140737488355328/\1=1/\AW Aq=Ac/\(Ac=Ac\/AX Aq=Ab)) ?_ ⟨⟨⟨(by kernel_rfl),⟨(by omega),trivial⟩⟩,(by omega)⟩,⟨(by kernel_rfl),⟨(by(simp[zBk];omega)),⟨(by omega),⟨(by kernel_rfl),⟨(by kernel_rfl),⟨(by kernel_rfl),⟨(by omega),⟨(by omega),⟨(by kernel_rfl),⟨(by omega),⟨(by kernel_rfl),⟨(by kernel_rfl),(by simp)⟩⟩⟩⟩⟩⟩⟩⟩⟩⟩⟩⟩⟩;refine vb 0 (Ao (zAp (x++Ah (Aw v)++[(32:UInt8)]++Ah (AC v)++[(32:UInt8)]++Ah (Aa (AA v):Int))++[Aj<|Ak Au 32]) 5 1 Ab Ac Aq) (Ao (zAp (x++Ah (Aw v)++[(32:UInt8)]++Ah (AC v)++[(32:UInt8)]++Ah (Aa (AA v):Int)++[(32:UInt8)])) 5 1 Ab Ac Aq) (hd:=by simp(disch:=omega) only[zDq,show([Aj (Ak Au 32)]:List D)=zAp [32]from rfl])<|vrT 1<|vs 3 (Af 0 0 (Aa x+Aa (Ah<|Aw v)+1+Aa (Ah<|AC v)+1+Aa (Ah (Aa (AA v):Int))+1) ((Aa x+Aa (Ah<|Aw v)+1+Aa (Ah<|AC v)+1+Aa (Ah (Aa (AA v):Int))+1)*1) Ab) (Af 0 0 (Aa x+Aa (Ah<|Aw v)+1+Aa (Ah<|AC v)+1+Aa (Ah (Aa (AA v):Int))+1) (Aa x+Aa (Ah<|Aw v)+1+Aa (Ah<|AC v)+1+Aa (Ah (Aa (AA v):Int))+1) Ab) (hd:=by simp(disch:=omega) only[AQ])<|veT<|zA rfl<|vr 4 (ix ↑i ↑(Aa r) (zL r≠[])) (vs 44 (Bc<|Ag (Ax (i:Int)*3)<|zL r) (Bc (iD (Aw v)::iD (AC v)::strD (AA v)::zL (Ag (i+1) r))) (hd:=by simp(disch:=omega) only[A2,BF,BS,e4]) ?_) ⟨(by omega),⟨(by omega),(by exact zFv _)⟩⟩;refine vwh 3 [] [] (True/\0<Aa (strD (AA v)::zL (Ag (i+1) r))/\Ab=Ab/\Aa (zAp (x++Ah (Aw v)++[(32:UInt8)]++Ah (AC v)++[(32:UInt8)]++Ah (Aa (AA v):Int)++[(32:UInt8)]))=(Aa x+Aa (Ah<|Aw v)+1+Aa (Ah<|AC v)+1+Aa (Ah (Aa (AA v):Int))+1)*1/\Aa x+Aa (Ah<|Aw v)+1+Aa (Ah<|AC v)+1+Aa (Ah (Aa (AA v):Int))+1=(Aa x+Aa (Ah<|Aw v)+1+Aa (Ah<|AC v)+1+Aa (Ah (Aa (AA v):Int))+1)*1/\5=5/\1=1/\Aa (zAp<|Bt<|Bu<|bs<|AA v)=Aa (Bt<|Bu<|bs<|AA v)*1/\0<1/\0<1/\5=5/\(Aa x+Aa (Ah<|Aw v)+1+Aa (Ah<|AC v)+1+Aa (Ah (Aa (AA v):Int))+1+Aa (Bt<|Bu<|bs<|AA v))*1<=140737488355328/\1=1/\AW Aq=Ac/\(Ac=Ac\/AX Aq=Ab)) ⟨trivial,(lb (by kernel_rfl)),?_⟩ ?_;rotate_left;refine vb 0 (Ao (zAp (x++Ah (Aw v)++[(32:UInt8)]++Ah (AC v)++[(32:UInt8)]++Ah (Aa (AA v):Int)++[(32:UInt8)])++zAp (Bt<|Bu<|bs<|AA v)) 5 1 Ab Ac Aq) (Ao (zAp (x++Ah (Aw v)++[(32:UInt8)]++Ah (AC v)++[(32:UInt8)]++Ah (Aa (AA v):Int)++[(32:UInt8)]++AA v)) 5 1 Ab Ac Aq) (hd:=by simp(disch:=omega) only[bs_dl,zDq])<|vrT 1<|vs 3 (Af 0 0 (Aa x+Aa (Ah<|Aw v)+1+Aa (Ah<|AC v)+1+Aa (Ah (Aa (AA v):Int))+1+Aa (Bt<|Bu<|bs<|AA v)) ((Aa x+Aa (Ah<|Aw v)+1+Aa (Ah<|AC v)+1+Aa (Ah (Aa (AA v):Int))+1+Aa (Bt<|Bu<|bs<|AA v))*1) Ab) (Af 0 0 (Aa x+Aa (Ah<|Aw v)+1+Aa (Ah<|AC v)+1+Aa (Ah (Aa (AA v):Int))+1+Aa (AA v)) (Aa x+Aa (Ah<|Aw v)+1+Aa (Ah<|AC v)+1+Aa (Ah (Aa (AA v):Int))+1+Aa (AA v)) Ab) (hd:=by simp(disch:=omega) only[bs_dl,AQ])<|vnil<|zD<|vN<|zA rfl<|vr 2 (i6 (↑i+1))<|vnil<|zC ?_;rotate_left
  all_goals first|(refine⟨rfl,?_,?_,rfl,rfl,?_,by decide,by decide,rfl,?_,rfl,rfl, .inl rfl⟩<;>(try simp only[zBk,AU,BH,Ci,bs_dl])<;>omega)|skip
  refine⟨i+1,by omega,by omega,?_⟩;rw[e2,e3];refine wk 3 (Af 0 0 (Aa x+Aa (Ah (Aw v))+1+Aa (Ah (AC v))+1+Aa (Ah (↑(Aa (AA v)):Int))+1+Aa (AA v)) (Aa x+Aa (Ah (Aw v))+1+Aa (Ah (AC v))+1+Aa (Ah (↑(Aa (AA v)):Int))+1+Aa (AA v)) Ab) (Af 0 0 (Aa (x++Ah (Aw v)++[(32:UInt8)]++Ah (AC v)++[(32:UInt8)]++Ah (↑(Aa (AA v)):Int)++[(32:UInt8)]++AA v)) (Aa (x++Ah (Aw v)++[(32:UInt8)]++Ah (AC v)++[(32:UInt8)]++Ah (↑(Aa (AA v)):Int)++[(32:UInt8)]++AA v)) Ab) (by(simp;omega)) (vk 1)
 have e:i=r.length:=by omega
 subst e;rw[Cg]at ex;refine vAu<|zB<|vF ((Aa r:Int)<↑(Aa r))<|vZ2<|vA<|vr 2 (zGy (Av (Aa x)<|Ag 0<|AJ<|byB x)=Am (zRa<|Av (Aa x)<|Ag 0<|AJ<|byB x)/\Aa (Av (Aa x)<|Ag 0<|AJ<|byB x)=Aa x/\Program.underlying As 5=Am (TypeDesc.int Au)) (vs 50 (Aj<|AN<|AY<|BO<|zRa<|Av (Aa x)<|Ag 0<|AJ<|byB x) (Aj<|AN<|AY<|BO x) (hd:=by simp(disch:=omega) only[A8,zJg,zS7])<|veT<|zG ?_) ⟨(by simp[zWr,zS7,zJg,zBk]),⟨(by simp[zWr,zS7,zJg,zBk]),(by kernel_rfl)⟩⟩;refine vre (True) (Aj<|AN<|AY<|BO x) (.inr rfl) ?_;rw[ex];rfl
end
section
open Go.RowKit
def dvl(l:List UInt8):Nat:=l.foldl (λa b=>a*10+(b.toNat-48)) 0
theorem zPe(u:Nat):dvl (AG u)=u/\∀b∈AG u,48<=b.toNat/\b.toNat<=57:=by
 induction u using Nat.strongRecOn with
 | _ u ih=>
  rw[AG];split
  ·rename_i h;have e:(UInt8.ofNat (48+u)).toNat=48+u:=by rw[UInt8.toNat_ofNat'];omega
   refine⟨by simp only[dvl,BQ,Ck,e];omega,λb hb=>?_⟩;simp only[B5]at hb;rw[hb,e];omega
  rename_i h;obtain⟨h1,h2⟩:=ih (u/10) (by omega);have e:(UInt8.ofNat (48+u%10)).toNat=48+u%10:=by rw[UInt8.toNat_ofNat'];omega
  refine⟨?_,λb hb=>?_⟩
  ·unfold dvl at h1⊢;rw[Cr,h1];simp only[BQ,Ck,e];omega
  rcases Cu.1 hb with hb|hb
  ·exact h2 b hb
  simp only[B5]at hb;rw[hb,e];omega
theorem zSq{a b:Int}(h:Ah a=Ah b):a=b:=by
 have key:∀z:Int,z<0->∀u:Nat,Ah z≠AG u:=λz hz u e=>by
  unfold Ah at e;rw[if_pos hz]at e
  have:=(zPe u).2 45 (by rw[<-e];simp)
  have e2:(45:UInt8).toNat=45:=rfl;omega
 by_cases ha:a<0<;>by_cases hb:b<0
 ·unfold Ah at h;rw[if_pos ha,if_pos hb]at h
  have:=congrArg dvl (BW.inj h).2
  rw[(zPe _).1,(zPe _).1]at this;omega
 ·have e:Ah b=AG b.toNat:=by unfold Ah;rw[if_neg hb]
  rw[e]at h;exact absurd h (key a ha _)
 ·have e:Ah a=AG a.toNat:=by unfold Ah;rw[if_neg ha]
  rw[e]at h;exact absurd h.symm (key b hb _)
 unfold Ah at h;rw[if_neg ha,if_neg hb]at h
 have:=congrArg dvl h
 rw[(zPe _).1,(zPe _).1]at this;omega
theorem zLe(z:Int):∀b∈Ah z,b≠32:=by
 intro b hb e;subst e;have e2:(32:UInt8).toNat=32:=rfl;unfold Ah at hb;split at hb
 ·rcases Bb.1 hb with h|h
  ·exact absurd h (by decide)
  have:=(zPe _).2 _ h;omega
 have:=(zPe _).2 _ hb;omega
theorem cut_at:∀{a b s t:List UInt8},(∀x∈a,x≠32)->(∀x∈b,x≠32)->a++32::s=b++32::t->a=b/\s=t
 |[],[],s,t,_,_,h=>by simpa using h
 |[],y::b,s,t,_,hb,h=>by
  simp only[BS,BF,BW.injEq]at h;exact absurd h.1.symm (hb y (BR ..))
 |x::a,[],s,t,ha,_,h=>by
  simp only[BS,BF,BW.injEq]at h;exact absurd h.1 (ha x (BR ..))
 |x::a,y::b,s,t,ha,hb,h=>by
  simp only[BF,BW.injEq]at h;obtain⟨h1,h2⟩:=cut_at (λz hz=>ha z (Bv _ hz)) (λz hz=>hb z (Bv _ hz)) h.2;exact⟨by rw[h.1,h1],h2⟩
theorem idV_inj{v w:Va}{s t:List UInt8}(h:idV v++s=idV w++t):v=w/\s=t:=by
 simp only[idV,Bf,List.singleton_append,BF,BS]at h;obtain⟨h1,h⟩:=cut_at (zLe _) (zLe _) h;obtain⟨h2,h⟩:=cut_at (zLe _) (zLe _) h;obtain⟨h3,h⟩:=cut_at (zLe _) (zLe _) h;have g1:=zSq h1;have g2:=zSq h2;clear h1 h2;have h3:v.str.length=w.str.length:=by have:=zSq h3;omega
 obtain⟨h4,h5⟩:=List.append_inj h h3;obtain⟨vk,vi,vs⟩:=v;obtain⟨wk,wi,ws⟩:=w;simp only at g1 g2 h4;subst g1 g2 h4;exact⟨rfl,h5⟩
theorem idV_ne(v:Va)(s:List UInt8):idV v++s≠[]:=by
 intro h
 have:=congrArg Aa h
 simp[idV]at this
theorem idR_inj:∀{r s:List Va},idR r=idR s->r=s
 |[],[],_=>rfl
 |[],w::s,h=>absurd h.symm (idV_ne w (idR s))
 |v::r,[],h=>absurd h (idV_ne v (idR r))
 |v::r,w::s,h=>by
  have h:idV v++idR r=idV w++idR s:=h;obtain⟨h1,h2⟩:=idV_inj h;rw[h1,idR_inj h2]
abbrev kyv(r:List Va):Value:= .string (bs (idR r))
theorem vEq_ky(r s:List Va):vEq (kyv r) (kyv s)=decide (r=s):=by
 simp only[vEq,kyv,bs];rw[B9];simp only[beq_iff_eq,decide_eq_true_eq];exact⟨λh=>idR_inj h,λh=>by rw[h]⟩
theorem zEg(K:List (List Va))(r:List Va):zJb (K.map kyv) (kyv r)=K.findIdx? λs=>decide (r=s):=by
 unfold zJb;rw[List.findIdx?_map];congr 1;funext s;exact vEq_ky r s
theorem zDh(K:List (List Va)):(K.map kyv).all (zX .string)=true:=by simp[zX]
end
def zA4(rows:List (List Va))(i j:Nat):Int:=rcmp (rows.getD i []) (rows.getD j [])
theorem zXk{rows:List (List Va)}(hn:rows.Nodup):On (Ar rows.length) (zA4 rows):=by
 refine⟨λx hx y hy=>?_,λx _ y _=>rcw.neg _ _,λx _ y _ z _=>rcw.tr _ _ _⟩;have hx:x<rows.length:=by simpa using hx
 have hy:y<rows.length:=by simpa using hy
 unfold zA4;rw[rcw.eq,AB,AB,AI hx,AI hy];simp only[B3];exact⟨λh=>(CT hn).1 h,λh=>by subst h;rfl⟩
section
variable {α : Type}
def srtL(l:List (Rw×α)):List (Rw×α):=acc rcmp (λa _=>a) [] l
theorem zPx(f:α->α->α){l:List (Rw×α)}(h:Ndk l):acc rcmp f [] l=srtL l:=by
 have hs:=zG1 rcw (λ(a _:α)=>a) l [] B7.nil;refine Srt.uniq rcw (zG1 rcw f l [] B7.nil) hs λr=>?_;rw[zMb rcw f l [] r B7.nil];unfold srtL;rw[zMb rcw _ l [] r B7.nil];have e:kv ([]:List (Rw×α)) r=none:=rfl;rw[e,zQ1 f l r h,zQ1 _ l r h]
theorem zEl[Inhabited α]{l:List (Rw×α)}(h:Ndk l):(zCx (zA4 (l.map (·.1))) (Ar l.length)).map (λi=>l.getD i Al)=srtL l:=by
 have ho:=zXk (rows:=l.map (·.1)) (show(l.map (·.1)).Nodup from h);rw[AK]at ho;have hp:=zB6 (zA4 (l.map (·.1))) (Ar l.length);have hr:(Ar l.length).map (λi=>l.getD i Al)=l:=by
  apply BU (by simp);intro i h1 h2;simp[AB,h2]
 refine perm_acc rcw _ ?_ ?_ h
 ·have:=hp.map λi=>l.getD i Al
  rwa[hr]at this
 unfold Srt;rw[List.pairwise_map];have hs:=ho.sorted;have hnd:(zCx (zA4 (l.map (·.1))) (Ar l.length)).Nodup:=hp.nodup_iff.2 List.nodup_range;refine(hs.and hnd).imp_of_mem λ{a b} ha hb hab=>?_;have ha:=hp.mem_iff.1 ha;have hb:=hp.mem_iff.1 hb;have h1:=ho.neg a ha b hb;have h2:=ho.eq a ha b hb;have ha':a<l.length:=by simpa using ha
 have hb':b<l.length:=by simpa using hb
 have e:∀i,i<l.length->(l.map (·.1)).getD i []=(l.getD i Al).1:=λi hi=>by simp[AB,hi]
 have h3:zA4 (l.map (·.1)) a b≠0:=λh=>hab.2 (h2.1 h);have h4:zA4 (l.map (·.1)) a b<0:=by omega
 unfold zA4 at h4;rwa[e a ha',e b hb']at h4
end
section
open Go.RowKit
section
variable {α : Type} [Inhabited α]
theorem zPw{f:α->α->α}{r:Rw}{v:α}:∀{l:List (Rw×α)},(addT f r v l).map (·.2)=if r∈l.map (·.1)then(l.map (·.2)).set ((l.map (·.1)).idxOf r) (f ((l.map (·.2)).getD ((l.map (·.1)).idxOf r) Al) v)else l.map (·.2)++[v]
 |[]=>rfl
 | (s,u)::l=>by
  simp only[addT];by_cases e:s=r
  ·subst e;simp
  have ih:=zPw (f:=f) (r:=r) (v:=v) (l:=l);rw[if_neg e,AZ,ih];have e2:(s==r)=false:=by simpa using e
  simp only[AZ,Bb,Ne.symm e,false_or,CU,e2,cond_false];split
  ·simp
  simp
theorem zTm(f:α->α->α)(L:List (Rw×α))(i:Nat)(h:i<L.length):sumT f [] (L.take (i+1))=addT f (L.getD i Al).1 (L.getD i Al).2 (sumT f [] (L.take i)):=by
 rw[BP h,sumT,Cr,AB,AI h];rfl
theorem zTt(f:α->α->α)(L:List (Rw×α)):srtL (sumT f [] L)=acc rcmp f [] L:=by
 have hn:=zJ2 f L [] (by simp[Ndk]);have hp:(srtL (sumT f [] L)).Perm (sumT f [] L):=by
  rw[<-zEl hn];have h1:=(zB6 (zA4 ((sumT f [] L).map (·.1))) (Ar (sumT f [] L).length)).map λi=>(sumT f [] L).getD i Al;have hr:(Ar (sumT f [] L).length).map (λi=>(sumT f [] L).getD i Al)=sumT f [] L:=by
   apply BU (by simp);intro i h1 h2;simp[AB,h2]
  rwa[hr]at h1
 exact perm_sumT rcw f hp (zG1 rcw _ _ _ B7.nil)
end
theorem addT_sum(r:Rw)(v:Nat):∀(l:List (Rw×Nat)),((addT (· +·) r v l).map (·.2)).sum=(l.map (·.2)).sum+v
 |[]=>by simp[addT]
 |(s,u)::l=>by
  simp only[addT];split
  ·simp only[AZ,BC];omega
  simp only[AZ,BC,addT_sum r v l];omega
theorem zZj:∀(L l:List (Rw×Nat)),((sumT (· +·) l L).map (·.2)).sum=(l.map (·.2)).sum+(L.map (·.2)).sum
 |[],l=>by simp[sumT]
 |p::L,l=>by
  have:=zZj L (addT (· +·) p.1 p.2 l)
  rw[addT_sum]at this;simp only[sumT,BQ,AZ,BC]at this⊢;omega
theorem mem_le_sum{l:List Nat}{x:Nat}(h:x∈l):x<=l.sum:=by
 induction l with
 |nil=>simp at h
 |cons a l ih=>
  rw[BC];rcases Bb.1 h with rfl|h
  ·omega
  have:=ih h;omega
theorem zRl{α:Type}(f:α->α->α):∀(L l:List (Rw×α)),(sumT f l L).length<=l.length+L.length
 |[],l=>by simp[sumT]
 | p::L,l=>by
  have:=zRl f L (addT f p.1 p.2 l)
  have h2:((addT f p.1 p.2 l).map (·.1)).length<=l.length+1:=by
   rw[zGa];split<;>simp
  rw[AK]at h2;simp only[sumT,BQ,BH]at this⊢;omega
theorem zRm{α:Type}(f:α->α->α):∀(L l:List (Rw×α))(p:Rw×α),p∈sumT f l L->p.1∈l.map (·.1)\/p.1∈L.map (·.1)
 |[],l,p,h=> .inl (A6.2 ⟨p,h,rfl⟩)
 | q ::L,l,p,h=>by
  rcases zRm f L (addT f q.1 q.2 l) p h with h1|h1
  ·rw[zGa]at h1;split at h1
   ·exact .inl h1
   rcases Cu.1 h1 with h2|h2
   ·exact .inl h2
   simp only[B5]at h2;exact .inr (by rw[h2];simp)
  exact .inr (Bv _ h1)
theorem zCc(K:List Rw)(r:Rw):(K.findIdx? λs=>decide (r=s))=if r∈K then Am (K.idxOf r)else none:=by
 induction K with
 |nil=>rfl
 | cons s K ih=>
  rw[List.findIdx?_cons,ih];by_cases e:r=s
  ·subst e;simp
  have e2:(s==r)=false:=by simpa using λh:s=r=>e h.symm
  simp only[e,decide_false,B8,if_false,Bb,false_or,CU,e2,cond_false];split<;>simp
theorem look_i(K:List Rw)(r:Rw):zLb Ab (iD 0) (K.map kyv) (nsD (Ar K.length)) (kyv r)=if r∈K then .tup [iD (K.idxOf r:Nat),bD Ab]else .tup [iD 0,bD Ac]:=by
 unfold zLb;rw[zEg,zCc];split
 ·rename_i h;split at h
  ·rename_i hm;simp only[Cf.injEq]at h;subst h
   have:=Cl.2 hm
   simp[ctD,hm,AB,this]
  cases h
 rename_i h;split at h
 ·cases h
 rename_i hm;simp[ctD,hm]
theorem snd_le_sum{l:List (Rw×Nat)}{p:Rw×Nat}(h:p∈l):p.2<=(l.map (·.2)).sum:=by
 induction l with
 |nil=>simp at h
 |cons a l ih=>
  rw[AZ,BC];rcases Bb.1 h with rfl|h
  ·omega
  have:=ih h;omega
theorem zA6(l:List Nat)(k:Nat)(h:k<l.length):((nsD l).drop k).headD .unk=iD (l.getD k 0:Nat):=by simp_all
theorem zDv(l:List Nat)(k:Nat)(h:k<l.length):l.getD k 0∈l:=by
 grind
def mem32(m:Nat):List Nat:=(Ar 32).filter λv=>m.testBit v
theorem mem32_take(m i:Nat)(h:i<32):((Ar 32).take (i+1)).filter (λv=>m.testBit v)=((Ar 32).take i).filter (λv=>m.testBit v)++if m.testBit i then[i]else[]:=by
 rw[BP (by simpa using h),Ct];grind
theorem zSd(l:List Nat)(i:Nat):nsD (l++[i])=nsD l++[iD i]:=by simp
theorem zJ8(l:List Nat)(n:Nat)(h:l.length=n):(nsD l).take n=nsD l:=by grind [AT]
def zBp(p:Nat->Bool)(A:List Nat):List Nat:=(Ar A.length).filter λj=>p (A.getD j 0)
theorem zPi(p:Nat->Bool)(A:List Nat)(i:Nat)(h:i<A.length):((Ar A.length).take (i+1)).filter (λj=>p (A.getD j 0))=((Ar A.length).take i).filter (λj=>p (A.getD j 0))++if p (A.getD i 0)then[i]else[]:=by
 rw[BP (by simpa using h),Ct];grind
abbrev intB(l:List D):Bk:=⟨l,3,1,Ab,Ac, .plain⟩
end
section
open Go.RowKit
attribute [local irreducible] seqW awp zAa zAb zR Weak updS zAd retL Pure Acts rP setP setQ cP nP fr
set_option maxRecDepth 4096
abbrev fB1(a b c:D):Bk:=⟨[a,b,c],90,0,Ac,Ac, .plain⟩
set_option maxHeartbeats 1000000 in
theorem zQu(A:List Nat)(n:Nat)(hn:A.length=n)(hl:n<=1000)(hA:∀v∈A,v<32)(x y:List D)(k j:Nat):Pure As 87 [.agg [.row (nsD A) n, .row x k, .row y j]] [] (u32D (msk A)):=by
 subst hn;have hlt:∀i,msk (A.take i)<4294967296:=λi=>zCf λv hv=>hA v (List.mem_of_mem_take hv);refine zH zBt mixed Tryz.func87 rfl<|vAu<|vAe<|zB<|vA<|ve (True/\0<3)<|zF<|zN (λ(i:Nat)=>fr 19 [(2,Aj<|Ak AS (0:Int)),(3,u32D<|msk<|Av i A),(7,Ai (nsD A)<|Aa A),(8,iD (Aa A:Int)),(9,iD (i:Int))]) (λi=>[fB1 (.row (nsD A) A.length) (.row x k)<|.row y j]) (λi=>A.length-i) (λi=>i<=A.length) 0 ?_ ?_ ?_
 ·omega
 ·refine vk 1
 rintro i h1;have hi:=hlt i;rcases AF i A.length with h2|h2
 ·have h3:=hA _ (zDv A i h2);have h4:=zR9 h3;have h5:=zP1 hi h4;refine vAu<|zB<|vT ((i:Int)<↑(Aa A))<|vKB<|vA<|vr 1 (ix ↑i ↑(Aa A) (nsD A≠[])) ?_ ⟨(by omega),⟨(by omega),(by exact zW)⟩⟩;refine vp 11 i (nsD A)<|vr 1 (0<Aa (Ag i<|nsD A))<|vs 12 (AR (Ag i<|nsD A) Uk) (iD ↑(Ap A i 0)) (hd:=by simp(disch:=omega) only[zA6])<|veT<|zA rfl<|vr 3 ((0:Int)<=(↑(Ap A i 0):Int))<|vs 15 (Aj<|Ak AS<|A4 AS ((1:Int)*(2:Int)^min (Ax (↑(Ap A i 0):Int)) 32)) (dig ((2:Nat)^Ap A i 0)) (hd:=by simp(disch:=omega) only[A2,zG8])<|vrT 1<|vs 16 (Aj<|Ak AS<|A4 AS (↑(A0 (Az 32 (↑(msk<|Av i A):Int)|||Az 32 (↑((2:Nat)^Ap A i 0):Int))):Int)) (dig (msk (Av i A)|||(2:Nat)^Ap A i 0)) (hd:=by simp(disch:=omega) only[zWs,zBx])<|vrT 1<|vnil<|zD<|vN<|zA rfl<|vr 2 (i6 (↑i+1))<|vnil<|zC<|⟨i+1,by omega,by omega,?_⟩;rw[msk_succ A i h2];refine vk 1
 refine vAu<|zB<|vF ((i:Int)<(Aa A:Int))<|vZ2<|vAe<|zG<|vre (True) (dig<|msk<|Av i A) (.inr rfl) ?_;rw[AT h2]
set_option maxHeartbeats 1000000 in
theorem zKa(m:Nat)(hm:m<4294967296):Pure As 88 [u32D m] [] (.row (nsD (mem32 m)) (mem32 m).length):=by
 refine zH zBt mixed Tryz.func88 rfl<|vAu<|vAe<|zB<|vAe<|zF<|zBq (λ(i:Nat)(l:List Nat)=>fr 19 [(0,u32D m),(2,nl),(3,Af 0 0 (Aa l) (Aa l) Ab),(5,iD (i:Int))]) (λi l=>[intB<|nsD l]) (λi l=>32-i) (λ(i:Nat)(l:List Nat)=>i<=32/\l=((Ar 32).take i).filter λv=>m.testBit v) 0 [] ?_ ?_ ?_
 ·exact⟨by omega,by simp⟩
 ·refine vk 0
 rintro i l ⟨h1,h2⟩;rcases AF i 32 with h3|h3
 ·have h4:=mem32_take m i h3;rw[<-h2]at h4;have hlen:l.length<=32:=by rw[h2];exact AV (Bw _ _) (by simp;omega)
  focus
   refine vAu<|zB<|vT ((i:Int)<(32:Int))<|vKB<|vAe<|vA<|vr 3 ((0:Int)<=(i:Int))<|vs 10 (Aj<|Ak AS<|A1 (m:Int) ((2:Int)^min (Ax (i:Int)) 32)) (dig (m>>>i)) (hd:=by simp(disch:=omega) only[A2,zG7])<|vrT 1<|vs 11 (Aj<|Ak AS<|A4 AS (↑(A0 (Az 32 (↑(m>>>i):Int)&&&Az 32 (1:Int))):Int)) (dig<|A0 (Az 32 (↑(m>>>i):Int)&&&Az 32 (1:Int))) (hd:=by simp(disch:=omega) only[zBx])<|vrT 1<|vs 12 (bD ((↑(A0 (Az 32 (↑(m>>>i):Int)&&&Az 32 (1:Int))):Int)==(1:Int))) (bD<|CF m i) (hd:=by simp(disch:=omega) only[bit_b])<|veT<|zAi (t:=CF m i) (by kernel_rfl) (λhc=>?_)<|λhc=>?_;refine zA rfl<|vr 5 (((1=1/\1<=1/\True)/\0<1/\1=1/\1<=16777216/\1<=9223372036854775807)/\Bi (intB<|nsD l)=Ab/\Aa (AJ<|intB<|nsD l)=Aa l*1/\Aa l=Aa l*1/\A9 (intB<|nsD l)=3/\A_ (intB<|nsD l)=1/\1=1/\0<1/\0<8/\3=3/\(Aa l+1)*8<=140737488355328/\1=1/\AW (AO<|intB<|nsD l)=Ac/\(Ac=Ac\/AX (AO<|intB<|nsD l)=Ab))<|vs 3 (Af 0 0 (Aa l+1) ((Aa l+1)*1) Ab) (Af 0 0 (Aa l+1) (Aa l+1) Ab) (hd:=by simp(disch:=omega) only[AQ])<|vnil<|zD<|vN<|zA rfl<|vr 2 (i6 (↑i+1))<|vnil<|zC ?_;rotate_left;refine zM<|zD<|vN<|zA rfl<|vr 2 (i6 (↑i+1))<|vnil<|zC ?_;rotate_left
  ·have hc2:m.testBit i=true:=by assumption
   rw[hc2,if_pos rfl]at h4;refine⟨i+1,l++[i],⟨by omega,h4.symm⟩,by omega,?_⟩;rw[zSd,AU];refine vk 1
  have hc2:m.testBit i=false:=by assumption
  rw[hc2,if_neg (by decide),BA]at h4;refine⟨i+1,l,⟨by omega,h4.symm⟩,by omega,?_⟩;refine vk 1
 refine vAu<|zB<|vF ((i:Int)<(32:Int))<|vZ2<|vAe<|zG<|zB3 (True) (Ai (Av (Aa l)<|Ag 0<|AJ<|intB<|nsD l)<|Aa l) (Ai (Av (Aa l)<|nsD l)<|Aa l) (.inr rfl) (by simp(disch:=omega) only[A8]) ?_;have e:i=32:=by omega
 subst e;rw[AT (by simp)]at h2;rw[h2,zJ8 _ _ rfl];rfl
set_option maxHeartbeats 1000000 in
theorem zD5(A B:List Nat)(n:Nat)(hn:A.length=n)(hA:∀v∈A,v<32)(m:Nat)(hm:m<4294967296)(hl:n<=1000:=by omega):Pure As 93 [.row (nsD A) n,u32D m] [] (.row (nsD (zBp (λv=>m.testBit v) A)) (zBp (λv=>m.testBit v) A).length):=by
 subst hn;refine zH zBt mixed Tryz.func93 rfl<|vAu<|vAe<|zB<|vAe<|zF<|zBq (λ(i:Nat)(l:List Nat)=>fr 26 [(1,u32D m),(4,nl),(5,Af 0 0 (Aa l) (Aa l) Ab),(8,Ai (nsD A)<|Aa A),(9,iD (Aa A:Int)),(10,iD (i:Int))]) (λi l=>[intB<|nsD l]) (λi l=>A.length-i) (λ(i:Nat)(l:List Nat)=>i<=A.length/\l=((Ar A.length).take i).filter λj=>m.testBit (A.getD j 0)) 0 [] ?_ ?_ ?_
 ·exact⟨by omega,by simp⟩
 ·refine vk 0
 rintro i l ⟨h1,h2⟩;rcases AF i A.length with h3|h3
 ·have h4:=zPi (λv=>m.testBit v) A i h3;rw[<-h2]at h4;have hlen:l.length<=1000:=by rw[h2];exact AV (Bw _ _) (by simp;omega)
  have h5:=hA _ (zDv A i h3);focus
   refine vAu<|zB<|vT ((i:Int)<↑(Aa A))<|vKB<|vA<|vr 2 (ix ↑i ↑(Aa A) (nsD A≠[])) ?_ ⟨(by omega),⟨(by omega),(by exact zW)⟩⟩;refine vp 13 i (nsD A)<|vr 1 (0<Aa (Ag i<|nsD A))<|vs 14 (AR (Ag i<|nsD A) Uk) (iD ↑(Ap A i 0)) (hd:=by simp(disch:=omega) only[zA6])<|veT<|vA<|vr 3 ((0:Int)<=(↑(Ap A i 0):Int))<|vs 17 (Aj<|Ak AS<|A1 (m:Int) ((2:Int)^min (Ax (↑(Ap A i 0):Int)) 32)) (dig (m>>>Ap A i 0)) (hd:=by simp(disch:=omega) only[A2,zG7])<|vrT 1<|vs 18 (Aj<|Ak AS<|A4 AS (↑(A0 (Az 32 (↑(m>>>Ap A i 0):Int)&&&Az 32 (1:Int))):Int)) (dig<|A0 (Az 32 (↑(m>>>Ap A i 0):Int)&&&Az 32 (1:Int))) (hd:=by simp(disch:=omega) only[zBx])<|vrT 1<|vs 19 (bD ((↑(A0 (Az 32 (↑(m>>>Ap A i 0):Int)&&&Az 32 (1:Int))):Int)==(1:Int))) (bD<|CF m<|Ap A i 0) (hd:=by simp(disch:=omega) only[bit_b])<|veT<|zAi (t:=CF m (Ap A i 0)) (by kernel_rfl) (λhc=>?_)<|λhc=>?_;refine zA rfl<|vr 5 (((1=1/\1<=1/\True)/\0<1/\1=1/\1<=16777216/\1<=9223372036854775807)/\Bi (intB<|nsD l)=Ab/\Aa (AJ<|intB<|nsD l)=Aa l*1/\Aa l=Aa l*1/\A9 (intB<|nsD l)=3/\A_ (intB<|nsD l)=1/\1=1/\0<1/\0<8/\3=3/\(Aa l+1)*8<=140737488355328/\1=1/\AW (AO<|intB<|nsD l)=Ac/\(Ac=Ac\/AX (AO<|intB<|nsD l)=Ab))<|vs 5 (Af 0 0 (Aa l+1) ((Aa l+1)*1) Ab) (Af 0 0 (Aa l+1) (Aa l+1) Ab) (hd:=by simp(disch:=omega) only[AQ])<|vnil<|zD<|vN<|zA rfl<|vr 2 (i6 (↑i+1))<|vnil<|zC ?_;rotate_left;refine zM<|zD<|vN<|zA rfl<|vr 2 (i6 (↑i+1))<|vnil<|zC ?_;rotate_left
  ·have hc2:m.testBit (A.getD i 0)=true:=by assumption
   rw[hc2,if_pos rfl]at h4;refine⟨i+1,l++[i],⟨by omega,h4.symm⟩,by omega,?_⟩;rw[zSd,AU];refine vk 1
  have hc2:m.testBit (A.getD i 0)=false:=by assumption
  rw[hc2,if_neg (by decide),BA]at h4;refine⟨i+1,l,⟨by omega,h4.symm⟩,by omega,?_⟩;refine vk 1
 refine vAu<|zB<|vF ((i:Int)<(Aa A:Int))<|vZ2<|vAe<|zG<|zB3 (True) (Ai (Av (Aa l)<|Ag 0<|AJ<|intB<|nsD l)<|Aa l) (Ai (Av (Aa l)<|nsD l)<|Aa l) (.inr rfl) (by simp(disch:=omega) only[A8]) ?_;have e:i=A.length:=by omega
 subst e;rw[AT (by simp)]at h2;rw[h2,zJ8 _ _ rfl];rfl
theorem pickV_vs(x:List Va)(cols:List Nat)(h:∀v∈x,Vs v):∀v∈zQ x cols,Vs v:=by
 intro v hv;obtain⟨c,_,rfl⟩:=A6.1 hv;rw[AB];cases e:x[c]? with
 |none=>exact⟨by decide,by decide,by decide⟩
 |some u=>exact h u (Ce e)
theorem zSp(x:List Va)(cols:List Nat)(n m:Nat)(hn:x.length=n)(hm:cols.length=m)(hc:∀c∈cols,c<x.length)(hv:∀v∈x,Vs v)(ln:n<=10000:=by omega)(lm:m<=10000:=by omega):Pure As 94 [.row (zL x) n, .row (nsD cols) m] [] (strD (idR (zQ x cols))):=by
 have h1:=zHx x cols n m hn hm (by omega) (by omega) hc;have h2:=rkey_c (zQ x cols) m (by simp[zQ,hm]) lm (pickV_vs x cols hv);refine zH zBt mixed Tryz.func94 rfl<|vAu<|vA<|vrT 2<|vc (h1)<|ve (0<2/\1<2)<|vA<|vrT 1<|vc (h2)<|veT<|zG<|vret (True)<|.inr rfl
abbrev flC(f:List Nat×List (List Va)):List D:=[.row (nsD f.1) f.1.length, .mfz (f.2.map kyv) (f.2.map λ_=>bD Ab)]
theorem zJo(f:List Nat×List (List Va)):(flC f).length=2:=rfl
theorem look_b(K:List (List Va))(r:List Va):zLb Ac (bD Ac) (K.map kyv) (K.map λ_=>bD Ab) (kyv r)=bD (decide (r∈K)):=by
 unfold zLb;rw[zEg];cases e:K.findIdx? λs=>decide (r=s)with
 |none=>
  rw[C1]at e;have:r∉K:=λh=>by have:=e r h;simp at this
  simp[ctD,this]
 | some i=>
  rw[C2]at e;obtain⟨h,h1,_⟩:=e;have:r∈K:=by
   have e2:r=K[i]:=by simpa using h1
   rw[e2];exact A7 h
  simp[ctD,this,AB,h]
abbrev flB1(a b:D):Bk:=⟨[a,b],203,0,Ac,Ac, .plain⟩
set_option maxHeartbeats 1000000 in
theorem passes_c(fs:List (List Nat×List (List Va)))(n:Nat)(hn:fs.length=n)(hl:n<=1000)(x:List Va)(m:Nat)(hm:x.length=m)(lm:m<=10000)(hv:∀v∈x,Vs v)(hcs:∀f∈fs,f.1.length<=1000/\∀c∈f.1,c<x.length):Pure As 96 [.row (fs.flatMap flC) n, .row (zL x) m] [] (bD (fs.all λf=>decide (zQ x f.1∈f.2))):=by
 subst hn;refine zH zBt mixed Tryz.func96 rfl<|vAu<|zB<|vAe<|zF<|zN (λ(i:Nat)=>fr 22 [(1,Ai (zL x) m),(7,Ai (AE flC fs)<|Aa fs),(8,iD (Aa fs:Int)),(9,iD (i:Int))]) (λ_=>[]) (λi=>fs.length-i) (λi=>i<=fs.length/\(fs.take i).all (λf=>decide (zQ x f.1∈f.2))=Ab) 0 ?_ ?_ ?_
 ·exact⟨by omega,by simp⟩
 ·refine vk 0
 rintro i ⟨h1,h2⟩;rcases AF i fs.length with h3|h3
 ·have hf:fs.getD i Al∈fs:=by rw[AB,AI h3];exact A7 h3
  have hk:=zSp x (fs.getD i Al).1 m _ hm rfl (hcs _ hf).2 hv (ln:=lm) (lm:=by have:=(hcs _ hf).1;omega);have hs:=all_step (λf:List Nat×List (List Va)=>decide (zQ x f.1∈f.2)) Al fs i h3;rw[h2,Bool.true_and]at hs;have hg:=zDg zJo fs i h3;have hle:=zFp zJo fs i h3;have hne:=zEi zJo (by decide) fs;generalize hfe:fs.getD i Al=f at*;focus
   refine vAu (zB (vT ((i:Int)<↑(Aa fs)) (vKB (vA (vr 2 (ix ↑i ↑(Aa fs) (AE flC fs≠[])/\2<=Aa (Ag (i*2) (AE flC fs))) (vs 12 (Ay (Av 2 (Ag (i*2) (AE flC fs)))) (Ay (flC f)) (hd:=by simp(disch:=omega) only[hg]) (ve (Ac=Ac/\Ab=Ab/\2=2/\2<=2) (zB (vd [0,2,3,1,4,5,6,7] (vr 5 (True/\True/\0<1/\0<2) (vc hk (vwh 1 [] [] (zX (Bj (Bl Bm "string" 1 16 Ab 8 8 (Am (AN (AY #[]))) Ab #[])) (AN (bs (idR (zQ x (An f)))))=Ab/\B_ (Ad kyv (AD f)) (zX (Bj (Bl Bm "string" 1 16 Ab 8 8 (Am (AN (AY #[]))) Ab #[])))=Ab) ?_ ?_))))))))))));rotate_left;refine vs 19 (zLb Ac (bD Ac) (Ad kyv (AD f)) (Ad (λ(x:List Va)=>bD Ab) (AD f)) (AN (bs (idR (zQ x (An f)))))) (bD (decide (zQ x (An f)∈AD f))) (hd:=by simp(disch:=omega) only[look_b]) (veT (zAi (t:=!decide (zQ x (An f)∈AD f)) (by kernel_rfl) (λhc=>?_) (λhc=>?_)));simp only[Cz]at hc;refine vAe (zG (zJ (zE (zE (zJ (zE (vre (True) (Aj (BV Ac)) (.inr rfl) ?_)))))));rotate_left;simp only[CV]at hc;refine zM (zD (vN (zA rfl (vr 2 (i6 (↑i+1)) (vnil (zC ?_))))));rotate_left
  ·exact⟨rfl,zDh _⟩
  ·congr 2;symm;refine all_no _ Al fs i h3 ?_;rw[hfe];simpa using hc
  refine⟨i+1,⟨by omega,?_⟩,by omega,?_⟩
  ·rw[hs];simpa using hc
  refine vk 0
 refine vAu<|zB<|vF ((i:Int)<(Aa fs:Int))<|vZ2<|vAe<|zG<|vre (True) (Aj<|BV Ab) (.inr rfl) ?_;have e:i=fs.length:=by omega
 subst e;rw[Cg]at h2;rw[h2]
def addK(K:List (List Va))(r:List Va):List (List Va):=if r∈K then K else K++[r]
def allK(L:List (List Va)):List (List Va):=L.foldl addK []
theorem zH6(L:List (List Va))(r:List Va):r∈allK L↔r∈L:=by
 have key:∀(L K:List (List Va)),r∈L.foldl addK K↔r∈K\/r∈L:=by
  intro L;induction L with
  |nil=>intro K;simp
  | cons a L ih=>
   intro K;rw[BQ,ih];unfold addK;split
   ·rename_i h;constructor
    ·rintro(h1|h1)
     ·exact .inl h1
     exact .inr (Bv _ h1)
    rintro(h1|h1)
    ·exact .inl h1
    rcases Bb.1 h1 with rfl|h2
    ·exact .inl h
    exact .inr h2
   simp[or_assoc]
 rw[allK,key];simp
theorem zW0(L:List (List Va))(i:Nat)(h:i<L.length):allK (L.take (i+1))=addK (allK (L.take i)) (L.getD i []):=by
 rw[BP h,allK,Cr,AB,AI h];rfl
abbrev mapB(K:List (List Va)):Bk:=⟨K.map λ_=>bD Ab,201,0,Ab,Ac, .map (K.map kyv)⟩
theorem mput_b(K:List (List Va))(r:List Va):mput (mapB K) (K.map kyv) (kyv r) (bD Ab)=mapB (addK K r):=by
 unfold mput addK;rw[zEg];cases e:K.findIdx? λs=>decide (r=s)with
 |none=>
  rw[C1]at e;have:r∉K:=λh=>by have:=e r h;simp at this
  simp[this]
 | some i=>
  rw[C2]at e;obtain⟨h,h1,_⟩:=e;have:r∈K:=by
   have e2:r=K[i]:=by simpa using h1
   rw[e2];exact A7 h
  rw[if_pos this];simp only[mapB];congr 1;apply BU (by simp);intro j h1 h2;simp[List.getElem_set]
abbrev q10_(x0:List Nat):=Ai (nsD x0) (Aa x0)
set_option maxHeartbeats 1000000 in
theorem filterOf_c(A U:List Nat)(a u nv:Nat)(ha:A.length=a)(hu:U.length=u)(la:a<=32)(lu:u<=32)(hA:∀v∈A,v<32)(hU:∀v∈U,v<32)(rows:List (List Va))(n:Nat)(hn:rows.length=n)(ln:n<=1000000)(hr:∀r∈rows,r.length=a)(hv:∀r∈rows,∀v∈r,Vs v)(y:List D)(m:Nat)(hm:m<4294967296):
  Pure As 92 [.agg [.row (nsD A) a, .row (rows.map rowV) n, .row y nv], .row (nsD U) u,u32D m] [] (.agg (flC (zBp (λv=>(msk A&&&m).testBit v) U,allK (rows.map λr=>zQ r (zBp (λv=>(msk A&&&m).testBit v) A))))):=by
 subst hn ha hu;have hma:=zCf hA;have h1:=zQu A _ rfl (by omega) hA (rows.map rowV) y rows.length nv;have h5:=zWz (b:=m) hma;have h2:=zD5 U U _ rfl hU _ h5;have h3:=zD5 A A _ rfl hA _ h5;refine zH zBt mixed Tryz.func92 rfl<|vAu<|vA<|vr 1 (3<=3)<|vc (h1)<|vrT 2<|vs 15 (Aj<|Ak AS<|A4 AS (↑(A0 (Az 32 (↑(msk A):Int)&&&Az 32 (m:Int))):Int)) (dig (msk A&&&m)) (hd:=by simp(disch:=omega) only[bv_and,zBx])<|veT<|vA<|vrT 2<|vc (h2)<|ve (True/\((1=1/\1<=2/\1=1/\2<=2/\True)/\Ab=Ab)/\Ac=Ac/\Ab=Ab/\2=2/\2<=2)<|vA<|vr 3 (True/\0<3)<|vc (h3)<|veT<|zB<|vA<|ve (True/\0<2)<|zF ?_;obtain⟨cA,hcA⟩:∃cA,cA=zBp (λv=>(msk A&&&m).testBit v) A:=⟨_,rfl⟩;obtain⟨cU,hcU⟩:∃cU,cU=zBp (λv=>(msk A&&&m).testBit v) U:=⟨_,rfl⟩;have hcl:∀c∈cA,c<A.length:=λc h=>by
  rw[hcA]at h;simpa using(Br.1 h).1
 have hcn:cA.length<=1000:=by rw[hcA];exact AV (Bw _ _) (by simp;omega)
 rw[<-hcA,<-hcU];refine zN (λ(i:Nat)=>fr 39 [(6,Ae 1 0),(8,Ae 3 0),(9,(q10_ cA)),(26,Ai (Ad rowV rows)<|Aa rows),(27,iD<|Aa rows),(28,iD i)]) (λi=>[fB1 (.row (nsD A) A.length) (.row (rows.map rowV) rows.length)<|.row y nv,flB1 nl<|.val<|.map AM,mapB<|allK<|(rows.map λr=>zQ r cA).take i,flB1 (.row (nsD cU) cU.length)<|.mref 2]) (λi=>rows.length-i) (λi=>i<=rows.length) 0 ?_ ?_ ?_
 ·omega
 ·refine vk 4
 rintro i h6;rcases AF i rows.length with h7|h7
 ·have hd:((rows.map rowV).drop i).headD .unk=rowV (rows.getD i []):=zDe rowV rows [] i h7;have hm:rows.getD i []∈rows:=by rw[AB,AI h7];exact A7 h7
  have hk:=zSp (rows.getD i []) cA _ _ rfl rfl (by rw[hr _ hm];exact hcl) (hv _ hm) (ln:=by rw[hr _ hm];omega);have hs:=zW0 (rows.map λr=>zQ r cA) i (by simpa using h7);rw[show(rows.map λr=>zQ r cA).getD i []=zQ (rows.getD i []) cA by simp[AB,h7]]at hs;generalize allK ((rows.map λr=>zQ r cA).take i)=K at*;focus
   refine vAu (zB (vT ((i:Int)<↑(Aa rows)) (vKB (vA (vr 1 (ix ↑i ↑(Aa rows) (Ad rowV rows≠[])) ?_ ⟨(by omega),⟨(by omega),(by exact zW)⟩⟩)))));refine vp 30 i (Ad rowV rows) (vr 1 (0<Aa (Ag i (Ad rowV rows))) (vsh 31 hd (veT (vd [0,2,3,1,4,5] (vr 4 (True/\0<1) (vc hk (vwh 1 [] [] (Bk.fz (mapB K)=Ac/\zX (Bj (Bl Bm "string" 1 16 Ab 8 8 (Am (AN (AY #[]))) Ab #[])) (AN (bs (idR (zQ (Ap rows i []) cA))))=Ab/\B_ (Ad kyv K) (zX (Bj (Bl Bm "string" 1 16 Ab 8 8 (Am (AN (AY #[]))) Ab #[])))=Ab/\¬2∈[]) ?_ ?_)))))));rotate_left;refine vnil (zD (vN (zA rfl (vr 2 (i6 (↑i+1)) (vnil (zC ?_))))));rotate_left
  ·exact⟨rfl,rfl,zDh _,by simp⟩
  refine⟨i+1,by omega,by omega,?_⟩;rw[hs];have hmp:=mput_b K (zQ (rows.getD i []) cA);refine wkn (fr 39 [(6,Ae 1 0),(8,Ae 3 0),(9,(q10_ cA)),(11,Ai (zL (Ap rows i [])) (Aa (Ap rows i []))),(26,Ai (Ad rowV rows) (Aa rows)),(27,iD (Aa rows)),(28,iD ↑(i+1)),(32,Ae 3 1),(33,D.mref 2),(34,Ai (zL (Ap rows i [])) (Aa (Ap rows i []))),(35,(q10_ cA)),(36,Aj (AN (bs (idR (zQ (Ap rows i []) cA))))),(37,iD ↑(i+1))]) [fB1 ((q10_ A)) (Ai (Ad rowV rows) (Aa rows)) (Ai y nv),flB1 nl (Aj (Value.map AM)),mput (mapB K) (Ad kyv K) (AN (bs (idR (zQ (Ap rows i []) cA)))) (bD Ab),flB1 ((q10_ cU)) (D.mref 2)] ?_;rw[hmp];refine vk 4
 refine vAu<|zB<|vF ((i:Int)<(Aa rows:Int))<|vZ2<|vA<|ve (2<=2/\Ac=Ac/\Ab=Ab/\2=2/\2<=2)<|zG<|vre (2<=2) (Ay [Ai (nsD cU)<|Aa cU,D.mfz (Ad kyv<|allK<|Av i<|Ad (λ(r:List Va)=>zQ r cA) rows)<|Ad (λ(x:List Va)=>bD Ab)<|allK<|Av i<|Ad (λ(r:List Va)=>zQ r cA) rows]) (.inr rfl) ?_;rw[AT (by simp;omega)]
end
section
open Go.RowKit Go.Sort Go.Lib Go.Shelf
theorem zZ9{st:List Bk}{k n lim:Nat}{e:Bk}{wh:Bool}{zs:List Nat}{cf:Nat->Nat->Int}{g:FuncId}{caps caps':List D}{ks:List Nat}(he:st[k]?=Am e)(ha:e.arr=Ab)(hkd:e.kd= .plain)(hf:e.fz=Ac)(hc:e.cells=nsD zs)(hn:zs.length=n)(hb:n<=1000000)(hpos:0<n)(hlim:lim<4611686018427387904)
  (hfr:frz Ab st zAy (.clo (.func g) [] caps)=Am (.clo (.func g) [] caps',ks))(hnk:k∉ks)(eg:∀args w,(callFunc g args).run As w= .ok (.enter g args) w)
  (hO:On zs cf)(hcmp:∀x∈zs,∀y∈zs,Pure As g (iD x::iD y::caps') [] (iD (cf x y))):
  Acts As 164 [.osl k 0 n n wh, .val (.int .i64 (0:Nat)), .val (.int .i64 n), .val (.int .i64 lim), .clo (.func g) [] caps] st [] (.val (.tuple #[])) ((zA1 st ks).set k {e with cells:=nsD (zCx cf zs)}):=by
 have hsl:(zCx cf zs).length=n:=by rw[(zB6 cf zs).length_eq,hn]
 refine zRe (us3:=[.int .i64 0, .int .i64 n, .int .i64 lim]) he ha hkd hf (by rw[hc,AK,hn]) (by rw[AK,hsl]) hpos hfr hnk ?_;intro I b c w us cb hi hgl hno hcb hr hcur hcell hfz hcap;rw[hc]at hr;let α:={z//z∈zs};let xs:List α:=zs.attach;let enc:α->Value:=λx=> .int .i64 (x.1:Nat);have hat:xs.map (·.1)=zs:=List.attach_map_subtype_val zs;have hxl:xs.length=n:=by rw[<-hn,<-AK (f:=λz:α=>z.1),hat]
 have hus:us=xs.map enc:=by
  have:∀(zs:List Nat)(us:List Value),RelL I w noB (nsD zs) us->us=zs.map λz=>Ak .i64 (z:Nat):=by
   intro zs;induction zs with
   |nil=>intro us h;simp only[BE,RelL]at h;rw[h];rfl
   |cons z zs ih=>
    intro us h;simp only[AZ,RelL,Rel]at h;obtain⟨v,us',rfl,_,rfl,h4⟩:=h;rw[ih us' h4];rfl
  rw[this zs us hr];conv=>lhs;rw[<-hat,Ca]
  rfl
 obtain⟨x0,hx0⟩:∃x0,xs[0]?=Am x0:=⟨xs[0]'(by omega),AI (by omega)⟩
 haveI:Inhabited α:=⟨x0⟩;have hH:Holds enc w b 0 xs.toArray:=λj hj=>by
  have hj':j<n:=by simpa[hxl]using hj
  refine⟨?_,hfz j hj'⟩;rw[hcell j hj',hus];simp[Ap,hxl,hj']
 obtain⟨cur,t,hcur⟩:=hcur;have hblk:b<w.heap.size:=by
  rw[Array.getElem?_eq_some_iff]at hcur;exact hcur.1
 have hone:OneCell enc:=λx=>rfl;have hworld:∀(m:Nat)(os:Array Obj)(ys:List α),ys.length=n->sortWorld enc w b 0 m ys.toArray os=grow ((w.drewN m).setCells b 0 (ys.map enc)) os:=λm os ys hy=>by
  unfold sortWorld;rw[putRow_eq_setCells enc w b 0 xs.toArray ys m hH (by simp[hy,hxl])]
 have hfix:∀(m:Nat)(os:Array Obj)(dk:Array α),dk.size=n->Fix I w I (sortWorld enc w b 0 m dk os)/\w.heap.size<=(sortWorld enc w b 0 m dk os).heap.size:=λm os dk hd=>by
  have e1:=hworld m os dk.toList (by simpa using hd);simp only[Array.toArray_toList]at e1;rw[e1];obtain⟨s1,s2,s3,s4,s5,s6⟩:=zEf b t (dk.toList.map enc) 0 (w.drewN m) cur.toList (by simpa using hcur);refine⟨λb' o' hb'=>?_,?_⟩
  ·have hne:b'≠b:=λe=>hno o' (e▸hb');have hlt:=hi b' o' hb';refine⟨hb',λv hv=>?_,λks vs hm=>?_⟩
   ·simp only[World.cell?]at hv⊢;rw[zD2 _ os (by rw[s3];exact hlt),s2 b' hne];exact hv
   refine hm.of_heap ?_;rw[zD2 _ os (by rw[s3];exact hlt),s2 b' hne];rfl
  simp only[Go.Sort.size_grow,s3];show w.heap.size<=w.heap.size+os.size;omega
 have hcmp:CmpLays1 As g cb.toArray enc (λx y:α=>cf x.1 y.1) b 0 xs.toArray.size w:=by
  intro m os dk hd x y;have hd':dk.size=n:=by simpa[hxl]using hd
  obtain⟨hfx,hsz⟩:=hfix m os dk hd';have hr2:RelT I (sortWorld enc w b 0 m dk os) noB (iD (x.1:Nat)::iD (y.1:Nat)::caps') (enc x::enc y::cb):=by
   simp only[RelT,Rel];exact⟨_,_,rfl,rfl,_,_,rfl,rfl,RelT.mono hfx noB noB (BeLe.refl _) _ _ hcb⟩
  have e1:(#[enc x,enc y]++cb.toArray)=(enc x::enc y::cb).toArray:=by apply Array.ext';simp
  rw[e1];refine(hcmp x.1 x.2 y.1 y.2 I _ _ hr2 (λb o h=>Nat.lt_of_lt_of_le (hi b o h) hsz) (hgl.mono hfx)).mono ?_;rintro e' w' ⟨v,I',γ,rfl,hx,_,_,_,_,_,_,_,_,hv,_⟩;simp only[Rel]at hv;subst hv;exact⟨rfl,ext_grow hx⟩
 have hsz:xs.toArray.size=n:=by simp[hxl]
 have main:=Tryz.pdqsortCmpFunc_all_f164 enc (λx y:α=>cf x.1 y.1) g cb.toArray hO.swo b 0 c xs.toArray w eg hcmp ⟨hone,hH,hblk⟩ (n+1) 0 n lim xs.toArray w (by omega) rfl (SW.start hH) (BY _) (by omega) (by omega) hlim (.inl rfl);rw[hsz]at main;refine main.mono ?_;rintro x w' ⟨rfl,q,os,rfl⟩;obtain⟨hp,hso⟩:=pdq_sorts (ltOf λx y:α=>cf x.1 y.1) hO.swo xs.toArray 0 n lim Ab Ab (BY _) (by omega) (.inl rfl);generalize pdq (ltOf λx y:α=>cf x.1 y.1) xs.toArray 0 n lim Ab Ab=d' at*;have hd':d'.size=n:=by rw[hp.1,hsz]
 have hperm:d'.toList.Perm xs:=by
  have:=hp.2.2
  rw[show d'.extract 0 n=d' by rw[<-hd'];exact Array.extract_size,show xs.toArray.extract 0 n=xs.toArray by rw[<-hsz];exact Array.extract_size]at this;simpa using this
 have hl2:d'.toList.map (·.1)=zCx cf zs:=by
  refine hO.uniq ?_ ?_
  ·have:=hperm.map (·.1)
   rwa[hat]at this
  rw[List.pairwise_map,List.pairwise_iff_getElem];intro i j hi' hj' hij;have hi2:i<d'.size:=by simpa using hi'
  have hj2:j<d'.size:=by simpa using hj'
  have:=hso i j (BY _) hij (by omega)
  rw[getElem!_pos d' j hj2,getElem!_pos d' i hi2]at this;simpa[ltOf]using this
 refine⟨rfl,d'.toList.map enc,q,os,?_,?_⟩
 ·have:=hworld q os d'.toList (by simpa using hd')
  simp only[Array.toArray_toList]at this;rw[this]
 rw[<-hl2];have:∀(l:List α),RelL I w noB (nsD (l.map (·.1))) (l.map enc):=by
  intro l;induction l with
  |nil=>simp only[BE,RelL]
  |cons x l ih=>
   simp only[AZ,RelL,Rel];exact⟨_,_,rfl,rfl,rfl,by simpa using ih⟩
 exact this _
end
section
open Go.RowKit
attribute [local irreducible] seqW awp zAa zAb zR Weak updS zAd retL Pure Acts rP setP setQ cP nP fr
set_option maxRecDepth 4096
theorem blen_c(n:Nat)(hn:n<18446744073709551616):Pure As 152 [.val (.int .u64 n)] [] (.val (.int .i64 (BJ n))):=
 zC4 (us:=[.int .u64 n]) (λw=>(Tryz.bits_Len n w (by omega) (by omega)).mono λe w' h=>⟨by rw[h.1];simp,h.2.symm⟩)
theorem zAh(l:List (List Va))(k:Nat)(h:k<l.length):((l.map rowV).drop k).headD .unk=rowV (l.getD k []):=zDe rowV l [] k h
def Ts:Par:=⟨λf=>f==143||f==164||f==178,λ_ _=>AM,λk=>decide (k<3),λ_=>Ac,λ_=>Ac⟩
theorem zP6:zBi As Ts:=by intro t n f h;cases h
theorem zVv{st:List Bk}(h:st.length=3):∀k,k<st.length->Ts.keep k=true:=λk hk=>by
 show decide (k<3)=Ab;rw[decide_eq_true_eq];omega
theorem keep3F:∀k,3<=k->Ts.keep k=false:=λk hk=>by
 show decide (k<3)=Ac;rw[decide_eq_false_iff_not];omega
theorem less_c(rows:List (List Va))(n:Nat)(x y:D)(hn:rows.length=n)(i j:Nat)(hi:i<n)(hj:j<n)(hl:∀r∈rows,r.length<=1000000):Pure As 144 [iD i,iD j, .ptr [x, .row (rows.map rowV) n,y]] [] (iD (zA4 rows i j)):=by
 subst hn;have g:∀i,i<rows.length->(rows.getD i []).length<=1000000:=λi hi=>by
  rw[AB,AI hi];exact hl _ (A7 hi)
 have g1:=g i hi;have g2:=g j hj;refine zH zP6 mixed Tryz.func144 rfl<|vAu<|zB<|vd [0,2,5,7,1,3,4,6,8,9,10,11]<|vr 6 (True/\True/\0<2/\ix (i:Int) (Aa rows:Int) (Ad rowV rows≠[])) (vp 9 (i) (Ad rowV rows)<|vr 1 (0<Aa (Ag i<|Ad rowV rows))<|vs 10 (AR (Ag i<|Ad rowV rows) Uk) (rowV<|Ap rows i []) (hd:=by simp(disch:=omega) only[zAh])<|vr 2 (0<2/\ix (j:Int) (Aa rows:Int) (Ad rowV rows≠[])) (vp 14 (j) (Ad rowV rows)<|vr 1 (0<Aa (Ag j<|Ad rowV rows))<|vs 15 (AR (Ag j<|Ad rowV rows) Uk) (rowV<|Ap rows j []) (hd:=by simp(disch:=omega) only[zAh]) ?_) ⟨(by omega),⟨(by omega),⟨(by omega),(by exact zW)⟩⟩⟩) ⟨trivial,trivial,(by omega),⟨(by omega),⟨(by omega),(by exact zW)⟩⟩⟩;refine vca [Ai (zL<|Ap rows i [])<|Aa<|Ap rows i [],Ai (zL<|Ap rows j [])<|Aa<|Ap rows j []] (by exact zDo _ _ _ _ rfl rfl (by omega) (by omega))<|veT<|zG<|vret (True)<|.inr rfl
theorem insertion0(b0 b1 b2:Bk)(c:List D):Acts As 178 [.osl 2 0 0 0 Ab, .val (.int .i64 0), .val (.int .i64 0), .clo (.func 144) [] [.own 0 0]] [b0,b1,b2] [] (.tup []) [b0,b1,b2]:=by
 refine zV zP6 mixed Tryz.func178 rfl (zVv rfl)<|vAs<|ve (i6 ((0:Int)+(1:Int)))<|zF<|zN (λ(i:Nat)=>fr 53 [(0,Af 2 0 0 0 Ab),(1,iD 0),(2,iD 0),(3,AP (Fn.func (144:FuncId)) [] [Ae 0 0]),(8,iD 1)]) (λ(i:Nat)=>[b0,b1,b2]) (λ(i:Nat)=>0) (λ(i:Nat)=>True) 0 ?_ ?_ ?_
 ·trivial
 ·refine vk 3 ?_;exact keep3F
 rintro i-
 refine zB<|vAu<|vf<|vY2<|zZ (True) [] (.inl rfl) ?_;exact⟨by kernel_rfl,by kernel_rfl⟩
theorem pdq0(b0 b1 b2:Bk)(c:List D)(lim:Int):Acts As 164 [.osl 2 0 0 0 Ab, .val (.int .i64 0), .val (.int .i64 0), .val (.int .i64 lim), .clo (.func 144) [] [.own 0 0]] [b0,b1,b2] [] (.tup []) [b0,b1,b2]:=by
 refine zV zP6 mixed Tryz.func164 rfl (zVv rfl)<|vAu<|vAe<|zF<|zN (λ(i:Nat)=>fr 148 [(0,Af 2 0 0 0 Ab),(1,iD 0),(2,iD 0),(3,iD lim),(4,AP (Fn.func (144:FuncId)) [] [Ae 0 0]),(10,bD Ab),(11,bD Ab)]) (λ(i:Nat)=>[b0,b1,b2]) (λ(i:Nat)=>0) (λ(i:Nat)=>True) 0 ?_ ?_ ?_
 ·trivial
 ·refine vk 3 ?_;exact keep3F
 rintro i-
 refine zF<|vAs<|ve (i6 ((0:Int)-(0:Int)))<|zB<|vAe<|vt<|vA<|vrT 4<|vnt [b0,b1,b2]<|zAl [] [] [Af 2 0 0 0 Ab,iD 0,iD 0,AP (Fn.func 144) [] [Ae 0 0]] [Af 2 0 0 0 Ab,iD 0,iD 0,AP (Fn.func 144) [] [Ae 0 0]] (Bg _) (by exact insertion0 _ _ _ []) ?_;refine v0s<|veT<|zG<|zE<|zJ<|zE<|zJ ?_;refine zZ (True) [] (.inr rfl) ?_;exact⟨by kernel_rfl,by kernel_rfl⟩
set_option maxHeartbeats 1000000 in
theorem sortfunc_c(A:List D)(a:Nat)(ys:List D)(m:Nat)(rows:List (List Va))(n:Nat)(b1:Bk)(hn:rows.length=n)(hb:n<=1000000)(hl:∀r∈rows,r.length<=1000000)(hd:rows.Nodup):Acts As 143 [.osl 2 0 n n Ab, .clo (.func 144) [] [.own 0 0]] [fB1 (.row A a) (.row (rows.map rowV) n) (.row ys m),b1,intB (nsD (Ar n))] [] (.tup []) [⟨[.row A a, .row (rows.map rowV) n, .row ys m],90,0,Ac,if n=0 then Ac else Ab, .plain⟩,b1,intB (nsD (zCx (zA4 rows) (Ar n)))]:=by
 have hlim:BJ n<4611686018427387904:=Nat.lt_of_le_of_lt (Lib.bitLen_le n 62 (by omega) (by omega)) (by omega);rcases Nat.eq_zero_or_pos n with h0|hpos
 ·subst h0;refine zV zP6 mixed Tryz.func143 rfl (zVv rfl)<|vAu<|zA rfl<|vr 4 (u6 (↑(0:Nat):Int))<|vc (blen_c 0 (by omega))<|vrT 1<|vnt [fB1 (Ai A a) (Ai (Ad rowV rows) 0)<|Ai ys m,b1,intB<|nsD<|Ar 0]<|zAl [] [] [Af 2 0 0 0 Ab,iD 0,iD (↑(0:Nat):Int),iD (↑(0:Nat):Int),AP (Fn.func 144) [] [Ae 0 0]] [Af 2 0 0 0 Ab,iD 0,iD (↑(0:Nat):Int),iD (↑(0:Nat):Int),AP (Fn.func 144) [] [Ae 0 0]] (Bg _) (by exact pdq0 _ _ _ [] _) ?_;refine vnil<|zZ (True) [] (.inl rfl) ?_;exact⟨rfl,by simp[zCx]⟩
 have ho:=zXk hd;rw[hn]at ho;have hp:=zZ9 (st:=[fB1 (.row A a) (.row (rows.map rowV) n) (.row ys m),b1,intB (nsD (Ar n))]) (k:=2) (lim:=BJ n) (wh:=Ab) (cf:=zA4 rows) (g:=144) (caps:=[.own 0 0]) (caps':=[.ptr [.row A a, .row (rows.map rowV) n, .row ys m]]) (ks:=[0]) rfl rfl rfl rfl rfl (by simp) hb hpos hlim rfl (by decide) (enters_of Tryz.func144 (by kernel_rfl) rfl) ho
  (λx hx y hy=>less_c rows n _ _ hn x y (by simpa using hx) (by simpa using hy) hl)
 refine zV zP6 mixed Tryz.func143 rfl (zVv rfl)<|vAu<|zA rfl<|vr 4 (u6 (n:Int))<|vc (blen_c n (by omega))<|vrT 1<|vnt [fB1 (Ai A a) (Ai (Ad rowV rows) n)<|Ai ys m,b1,intB<|nsD<|Ar n]<|zAl [] [] [Af 2 0 n n Ab,iD 0,iD (n:Int),iD (↑(BJ n):Int),AP (Fn.func 144) [] [Ae 0 0]] [Af 2 0 n n Ab,iD 0,iD (n:Int),iD (↑(BJ n):Int),AP (Fn.func 144) [] [Ae 0 0]] (Bg _) (by exact hp) ?_;refine vnil<|zZ (True) [] (.inl rfl) ?_;refine⟨rfl,?_⟩;first|(rw[if_neg (by omega)];done)|(rw[if_neg (by omega)];rfl)
theorem repL_ns(n:Nat):repL n [.val (.int .i64 0)]=nsD (AH n 0):=by
 induction n with
 |zero=>rfl
 |succ n ih=>simp only[repL,Cs,List.flatten_cons]at ih⊢;rw[ih];rfl
theorem set_ns(l:List Nat)(i k:Nat):(nsD l).set i (iD k)=nsD (l.set i k):=by simp
abbrev rowB(l:List D):Bk:=⟨l,110,1,Ab,Ac, .plain⟩
abbrev natB(l:List D):Bk:=⟨l,50,1,Ab,Ac, .plain⟩
def Tq:Par:=⟨λf=>f==143,λ_ _=>AM,λ_=>Ac,λ_=>Ac,λ_=>Ac⟩
theorem Tq_ok:zBi As Tq:=by intro t n f h;cases h
set_option maxHeartbeats 2000000 in
theorem sortedW(A:List Nat)(a:Nat)(rows:List (List Va))(vals:List Nat)(n:Nat)(hn:rows.length=n)(hm:vals.length=n)(hb:n<=1000000)(hl:∀r∈rows,r.length<=1000000)(hd:rows.Nodup):
  Pure As 97 [.agg [.row (nsD A) a, .row (rows.map rowV) n, .row (vals.map natD) n]] [] (.agg [.row (nsD A) a, .row (((zCx (zA4 rows) (Ar n)).map λi=>rows.getD i []).map rowV) n, .row (((zCx (zA4 rows) (Ar n)).map λi=>vals.getD i 0).map natD) n]):=by
 have hs:=sortfunc_c (nsD A) a (vals.map natD) n rows n (fB1 nl nl nl) hn hb hl hd;refine zH Tq_ok mixed Tryz.func97 rfl<|vAu<|vA<|vr 5 (True/\0<2/\(0:Int)<=(n:Int)/\(n:Int)<=(n:Int)/\(↑(8:Nat):Int)*(n:Int)<=(281474976710656:Int)/\(n:Int)<=(281474976710656:Int)/\0<1/\1=1)<|vs 3 (Af 2 0 (Ax (n:Int)) (Ax (n:Int)*1) Ab) (Af 2 0 n n Ab) (hd:=by simp(disch:=omega) only[A2,AQ])<|veT<|zB<|vAe<|zF<|zBq (λ(i:Nat)(c:List Nat)=>fr 56 [(1,Ae 0 0),(2,Ae 1 0),(3,Af 2 0 n n Ab),(13,iD (n:Int)),(14,iD (i:Int))]) (λ(i:Nat)(c:List Nat)=>[fB1 (.row (nsD A) a) (.row (rows.map rowV) n)<|.row (vals.map natD) n,fB1 nl nl nl,intB<|nsD c]) (λi c=>n-i) (λ(i:Nat)(c:List Nat)=>i<=n/\c.length=n/\c.take i=(Ar n).take i) 0 (AH n 0) ?_ ?_ ?_
 ·exact⟨by omega,by simp,by simp⟩
 ·refine wkn (fr 56 [(1,Ae 0 0),(2,Ae 1 0),(3,Af 2 0 n n Ab),(13,iD (↑n:Int)),(14,iD 0)]) [Ao [Ai (nsD A) a,Ai (Ad rowV rows) n,Ai (Ad natD vals) n] 90 0 Ac Ac Aq,Ao [nl,nl,nl] 90 0 Ac Ac Aq,Ao (repL n [iD 0]) 3 1 Ab Ac (kdOf Ac)] (zHs [(1,1),(2,1),(3,1),(13,1),(14,1)] (Ae 0 0=Ae 0 0/\Ae 1 0=Ae 1 0/\Af 2 0 n n Ab=Af 2 0 n n Ab/\iD (↑n:Int)=iD (↑n:Int)/\iD 0=iD (↑(0:Nat):Int)) 3 [] (by kernel_rfl) ⟨rfl,rfl,rfl,rfl,(by kernel_rfl)⟩ (by kernel_rfl) (λ_ _=>rfl) (by simp[updB,repL_ns,zEo]))
 rintro i c ⟨h1,h2,h3⟩;rcases AF i n with h4|h4
 ·refine vAu<|zB<|vT ((i:Int)<(n:Int))<|vKB<|vAe<|zA rfl<|vr 4 ((0:Int)<=(i:Int)/\(i:Int)<(n:Int))<|vo 20 2 (i)<|vr 1 (Bk.fz (intB<|nsD c)=Ac/\Ab=Ab/\1=1/\i+1<=Aa (AJ<|intB<|nsD c)/\¬2∈[])<|vnil<|zD<|vN<|zA rfl<|vr 2 (i6 ((i:Int)+(1:Int)))<|vnil<|zC<|⟨i+1,c.set i i,⟨by omega,by simpa using h2,?_⟩,by omega,?_⟩
  ·have:=zRt 0 (a:=c) (b:=Ar n) (i:=i) (by omega) (by simpa using h4) h3
   rwa[show(Ar n).getD i 0=i by simp[AB,h4]]at this
  rw[<-set_ns];refine vk 3
 have e:c=Ar n:=by
  have e1:i=n:=by omega
  rw[e1,AT (by omega),AT (by simp)]at h3;exact h3
 subst e;refine vAu<|zB<|vF ((i:Int)<↑n)<|vZ2<|vA<|vrT 2<|vnt [fB1 (Ai (nsD A) a) (Ai (Ad rowV rows) n)<|Ai (Ad natD vals) n,fB1 nl nl nl,intB<|nsD<|Ar n]<|zAl [] [] [Af 2 0 n n Ab,AP (Fn.func 144) [] [Ae 0 0]] [Af 2 0 n n Ab,AP (Fn.func 144) [] [Ae 0 0]] (Bg _) (by exact hs) ?_;refine v0s<|veT<|vA<|vr 5 (True/\0<3/\((1=1/\1<=3/\True)/\Ab=Ab)/\Ac=Ac/\Ab=Ab/\3=3/\3<=3)<|vnil<|zC<|vnn (fr 56 [(1,Ae 0 0),(2,Ae 1 0),(3,Af 2 0 n n Ab),(5,Ae 3 0),(25,Ae 0 0),(26,Ai (nsD A) a),(27,Ay [Ai (nsD A) a,nl,nl])]) [Ao [Ai (nsD A) a,Ai (Ad rowV rows) n,Ai (Ad natD vals) n] 90 0 Ac (if n=0 then Ac else Ab) Aq,Ao [nl,nl,nl] 90 0 Ac Ac Aq,Ao (nsD<|zCx (zA4 rows)<|Ar n) 3 1 Ab Ac Aq,Ao [Ai (nsD A) a,nl,nl] 90 0 Ac Ac Aq]<|zBf ((Cb (j:=3) (i:=1) (rowB []) rfl rfl rfl rfl).trans<|Cb (j:=3) (i:=2) (natB []) rfl rfl rfl rfl) ?_;refine zB<|vAu<|zF ?_;have hol:(zCx (zA4 rows) (Ar n)).length=n:=by rw[(zB6 _ _).length_eq];simp
 have hom:∀i∈zCx (zA4 rows) (Ar n),i<n:=λi h=>by
  have:=(zB6 _ _).mem_iff.1 h
  simpa using this
 generalize zCx (zA4 rows) (Ar n)=od at*;refine zN (λ(t:Nat)=>fr 56 [(1,Ae 0 0),(2,Ae 1 0),(5,Ae 3 0),(28,Af 2 0 n n Ab),(29,iD n),(30,iD t)]) (λ(t:Nat)=>[⟨[.row (nsD A) a,.row (rows.map rowV) n,.row (vals.map natD) n],90,0,Ac,if n=0 then Ac else Ab,.plain⟩,fB1 nl nl nl,intB<|nsD od,fB1 (.row (nsD A) a) (.osl 4 0 t t Ab)<|.osl 5 0 t t Ab,rowB<|((od.take t).map λi=>rows.getD i []).map rowV,natB<|((od.take t).map λi=>vals.getD i 0).map natD]) (λt=>n-t) (λ(t:Nat)=>t<=n) 0 ?_ ?_ ?_
 ·omega
 ·refine vk 6
 rintro t h5;rcases AF t n with h6|h6
 ·have hi:=hom _ (zDv od t (by omega));have e0:od.take (t+1)=od.take t++[od.getD t 0]:=by
   rw[BP (by omega),AB,AI (by omega)];rfl
  have e1:((od.take (t+1)).map λi=>rows.getD i []).map rowV=((od.take t).map λi=>rows.getD i []).map rowV++[rowV (rows.getD (od.getD t 0) [])]:=by rw[e0];simp
  have e2:((od.take (t+1)).map λi=>vals.getD i 0).map natD=((od.take t).map λi=>vals.getD i 0).map natD++[natD (vals.getD (od.getD t 0) 0)]:=by rw[e0];simp
  focus
   refine vAu<|zB<|vT ((t:Int)<↑n)<|vKB<|vA<|vr 1 ((0:Int)<=(t:Int)/\(t:Int)<↑n)<|vo 32 2 t<|vr 1 (0<Aa (Ag t<|AJ<|intB<|nsD od))<|vs 33 (AR (Ag t<|AJ<|intB<|nsD od) Uk) (iD ↑(Ap od t 0)) (hd:=by simp(disch:=omega) only[zA6])<|veT<|zB<|vd [0,2,4,1,3,5,6,7,8,9,10]<|vr 6 (True/\True/\0<2/\0<2/\ix ↑(Ap od t 0) ↑n (Ad rowV rows≠[])) (vp 39 (Ap od t 0) (Ad rowV rows) ?_) ⟨trivial,trivial,(by omega),(by omega),⟨(by omega),⟨(by omega),(by exact zW)⟩⟩⟩;refine vwh 1 [] [] (0<Aa (Ag (Ap od t 0)<|Ad rowV rows)) ?_ ?_;rotate_left;refine vs 40 (AR (Ag (Ap od t 0)<|Ad rowV rows) Uk) (rowV<|Ap rows (Ap od t 0) []) (hd:=by simp(disch:=omega) only[zAh])<|vr 4 (((1=1/\1<=1/\True)/\0<1/\1=1/\1<=16777216/\1<=9223372036854775807)/\(Bi (rowB<|Ad rowV<|Ad (λ(i:Nat)=>Ap rows i [])<|Av t od)=Ab/\Aa (AJ<|rowB<|Ad rowV<|Ad (λ(i:Nat)=>Ap rows i [])<|Av t od)=t*1/\t=t*1/\A9 (rowB<|Ad rowV<|Ad (λ(i:Nat)=>Ap rows i [])<|Av t od)=110/\A_ (rowB<|Ad rowV<|Ad (λ(i:Nat)=>Ap rows i [])<|Av t od)=1/\1=1/\0<1/\0<24/\110=110/\(t+1)*24<=140737488355328/\1=1/\AW (AO<|rowB<|Ad rowV<|Ad (λ(i:Nat)=>Ap rows i [])<|Av t od)=Ac/\(Ac=Ac\/AX (AO<|rowB<|Ad rowV<|Ad (λ(i:Nat)=>Ap rows i [])<|Av t od)=Ab))/\True/\Ac=Ac/\Ab=Ab/\1=1/\2<=3)<|vb 3 (Ao [Ai (nsD A) a,Af 4 0 (t+1) ((t+1)*1) Ab,Af 5 0 t t Ab] 90 0 Ac Ac Aq) (Ao [Ai (nsD A) a,Af 4 0 (t+1) (t+1) Ab,Af 5 0 t t Ab] 90 0 Ac Ac Aq) (hd:=by simp(disch:=omega) only[AQ])<|veT<|vd [0,2,4,1,3,5,6,7,8,9,10]<|vr 6 (True/\True/\0<1/\0<1/\ix ↑(Ap od t 0) ↑n (Ad natD vals≠[])) ?_ ⟨trivial,trivial,(by omega),(by omega),⟨(by omega),⟨(by omega),(by exact zW)⟩⟩⟩;refine vp 49 (Ap od t 0) (Ad natD vals)<|vwh 1 [] [] (0<Aa (Ag (Ap od t 0)<|Ad natD vals)) ?_ ?_;rotate_left;refine vs 50 (AR (Ag (Ap od t 0)<|Ad natD vals) Uk) (natD<|Ap vals (Ap od t 0) 0) (hd:=by simp(disch:=omega) only[zEp])<|vr 4 (((1=1/\1<=1/\True)/\0<1/\1=1/\1<=16777216/\1<=9223372036854775807)/\(Ab=Ab/\Aa (Ad natD<|Ad (λ(i:Nat)=>Ap vals i 0)<|Av t od)=t*1/\t=t*1/\50=50/\1=1/\1=1/\0<1/\0<24/\50=50/\(t+1)*24<=140737488355328/\1=1/\AW Aq=Ac/\(Ac=Ac\/AX Aq=Ab))/\True/\Ac=Ac/\Ab=Ab/\1=1/\3<=3)<|vb 3 (Ao [Ai (nsD A) a,Af 4 0 (t+1) (t+1) Ab,Af 5 0 (t+1) ((t+1)*1) Ab] 90 0 Ac Ac Aq) (Ao [Ai (nsD A) a,Af 4 0 (t+1) (t+1) Ab,Af 5 0 (t+1) (t+1) Ab] 90 0 Ac Ac Aq) (hd:=by simp(disch:=omega) only[AQ])<|vnil<|zD<|vN<|zA rfl<|vr 2 (i6 (↑t+1))<|vnil<|zC ?_;rotate_left
  ·rw[CG,AK];omega
  ·rw[CG,AK];omega
  refine⟨t+1,by omega,by omega,?_⟩;rw[e1,e2];refine vk 6
 refine vAu<|zB<|vF ((t:Int)<(n:Int))<|vZ2<|vA<|ve (3<=3/\Ac=Ac/\Ab=Ab/\3=3/\3<=3)<|zG<|zB3 (3<=3) (Ay [Ai (nsD A) a,Ai (Av t<|Ag 0<|AJ<|rowB<|Ad rowV<|Ad (λ(i:Nat)=>Ap rows i [])<|Av t od) t,Ai (Av t<|Ag 0<|AJ<|natB<|Ad natD<|Ad (λ(i:Nat)=>Ap vals i 0)<|Av t od) t]) (Ay [Ai (nsD A) a,Ai (Av t<|Ad rowV<|Ad (λ(i:Nat)=>Ap rows i [])<|Av t od) t,Ai (Av t<|Ad natD<|Ad (λ(i:Nat)=>Ap vals i 0)<|Av t od) t]) (.inr rfl) (by simp(disch:=omega) only[A8]) ?_ (hc:=by omega);have e:t=n:=by omega
 subst e;rw[AT (by omega:od.length<=t),AT (by simp[hol]),AT (by simp[hol])]
abbrev rwsD(l:List (Rw×Nat)):List D:=(l.map (·.1)).map rowV
abbrev vlsD(l:List (Rw×Nat)):List D:=(l.map (·.2)).map natD
abbrev fcD(A:List Nat)(l:List (Rw×Nat)):D:= .agg [.row (nsD A) A.length, .row (rwsD l) l.length, .row (vlsD l) l.length]
theorem zZl{α:Type}[Inhabited α]{l:List (Rw×α)}(h:Ndk l):(srtL l).length=l.length:=by
 rw[<-zEl h,AK,(zB6 _ _).length_eq];simp
theorem zZm(A:List Nat)(l:List (Rw×Nat))(hb:l.length<=1000000)(hl:∀p∈l,p.1.length<=1000000)(hd:Ndk l):Pure As 97 [fcD A l] [] (fcD A (srtL l)):=by
 have h:=sortedW A A.length (l.map (·.1)) (l.map (·.2)) l.length (by simp) (by simp) hb (λr hr=>by
  obtain⟨p,hp,rfl⟩:=A6.1 hr;exact hl p hp) (show(l.map (·.1)).Nodup from hd)
 have hi:∀i∈zCx (zA4 (l.map (·.1))) (Ar l.length),i<l.length:=λi h=>by
  have:=(zB6 _ _).mem_iff.1 h
  simpa using this
 have e1:(zCx (zA4 (l.map (·.1))) (Ar l.length)).map (λi=>(l.map (·.1)).getD i [])=(srtL l).map (·.1):=by
  rw[<-zEl hd,Ca];refine BZ λi hh=>?_;simp[AB,hi i hh]
 have e2:(zCx (zA4 (l.map (·.1))) (Ar l.length)).map (λi=>(l.map (·.2)).getD i 0)=(srtL l).map (·.2):=by
  rw[<-zEl hd,Ca];refine BZ λi hh=>?_;simp[AB,hi i hh]
 rw[e1,e2]at h;have e3:=zZl hd;show Pure As _ _ [] (.agg [.row (nsD A) A.length, .row (rwsD (srtL l)) (srtL l).length, .row (vlsD (srtL l)) (srtL l).length]);rw[e3];exact h
theorem czero_c(z:Nat)(hz:z=0):Pure As 228 [.agg []] [] (natD z):=by
 refine zH zBt mixed Tryz.func228 rfl<|vAu<|vAe<|zG<|vre (True) (Ai [] 0) (.inr rfl) ?_;rw[hz,natD_zero]
theorem cone_c(o:Nat)(ho:o=1):Pure As 227 [.agg []] [] (natD o):=by
 have h:=of_c 1 (by decide);rw[<-ho]at h;refine zH zBt mixed Tryz.func227 rfl ?_;subst ho;refine vAu<|vA<|vc h<|veT<|zG<|vret (True)<|.inr rfl
theorem cadd_c(a b:Nat)(ha:Sm a)(hb:Sm b):Pure As 225 [.agg [],natD a,natD b] [] (natD (a+b)):=by
 refine zH zBt mixed Tryz.func225 rfl<|vAu<|vA<|vrT 2<|vc (nadd_c a b ha hb)<|veT<|zG<|vret (True)<|.inr rfl
theorem cmul_c(a b:Nat)(ha:Sm a)(hb:Sm b):Pure As 226 [.agg [],natD a,natD b] [] (natD (a*b)):=by
 refine zH zBt mixed Tryz.func226 rfl<|vAu<|vA<|vrT 2<|vc (nmul_c a b ha hb)<|veT<|zG<|vret (True)<|.inr rfl
abbrev cntD:D:= .ifc 29 (.agg [])
noncomputable abbrev Tc:Par:=TM As (λ_=>Ac) (λ_=>Ac)
abbrev mapI(K:List Rw):Bk:=⟨nsD (Ar K.length),262,0,Ab,Ac, .map (K.map kyv)⟩
theorem mput_i(K:List Rw)(r:Rw)(h:r∉K):mput (mapI K) (K.map kyv) (kyv r) (iD K.length)=mapI (K++[r]):=by
 unfold mput;rw[zEg,zCc,if_neg h];simp[BD]
abbrev q11_(x0:List (List Va×Nat)):=Ai (rwsD x0) (Aa x0)
set_option maxHeartbeats 4000000 in
theorem sumOut_c(A:List Nat)(l:List (Rw×Nat))(v:Int)(ha:A.length<=32)(hb:l.length<=1000000)(hl:∀p∈l,p.1.length=A.length)(hv:∀p∈l,∀x∈p.1,Vs x)(hs:Sm (l.map (·.2)).sum):
  Pure As 91 [cntD,fcD A l,iD v] [] (fcD ((zBp (λu=>decide ((u:Int)≠v)) A).map λj=>A.getD j 0) (srtL (sumT (· +·) [] (l.map λp=>(zQ p.1 (zBp (λu=>decide ((u:Int)≠v)) A),p.2))))):=by
 refine zH (T:=Tc) (zPy _ _ _) mixed Tryz.func91 rfl<|vAu<|vAe<|vA<|vrT 1<|vnil<|zC<|vnn (fr 108 [(0,cntD),(2,iD v),(4,Ae 0 0),(6,Ae 1 0),(7,nl),(8,Ae 2 0)]) [Ao [Ai (nsD A)<|Aa A,Ai (rwsD l)<|Aa l,Ai (vlsD l)<|Aa l] 90 0 Ac Ac Aq,Ao [nl,nl,nl] 90 0 Ac Ac Aq,Ao [nl,nl,nl] 90 0 Ac Ac Aq]<|zBf (Cb (j:=2) (i:=0) (intB []) rfl rfl rfl rfl) ?_;refine zB<|vAs<|ve (True/\0<3)<|zF<|zBq (λ(i:Nat)(c:List Nat)=>fr 108 [(0,cntD),(2,iD v),(4,Ae 0 0),(6,Ae 1 0),(7,Af 4 0 (Aa c) (Aa c) Ab),(8,Ae 2 0),(20,(q10_ A)),(21,iD<|Aa A),(22,iD i)]) (λ(i:Nat)(c:List Nat)=>[fB1 (.row (nsD A) A.length) (.row (rwsD l) l.length)<|.row (vlsD l) l.length,fB1 nl nl nl,fB1 (.osl 3 0 c.length c.length Ab) nl nl,intB<|nsD (c.map λj=>A.getD j 0),intB<|nsD c]) (λi c=>A.length-i) (λ(i:Nat)(c:List Nat)=>i<=A.length/\c=((Ar A.length).take i).filter λj=>decide (((A.getD j 0:Nat):Int)≠v)) 0 [] ?_ ?_ ?_
 ·exact⟨by omega,by simp⟩
 ·refine vk 4
 rintro i c ⟨h1,h2⟩;have hlen:c.length<=32:=by rw[h2];exact AV (Bw _ _) (by simp;omega)
 rcases AF i A.length with h3|h3
 ·have h4:=zPi (λu=>decide ((u:Int)≠v)) A i h3;rw[<-h2]at h4;focus
   refine vAu<|zB<|vT ((i:Int)<↑(Aa A))<|vKB<|vA<|vr 2 (ix ↑i ↑(Aa A) (nsD A≠[])) ?_ ⟨(by omega),⟨(by omega),(by exact zW)⟩⟩;refine vp 25 i (nsD A)<|vr 1 (0<Aa (Ag i<|nsD A))<|vs 26 (AR (Ag i<|nsD A) Uk) (iD ↑(Ap A i 0)) (hd:=by simp(disch:=omega) only[zA6])<|veT<|vAe<|zAi (t:=(↑(Ap A i 0):Int)!=v) (by kernel_rfl) (λhc=>?_)<|λhc=>?_;simp only[bne_iff_ne]at hc;refine vA<|vr 5 (((1=1/\1<=1/\True)/\0<1/\1=1/\1<=16777216/\1<=9223372036854775807)/\Bi (intB<|nsD c)=Ab/\Aa (AJ<|intB<|nsD c)=Aa c*1/\Aa c=Aa c*1/\A9 (intB<|nsD c)=3/\A_ (intB<|nsD c)=1/\1=1/\0<1/\0<8/\3=3/\(Aa c+1)*8<=140737488355328/\1=1/\AW (AO<|intB<|nsD c)=Ac/\(Ac=Ac\/AX (AO<|intB<|nsD c)=Ab))<|vs 7 (Af 4 0 (Aa c+1) ((Aa c+1)*1) Ab) (Af 4 0 (Aa c+1) (Aa c+1) Ab) (hd:=by simp(disch:=omega) only[AQ])<|veT<|zA rfl<|vr 7 (True/\0<3/\((1=1/\1<=1/\True)/\0<1/\1=1/\1<=16777216/\1<=9223372036854775807)/\(Ab=Ab/\Aa (nsD<|Ad (λ(j:Nat)=>Ap A j 0) c)=Aa c*1/\Aa c=Aa c*1/\3=3/\1=1/\1=1/\0<1/\0<8/\3=3/\(Aa c+1)*8<=140737488355328/\1=1/\AW Aq=Ac/\(Ac=Ac\/AX Aq=Ab))/\True/\Ac=Ac/\Ab=Ab/\1=1/\1<=3)<|vb 2 (Ao [Af 3 0 (Aa c+1) ((Aa c+1)*1) Ab,nl,nl] 90 0 Ac Ac Aq) (Ao [Af 3 0 (Aa c+1) (Aa c+1) Ab,nl,nl] 90 0 Ac Ac Aq) (hd:=by simp(disch:=omega) only[AQ])<|vnil<|zD<|vN<|zA rfl<|vr 2 (i6 (↑i+1))<|vnil<|zC ?_;rotate_left;simp only[bne_eq_false_iff_eq]at hc;refine zM<|zD<|vN<|zA rfl<|vr 2 (i6 (↑i+1))<|vnil<|zC ?_;rotate_left
  ·rw[if_pos (by simpa using hc)]at h4;refine⟨i+1,c++[i],⟨by omega,h4.symm⟩,by omega,?_⟩;rw[show nsD ((c++[i]).map λj=>A.getD j 0)=nsD (c.map λj=>A.getD j 0)++[iD (A.getD i 0:Nat)] by simp,zSd,AU];refine vk 5
  rw[if_neg (by simpa using hc),BA]at h4;refine⟨i+1,c,⟨by omega,h4.symm⟩,by omega,?_⟩;refine vk 5
 have ec:c=zBp (λu=>decide ((u:Int)≠v)) A:=by
  rw[AT (by simpa using h3)]at h2;exact h2
 rw[<-ec];clear h1 h2;refine vAu<|zB<|vF ((i:Int)<↑(Aa A))<|vZ2<|vA<|vrT 2<|vnil<|zC<|vnn (fr 108 [(0,cntD),(2,iD v),(4,Ae 0 0),(6,Ae 1 0),(7,Af 4 0 (Aa c) (Aa c) Ab),(8,Ae 2 0),(11,D.mref 5),(20,(q10_ A)),(21,iD<|Aa A),(22,iD i),(23,bD<|decide ((i:Int)<↑(Aa A))),(41,D.mref 5)]) [fB1 ((q10_ A)) ((q11_ l))<|Ai (vlsD l)<|Aa l,fB1 nl nl nl,fB1 (Af 3 0 (Aa c) (Aa c) Ab) nl nl,intB<|nsD<|Ad (λ(j:Nat)=>Ap A j 0) c,intB<|nsD c,Ao [] 262 0 Ab Ac<|Kd.map []] ?_;have hc0:=zJ8 c _ rfl;refine zBf (((Cb (j:=2) (i:=1) (rowB []) rfl rfl rfl rfl).trans (Cb (j:=2) (i:=2) (natB []) rfl rfl rfl rfl)).trans<|Weak.osr (s:=7) (k:=4) (off:=0) (n:=c.length) (m:=c.length) (wh:=Ab) (cs:=nsD c) (by kernel_rfl) (show Am (Ai (((nsD c).drop 0).take c.length) c.length,[4])=_ by rw[A8,hc0])) ?_;refine zB<|vAs<|ve (True/\0<2)<|zF ?_;obtain⟨z,hz⟩:∃z:Nat,z=0:=⟨0,rfl⟩;have hcl:∀j∈c,j<A.length:=λj h=>by
  rw[ec]at h;simpa using(Br.1 h).1
 generalize hL:(l.map λp=>(zQ p.1 c,p.2))=L;have hLl:L.length=l.length:=by rw[<-hL];simp
 have hLs:(L.map (·.2)).sum=(l.map (·.2)).sum:=by rw[<-hL];simp[Function.comp_def]
 have hLg:∀i,i<l.length->L.getD i Al=(zQ ((l.map (·.1)).getD i []) c,(l.map (·.2)).getD i 0):=λi hi=>by
  rw[<-hL];simp[AB,hi]
 have hbnd:∀i,∀x∈(sumT (· +·) [] (L.take i)).map (·.2),x<=(l.map (·.2)).sum:=λi x hx=>by
  have h1:x<=((L.take i).map (·.2)).sum:=by
   have:=mem_le_sum hx
   rw[zZj]at this;simpa using this
  have h2:((L.take i).map (·.2)).sum<=(L.map (·.2)).sum:=by rw[List.map_take];exact sum_le _ _
  omega
 refine zA2 (λ(i:Nat)(K:List Rw)(W:List Nat)=>fr 108 [(0,cntD),(4,Ae 0 0),(6,Ae 1 0),(7,D.osr 4 0 (Aa c) (Aa c) Ab<|nsD c),(8,Ae 2 0),(11,D.mref 5),(43,(q11_ l)),(44,iD<|Aa l),(45,iD i)]) (λ(i:Nat)(K:List Rw)(W:List Nat)=>[fB1 (.row (nsD A) A.length) (.row (rwsD l) l.length)<|.row (vlsD l) l.length,fB1 nl nl nl,fB1 (.osl 3 0 c.length c.length Ab) (.osl 6 0 W.length W.length Ab)<|.osl 7 0 W.length W.length Ab,intB<|nsD (c.map λj=>A.getD j 0),⟨nsD c,3,1,Ab,Ab,.plain⟩,mapI K,rowB<|K.map rowV,natB<|W.map natD]) (λi K W=>l.length-i) (λ(i:Nat)(K:List Rw)(W:List Nat)=>i<=l.length/\K=(sumT (· +·) []<|L.take i).map (·.1)/\W=(sumT (· +·) []<|L.take i).map (·.2)) 0 [] [] ?_ ?_ ?_
 ·exact⟨by omega,by simp[sumT],by simp[sumT]⟩
 ·refine vk 8
 rintro i K W ⟨g1,g2,g3⟩;have hKW:W.length=K.length:=by rw[g2,g3];simp
 have hKl:K.length<=1000000:=by
  have:=zRl (· +·) (L.take i) ([]:List (Rw×Nat))
  rw[g2,AK];simp only[Ci,CW]at this;omega
 rcases AF i l.length with h4|h4
 ·have hne:rwsD l≠[]:=zW (h:=by simp;omega);have hne2:vlsD l≠[]:=zW (h:=by simp;omega);have hrow:(l.map (·.1)).getD i []∈l.map (·.1):=by
   rw[AB,AI (by simpa using h4)];exact A7 _
  obtain⟨p,hp,he⟩:=A6.1 hrow;have hlen2:=hl p hp;have hvs:=hv p hp;rw[he]at hlen2 hvs;have hsu:=zTm (· +·) L i (by omega);rw[hLg i h4]at hsu;have hk1:=congrArg (Ad (·.1)) hsu;have hw1:=congrArg (Ad (·.2)) hsu;simp only[zGa,<-g2]at hk1;simp only[zPw,<-g2,<-g3]at hw1;have hb1:=hbnd (i+1);have hx1:=zAh (l.map (·.1)) i (by simpa using h4);have hx2:=zEp (l.map (·.2)) i (by simpa using h4);generalize (l.map (·.1)).getD i []=row at*;generalize (l.map (·.2)).getD i 0=w at*;have hk:=zSp row c _ _ rfl rfl (by rw[hlen2];exact hcl) hvs;have hpj:=zHx row c _ _ rfl rfl (by omega) (by omega) (by rw[hlen2];exact hcl);have hlk:=look_i K (zQ row c);by_cases hm:zQ row c∈K
  ·rw[if_pos hm]at hk1 hw1 hlk;have hid:=Cl.2 hm;generalize K.idxOf (zQ row c)=d at*;rw[hw1]at hb1;have hs1:Sm (W.getD d 0+w):=hs.le (hb1 _ (List.mem_set (by omega) _));have hs2:=hs1.le (Nat.le_add_right _ w);have hs3:=hs1.le (Nat.le_add_left w _);focus
    refine vAu (zB (vT ((i:Int)<↑(Aa l)) (vKB (vA (vr 2 (ix ↑i ↑(Aa l) (rwsD l≠[])) (vp 48 i (rwsD l) (vr 1 (0<Aa (Ag i (rwsD l))) (vsh 49 hx1 (veT (vA (vrT 2 (vc hk (veT (vA (vwh 3 [] [] (zX (Bj (Bl Bm "string" 1 16 Ab 8 8 (Am (AN (AY #[]))) Ab #[])) (AN (bs (idR (zQ row c))))=Ab/\B_ (Ad kyv K) (zX (Bj (Bl Bm "string" 1 16 Ab 8 8 (Am (AN (AY #[]))) Ab #[])))=Ab) ?_ ?_)))))))))))))));rotate_left;refine vsh 56 hlk (ve (0<2/\1<2) (zB (vAe (vf (vK (vd [0,2,3,4,6,9,11,14,15,16,1,5,7,8,10,12,13,17,18,19] (vr 13 (True/\True/\True/\0<1/\0<1/\(0:Int)<=(d:Int)/\(d:Int)<↑(Aa W)) (vo 93 7 d (vr 1 (0<Aa (Ag d (AJ (natB (Ad natD W))))) (vs 94 (AR (Ag d (AJ (natB (Ad natD W)))) Uk) (natD (Ap W d 0)) (hd:=by simp(disch:=omega) only[zEp]) (vr 2 (0<1/\ix ↑i ↑(Aa l) (vlsD l≠[])) (vp 98 i (vlsD l) (vr 1 (0<Aa (Ag i (vlsD l))) (vsh 99 hx2 (vc (cadd_c _ _ hs2 hs3) (vr 1 ((0:Int)<=(d:Int)/\(d:Int)<↑(Aa W)) (vo 104 7 d (vr 1 (Bk.fz (natB (Ad natD W))=Ac/\Ab=Ab/\1=1/\d+1<=Aa (AJ (natB (Ad natD W)))/\¬7∈[]) (vnil (zD (vN (zA rfl (vr 2 (i6 (↑i+1)) (vnil (zC ?_)))))))))))))))))))))))));rotate_left
   ·exact⟨rfl,zDh _⟩
   refine⟨i+1,K,W.set d (W.getD d 0+w),⟨by omega,hk1.symm,hw1.symm⟩,by omega,?_⟩;rw[show(W.set d (W.getD d 0+w)).map natD=(W.map natD).set d (natD (W.getD d 0+w)) by simp,show(W.set d (W.getD d 0+w)).length=W.length by simp];refine vk 8
  rw[if_neg hm]at hk1 hw1 hlk;have hs1:Sm w:=hs.le (hb1 _ (by rw[hw1];simp));have hmp:=mput_i K (zQ row c) hm;rw[<-hKW]at hmp;have hzw:z+w=w:=by omega
  have hca:=cadd_c z w (hs1.le (by omega)) hs1;rw[hzw]at hca;have hla:∀d:D,((W.map natD++[d]).drop W.length).headD .unk=d:=λd=>by rw[List.drop_left' (by simp)];rfl
  have hse:∀d e:D,(W.map natD++[d]).set W.length e=W.map natD++[e]:=λd e=>by
   rw[List.set_append];simp
  focus
   refine vAu (zB (vT ((i:Int)<↑(Aa l)) (vKB (vA (vr 2 (ix ↑i ↑(Aa l) (rwsD l≠[])) (vp 48 i (rwsD l) (vr 1 (0<Aa (Ag i (rwsD l))) (vsh 49 hx1 (veT (vA (vrT 2 (vc hk (veT (vA (vwh 3 [] [] (zX (Bj (Bl Bm "string" 1 16 Ab 8 8 (Am (AN (AY #[]))) Ab #[])) (AN (bs (idR (zQ row c))))=Ab/\B_ (Ad kyv K) (zX (Bj (Bl Bm "string" 1 16 Ab 8 8 (Am (AN (AY #[]))) Ab #[])))=Ab) ?_ ?_)))))))))))))));rotate_left;refine vsh 56 hlk (ve (0<2/\1<2) (zB (vAe (vt (vA (ve (True/\0<2) (vA (vwh 4 [] [] (Bk.fz (mapI K)=Ac/\zX (Bj (Bl Bm "string" 1 16 Ab 8 8 (Am (AN (AY #[]))) Ab #[])) (AN (bs (idR (zQ row c))))=Ab/\B_ (Ad kyv K) (zX (Bj (Bl Bm "string" 1 16 Ab 8 8 (Am (AN (AY #[]))) Ab #[])))=Ab/\¬5∈[]) ?_ ?_))))))));rotate_left;refine vb 5 (mput (mapI K) (Ad kyv K) (AN (bs (idR (zQ row c)))) (iD (Aa W))) (mapI (K++[zQ row c])) (hd:=by simp(disch:=omega) only[hmp]) (veT (vA (vrT 2 (vc hpj (ve (0<2/\1<2) (vA (vr 7 (True/\0<2/\((1=1/\1<=1/\True)/\0<1/\1=1/\1<=16777216/\1<=9223372036854775807)/\(Bi (rowB (Ad rowV K))=Ab/\Aa (AJ (rowB (Ad rowV K)))=Aa W*1/\Aa W=Aa W*1/\A9 (rowB (Ad rowV K))=110/\A_ (rowB (Ad rowV K))=1/\1=1/\0<1/\0<24/\110=110/\(Aa W+1)*24<=140737488355328/\1=1/\AW (AO (rowB (Ad rowV K)))=Ac/\(Ac=Ac\/AX (AO (rowB (Ad rowV K)))=Ab))/\True/\Ac=Ac/\Ab=Ab/\1=1/\2<=3) (vb 2 (Ao [Af 3 0 (Aa c) (Aa c) Ab,Af 6 0 (Aa W+1) ((Aa W+1)*1) Ab,Af 7 0 (Aa W) (Aa W) Ab] 90 0 Ac Ac Aq) (Ao [Af 3 0 (Aa c) (Aa c) Ab,Af 6 0 (Aa W+1) (Aa W+1) Ab,Af 7 0 (Aa W) (Aa W) Ab] 90 0 Ac Ac Aq) (hd:=by simp(disch:=omega) only[AQ]) ?_))))))));refine veT (vd [0,2,1,3,4,5,6,7] (vr 3 (True/\0<1) (vc (czero_c z hz) (vr 4 (((1=1/\1<=1/\True)/\0<1/\1=1/\1<=16777216/\1<=9223372036854775807)/\(Ab=Ab/\Aa (Ad natD W)=Aa W*1/\Aa W=Aa W*1/\50=50/\1=1/\1=1/\0<1/\0<24/\50=50/\(Aa W+1)*24<=140737488355328/\1=1/\AW Aq=Ac/\(Ac=Ac\/AX Aq=Ab))/\True/\Ac=Ac/\Ab=Ab/\1=1/\3<=3) (vb 2 (Ao [Af 3 0 (Aa c) (Aa c) Ab,Af 6 0 (Aa W+1) (Aa W+1) Ab,Af 7 0 (Aa W+1) ((Aa W+1)*1) Ab] 90 0 Ac Ac Aq) (Ao [Af 3 0 (Aa c) (Aa c) Ab,Af 6 0 (Aa W+1) (Aa W+1) Ab,Af 7 0 (Aa W+1) (Aa W+1) Ab] 90 0 Ac Ac Aq) (hd:=by simp(disch:=omega) only[AQ]) (veT (vd [0,2,3,4,6,9,11,14,15,16,1,5,7,8,10,12,13,17,18,19] (vr 13 (True/\True/\True/\0<1/\0<1/\(0:Int)<=(Aa W:Int)/\(Aa W:Int)<(↑(Aa W+1):Int)) (vo 93 7 (Aa W) (vr 1 (0<Aa (Ag (Aa W) (Ad natD W++[natD z]))) (vs 94 (AR (Ag (Aa W) (Ad natD W++[natD z])) Uk) (natD z) (hd:=by simp(disch:=omega) only[hla]) (vr 2 (0<1/\ix ↑i ↑(Aa l) (vlsD l≠[])) (vp 98 i (vlsD l) (vr 1 (0<Aa (Ag i (vlsD l))) (vsh 99 hx2 (vc hca (vr 1 ((0:Int)<=(Aa W:Int)/\(Aa W:Int)<(↑(Aa W+1):Int)) (vo 104 7 (Aa W) (vr 1 (Ac=Ac/\Ab=Ab/\1=1/\Aa W+1<=Aa (Ad natD W++[natD z])/\¬7∈[]) (vnil (zD (vN (zA rfl (vr 2 (i6 (↑i+1)) (vnil (zC ?_))))))))))))))))))))))))));rotate_left
  ·exact⟨rfl,zDh _⟩
  ·exact⟨rfl,rfl,zDh _,by simp⟩
  refine⟨i+1,K++[zQ row c],W++[w],⟨by omega,hk1.symm,hw1.symm⟩,by omega,?_⟩;refine wkn (fr 108 [(0,cntD),(4,Ae 0 0),(6,Ae 1 0),(7,D.osr 4 0 (Aa c) (Aa c) Ab (nsD c)),(8,Ae 2 0),(11,D.mref 5),(12,iD ↑i),(15,iD ↑(Aa W)),(43,(q11_ l)),(44,iD ↑(Aa l)),(45,iD ↑(i+1)),(86,Ae 2 2),(87,Af 7 0 (Aa W+1) (Aa W+1) Ab),(88,iD ↑(Aa W)),(89,D.ifc 29 (Ay [])),(90,Ae 2 2),(91,Af 7 0 (Aa W+1) (Aa W+1) Ab),(92,iD ↑(Aa W)),(93,Ae 7 (Aa W)),(94,natD z),(95,Ae 0 2),(96,Ai (vlsD l) (Aa l)),(97,iD ↑i),(98,Bc (Ag i (vlsD l))),(99,natD w),(100,AP (Fn.method "Add") [D.ifc 29 (Ay [])] []),(101,AP (Fn.method "Add") [D.ifc 29 (Ay [])] []),(102,D.ifc 29 (Ay [])),(103,natD w),(104,Ae 7 (Aa W)),(105,iD ↑(i+1))]) [Ao [(q10_ A),(q11_ l),Ai (vlsD l) (Aa l)] (90:TypeId) 0 Ac Ac Aq,Ao [nl,nl,nl] (90:TypeId) 0 Ac Ac Aq,Ao [Af 3 0 (Aa c) (Aa c) Ab,Af 6 0 (Aa W+1) (Aa W+1) Ab,Af 7 0 (Aa W+1) (Aa W+1) Ab] 90 0 Ac Ac Aq,Ao (nsD (Ad (λ(j:Nat)=>Ap A j 0) c)) (3:TypeId) 1 Ab Ac Aq,Ao (nsD c) (3:TypeId) 1 Ab Ab Aq,Ao (nsD (Ar (Aa (K++[zQ row c])))) (262:TypeId) 0 Ab Ac (Kd.map (Ad kyv (K++[zQ row c]))),Ao (Ad rowV K++[Ai (zL (zQ row c)) (Aa c)]) (110:TypeId) 1 Ab Ac Aq,Ao (List.set (Ad natD W++[natD z]) (Aa W) (natD w)) 50 1 Ab Ac Aq,Ao [Ai (zL (zQ row c)) (Aa c)] 110 1 Ab Ac Aq,Ao [natD z] 50 1 Ab Ac Aq] ?_;rw[hse];have hpl:(zQ row c).length=c.length:=by simp[zQ]
  rw[show(K++[zQ row c]).map rowV=K.map rowV++[.row (zL (zQ row c)) c.length] by rw[<-hpl];simp,show(W++[w]).map natD=W.map natD++[natD w] by simp,show(W++[w]).length=W.length+1 by simp];refine vk 8
 have hn:Ndk (sumT (· +·) [] L):=zJ2 _ L [] (by simp[Ndk]);rw[AT (by omega)]at g2 g3;have hso:=zZm (c.map λj=>A.getD j 0) (sumT (· +·) [] L) (by rw[<-AK (f:=λp:Rw×Nat=>p.1),<-g2];exact hKl) (λp hp=>by
  have:=(zRm _ L [] p hp).resolve_left (by simp)
  obtain⟨q,hq,e⟩:=A6.1 this;rw[<-hL]at hq;obtain⟨q',_,rfl⟩:=A6.1 hq;rw[<-e];simp only[zQ,AK];omega) hn
 have hT:(sumT (· +·) [] L).length=W.length:=by rw[g3,AK]
 have ht1:=zJ8 (c.map λj=>A.getD j 0) c.length (by simp);have ht2:(K.map rowV).take W.length=K.map rowV:=AT (by simp[hKW]);have ht3:(W.map natD).take W.length=W.map natD:=AT (by simp);simp only[fcD,rwsD,vlsD,<-g2,<-g3,hT]at hso;rw[AK]at hso;refine vAu<|zB<|vF ((i:Int)<↑(Aa l))<|vZ2<|vA<|vr 1 (3<=3)<|vcl [Ay [Ai (Av (Aa c)<|Ag 0<|AJ<|intB<|nsD<|Ad (λ(j:Nat)=>Ap A j 0) c)<|Aa c,Ai (Av (Aa W)<|Ag 0<|AJ<|rowB<|Ad rowV K)<|Aa W,Ai (Av (Aa W)<|Ag 0<|AJ<|natB<|Ad natD W)<|Aa W]] [Ay [Ai (nsD<|Ad (λ(j:Nat)=>Ap A j 0) c)<|Aa c,Ai (Ad rowV K)<|Aa W,Ai (Ad natD W)<|Aa W]] (LeL.of_eq (by simp(disch:=omega) only[A8,ht2,ht1,ht3])) (by exact hso)<|ve (Ac=Ac/\Ab=Ab/\3=3/\3<=3)<|zG<|vre (3<=3) (Ay [Ai (nsD<|Ad (λ(j:Nat)=>Ap A j 0) c)<|Aa c,Ai (Ad rowV<|Ad (λ(x:Rw×Nat)=>An x)<|srtL<|sumT (λ(x1 x2:Nat)=>x1+x2) [] L)<|Aa<|srtL<|sumT (λ(x1 x2:Nat)=>x1+x2) [] L,Ai (Ad natD<|Ad (λ(x:Rw×Nat)=>AD x)<|srtL<|sumT (λ(x1 x2:Nat)=>x1+x2) [] L)<|Aa<|srtL<|sumT (λ(x1 x2:Nat)=>x1+x2) [] L]) (.inr rfl) (by simp)
end
section
open Go.RowKit
theorem zHh{U:List Nat}(h:Asc U):mem32 (msk U)=U:=by
 refine Asc.ext ⟨(List.pairwise_lt_range (n:=32)).filter _,λv hv=>?_⟩ h λv=>?_
 ·have:=(Br.1 hv).1;simpa using this
 simp only[mem32,Br,zCv,decide_eq_true_eq,BG];exact⟨λh=>h.2,λhv=>⟨h.2 v hv,hv⟩⟩
theorem zCw{A:List Nat}(h:Asc A):A.length<=32:=by
 rw[<-zHh h];exact AV (Bw _ _) (by simp)
theorem asc_less{A:List Nat}(h:Asc A)(p:Nat->Bool):Asc (A.filter p):=⟨h.1.filter _,λv hv=>h.2 v (Br.1 hv).1⟩
theorem zS5(p:Nat->Bool)(A:List Nat):(zBp p A).map (λj=>A.getD j 0)=A.filter p:=by
 have e:A=(Ar A.length).map (λj=>A.getD j 0):=by
  apply BU (by simp);intro i h1 h2;simp[AB,h1]
 conv=>rhs;rw[e]
 rw[List.filter_map];rfl
theorem zGw{p:Nat->Bool}{A:List Nat}{j:Nat}:j∈zBp p A↔j<A.length/\p (A.getD j 0)=true:=by simp[zBp]
theorem zH5(p:Nat->Bool)(A:List Nat):(zBp p A).length<=A.length:=AV (Bw _ _) (by simp)
theorem zFi{A:List Nat}(hA:A.Nodup)(p:Nat->Bool)(x:List Va):zQ x (zBp p A)=(A.filter p).map (asg A x):=by
 rw[<-zS5,Ca];refine BZ λj hj=>?_;have h:=(zGw.1 hj).1;simp only[Function.comp,asg];rw[AB (l:=A),AI h];simp only[B3];rw[List.Nodup.idxOf_getElem hA j h]
theorem zYa{A B:List Nat}(hA:Asc A)(hB:Asc B){p q:Nat->Bool}(h:∀v,(v∈A/\p v=Ab)↔(v∈B/\q v=Ab)):A.filter p=B.filter q:=
 Asc.ext (asc_less hA p) (asc_less hB q) λv=>by simpa[Br]using h v
theorem zLr(A B:List Nat)(v:Nat):(msk A&&&msk B).testBit v=(decide (v∈A)&&decide (v∈B)):=by rw[Nat.testBit_and,zCv,zCv]
theorem key_mt{A B:List Nat}(hA:Asc A)(hB:Asc B)(x y:List Va):zQ y (zBp (λv=>(msk A&&&msk B).testBit v) B)=zQ x (zBp (λv=>(msk A&&&msk B).testBit v) A)↔mt A x B y=true:=by
 rw[zFi hA.nd,zFi hB.nd,zYa hB hA (p:=λv=>(msk A&&&msk B).testBit v) (q:=λv=>(msk A&&&msk B).testBit v) (λv=>by rw[zLr];simp only[Bp,decide_eq_true_eq];constructor<;>(rintro⟨h1,h2,h3⟩;exact⟨by assumption,h2,h3⟩))];rw[zE0];simp only[mt,Bo,Br,zLr,Bp,decide_eq_true_eq];constructor
 ·intro h v hv hb;exact(h v ⟨hv,hv,hb⟩).symm
 rintro h v ⟨hv,_,hb⟩;exact(h v hv hb).symm
def posL(L:List Rw)(r:Rw):List Nat:=(Ar L.length).filter λk=>decide (L.getD k []=r)
theorem zZ8{α:Type}[Inhabited α](l:List α)(key:α->Rw)(r:Rw)(hd:∀k,k<l.length->(l.map key).getD k []=key (l.getD k Al)):(posL (l.map key) r).map (λk=>l.getD k Al)=l.filter λq=>decide (key q=r):=by
 have e:l=(Ar l.length).map (λj=>l.getD j Al):=by
  apply BU (by simp);intro i h1 h2;simp[AB,h1]
 conv=>rhs;rw[e]
 rw[List.filter_map];congr 1;unfold posL;rw[AK];refine CA λk hk=>?_;have hk:k<l.length:=by simpa using hk
 simp only[Function.comp,hd k hk]
theorem pos_succ(L:List Rw)(i:Nat)(h:i<L.length)(r:Rw):posL (L.take (i+1)) r=posL (L.take i) r++if L.getD i []=r then[i]else[]:=by
 unfold posL;have e1:(L.take (i+1)).length=i+1:=by simp;omega
 have e2:(L.take i).length=i:=by simp;omega
 rw[e1,e2,BD,Ct];congr 1
 ·refine CA λk hk=>?_;have hk:k<i:=by simpa using hk
  rw[AB,AB,BI,BI,if_pos (by omega),if_pos hk]
 have:(L.take (i+1)).getD i []=L.getD i []:=by rw[AB,AB,BI,if_pos (by omega)]
 simp only[CX,List.filter_nil,this,decide_eq_true_eq]
theorem pos_lt{L:List Rw}{r:Rw}{k:Nat}(h:k∈posL L r):k<L.length:=by
 have:=(Br.1 h).1;simpa using this
theorem zMl{L:List Rw}{r:Rw}(h:r∉L):posL L r=[]:=by
 unfold posL;rw[List.filter_eq_nil_iff];intro k hk e;have hk:k<L.length:=by simpa using hk
 have e:L.getD k []=r:=by simpa using e
 exact h (by rw[<-e,AB,AI hk];exact A7 hk)
abbrev Fn:Type:=List Nat×List (Rw×Nat)
def fltF(U:List Nat)(o:Fn):List Nat×List (List Va):=(zBp (λv=>(msk o.1&&&msk U).testBit v) U,allK ((o.2.map (·.1)).map λr=>zQ r (zBp (λv=>(msk o.1&&&msk U).testBit v) o.1)))
def faN(o:Fn):Fa Nat:=⟨o.1,o.2⟩
theorem flt_ok{U:List Nat}(hU:Asc U){o:Fn}(ho:Asc o.1)(s:List Va):decide (zQ s (fltF U o).1∈(fltF U o).2)=okO U s (faN o):=by
 rw[B9];simp only[fltF,decide_eq_true_eq,zH6,A6,Ca,okO,CH,Bo,faN,Function.comp];have e:U.filter (λv=>(msk o.1&&&msk U).testBit v)=o.1.filter (λv=>(msk o.1&&&msk U).testBit v):=zYa hU ho λv=>by
  rw[zLr];simp only[Bp,decide_eq_true_eq];constructor
  ·rintro⟨h1,h2,h3⟩;exact⟨h2,h2,h3⟩
  rintro⟨h1,h2,h3⟩;exact⟨h3,h2,h3⟩
 have key:∀q:Rw×Nat,zQ q.1 (zBp (λv=>(msk o.1&&&msk U).testBit v) o.1)=zQ s (zBp (λv=>(msk o.1&&&msk U).testBit v) U)↔∀v∈o.1,v∈U->asg o.1 q.1 v=asg U s v:=by
  intro q;rw[zFi ho.nd,zFi hU.nd,e,zE0];simp only[Br,zLr,Bp,decide_eq_true_eq];constructor
  ·intro h v hv hu;exact h v ⟨hv,hv,hu⟩
  rintro h v ⟨hv,_,hu⟩;exact h v hv hu
 constructor
 ·rintro⟨q,hq,h⟩;exact⟨q,hq,λv hv=>decide_eq_true ((key q).1 h v hv)⟩
 rintro⟨q,hq,h⟩;exact⟨q,hq,(key q).2 λv hv=>of_decide_eq_true (h v hv)⟩
theorem allK_nd(L:List Rw):(allK L).Nodup:=by
 have key:∀(L K:List Rw),K.Nodup->(L.foldl addK K).Nodup:=by
  intro L;induction L with
  |nil=>exact λK h=>h
  | cons a L ih=>
   intro K h;refine ih _ ?_;unfold addK;split
   ·exact h
   rename_i hn;rw[List.nodup_append];refine⟨h,by simp,λx hx y hy=>?_⟩;simp only[B5]at hy;subst hy;exact λe=>hn (e▸hx)
 exact key L [] List.nodup_nil
theorem zW1(L:List Rw)(r:Rw):allK (L++[r])=addK (allK L) r:=by simp[allK]
theorem zGl(L:List Rw)(r s:Rw):posL (L++[r]) s=posL L s++if r=s then[L.length]else[]:=by
 have h:=pos_succ (L++[r]) L.length (by simp) s;rw[AT (by simp),C3 (Ba _),Cg]at h;rw[h];simp[AB]
mutual
/-- does the data name blocks below m alone? -/
def rwG(m:Nat):D->Bool
 | .own j _=>decide (j<m)
 | .osl j _ _ _ _=>decide (j<m)
 | .osr j _ _ _ _ _=>decide (j<m)
 | .mref j=>decide (j<m)
 | .agg cs=>rBL m cs
 | .tup cs=>rBL m cs
 | .clo _ x y=>rBL m x&&rBL m y
 | .ifc _ d=>rwG m d
 |_=>Ab
def rBL(m:Nat):List D->Bool
 |[]=>Ab
 |d::ds=>rwG m d&&rBL m ds
end
mutual
theorem zXp{m k:Nat}(hk:m<=k):∀d:D,rwG m d=Ab->refs k d=Ac
 | .own j o,h=>by simp only[rwG,decide_eq_true_eq]at h;simp only[refs,beq_eq_false_iff_ne];omega
 | .osl j _ _ _ _,h=>by simp only[rwG,decide_eq_true_eq]at h;simp only[refs,beq_eq_false_iff_ne];omega
 | .osr j _ _ _ _ _,h=>by simp only[rwG,decide_eq_true_eq]at h;simp only[refs,beq_eq_false_iff_ne];omega
 | .mref j,h=>by simp only[rwG,decide_eq_true_eq]at h;simp only[refs,beq_eq_false_iff_ne];omega
 | .agg cs,h=>by simp only[rwG]at h;simp only[refs];exact zGk hk cs h
 | .tup cs,h=>by simp only[rwG]at h;simp only[refs];exact zGk hk cs h
 | .clo _ x y,h=>by
  simp only[rwG,Bp]at h;simp only[refs,zGk hk x h.1,zGk hk y h.2,A3]
 | .ifc _ d,h=>by simp only[rwG]at h;simp only[refs];exact zXp hk d h
 | .unk,_| .val _,_| .row _ _,_| .ptr _,_| .mfz _ _,_| .fx _,_=>by simp only[refs]
theorem zGk{m k:Nat}(hk:m<=k):∀ds:List D,rBL m ds=Ab->zAr k ds=Ac
 |[],_=>by simp only[zAr]
 |d::ds,h=>by
  simp only[rBL,Bp]at h;simp only[zAr,zXp hk d h.1,zGk hk ds h.2,A3]
end
theorem zMq{k:Nat}{d:D}(h:refs k d=Ac):zAo k d=d:=by unfold zAo;rw[h];rfl
theorem zSo{m k:Nat}(hk:m<=k):∀{ds:List D},rBL m ds=Ab->ds.map (zAo k)=ds
 |[],_=>rfl
 |d::ds,h=>by
  simp only[rBL,Bp]at h;rw[AZ,zMq (zXp hk d h.1),zSo hk h.2]
def bBL(m:Nat)(bs:List Bk):Bool:=bs.all λe=>e.nob||rBL m e.cells
def zDf(L:List Rw):List Nat->List Rw->List D
 |n::ns,r::K=> .osl n 0 (posL L r).length (posL L r).length Ab::zDf L ns K
 |_,_=>[]
abbrev gArr(it:TypeId)(L:List Rw)(r:Rw):Bk:=⟨nsD (posL L r),it,1,Ab,Ac, .plain⟩
structure Grp(m:Nat)(mt it:TypeId)(L:List Rw)(base st:List Bk)(ns:List Nat):Prop where
 pre:st.take m=base
 mp:st[m]?=Am ⟨zDf L ns (allK L),mt,0,Ac,Ac, .map ((allK L).map kyv)⟩
 len:ns.length=(allK L).length
 nd:ns.Nodup
 at_:∀(j k:Nat)(r:Rw),ns[j]?=Am k->(allK L)[j]?=Am r->m<k/\st[k]?=Am (gArr it L r)
theorem zEr{L:List Rw}:∀{ns:List Nat}{K:List Rw}(j:Nat),(zDf L ns K)[j]?=match ns[j]?,K[j]? with
  |some n,Am r=>Am (.osl n 0 (posL L r).length (posL L r).length Ab)
  |_,_=>AM
 |[],K,j=>by simp[zDf]
 |n::ns,[],j=>by
  simp only[zDf,List.getElem?_nil];split<;>simp_all
 |n::ns,r::K,0=>by simp[zDf]
 |n::ns,r::K,j+1=>by simp only[zDf,List.getElem?_cons_succ];exact zEr j
theorem zEq{L:List Rw}:∀{ns:List Nat}{K:List Rw},ns.length=K.length->(zDf L ns K).length=K.length
 |[],[],_=>rfl
 |n::ns,r::K,h=>by simp only[zDf,BH];rw[zEq (by simpa using h)]
section
variable {P : Program} {T : Par} {ops : Array Oper} {dr : Bool} {l : List Oper} {sl : List D} {st base : List Bk} {K : List D → List Bk → Prop} {m : Nat} {mt it : TypeId} {L : List Rw} {ns : List Nat}
theorem Grp.lt(h:Grp m mt it L base st ns):m<st.length:=(Bx.1 h.mp).1
theorem Grp.more(h:Grp m mt it L base st ns)(hb:bBL m base=Ab){r:Rw}(hr:r∈allK L){k:Nat}(hk:ns[(allK L).idxOf r]?=Am k)(tmp:Bk)(ht:tmp.nob=Ab){b' e':Bk}(hb':b'=gArr it (L++[r]) r)
  (he':e'=⟨((zDf L ns (allK L)).map (zAo k)).set ((allK L).idxOf r) (.osl k 0 (posL (L++[r]) r).length (posL (L++[r]) r).length Ab),mt,0,Ac,Ac, .map ((allK L).map kyv)⟩):
  Grp m mt it (L++[r]) base ((((st++[tmp]).map (zAs k)).set k b').set m e') ns:=by
 subst hb' he';have hj:=Cl.2 hr;have hrr:(allK L)[(allK L).idxOf r]?=Am r:=by rw[AI hj];simp
 obtain⟨hmk,hkst⟩:=h.at_ _ k r hk hrr;have hall:allK (L++[r])=allK L:=by rw[zW1,addK,if_pos hr]
 have hml:=h.lt;have hkl:k<st.length:=(Bx.1 hkst).1;have hget:∀i,i<st.length->i≠m->i≠k->((((st++[tmp]).map (zAs k)).set k (gArr it (L++[r]) r)).set m ⟨((zDf L ns (allK L)).map (zAo k)).set ((allK L).idxOf r) (.osl k 0 (posL (L++[r]) r).length (posL (L++[r]) r).length Ab),mt,0,Ac,Ac, .map ((allK L).map kyv)⟩)[i]?=(st[i]?).map (zAs k):=λi hi h1 h2=>by
  rw[BM (Ne.symm h1),BM (Ne.symm h2),Bq,By hi]
 refine⟨?_,?_,by rw[hall];exact h.len,h.nd,λj n s hn hs=>?_⟩
 ·apply Bn;intro i;rw[BI];split
  ·rename_i hi;rw[hget i (by omega) (by omega) (by omega)];have:base[i]?=st[i]?:=by rw[<-h.pre,BI,if_pos hi]
   rw[this];cases e:st[i]? with
   |none=>rfl
   | some x=>
    simp only[BK,Cf.injEq];have hx:x∈base:=Ce (this.trans e)
    have:=Bo.1 hb x hx
    simp only[Cj]at this;unfold zAs;split
    ·rfl
    rename_i hn;rw[zSo (m:=m) (by omega) (this.resolve_left hn)]
  rename_i hi;rw[<-h.pre,BI,if_neg hi]
 ·rw [CY (by simp;omega),hall];congr 2;apply Bn;intro i;rw[zEr,Cd,Bq,zEr];have hcl:((zDf L ns (allK L)).map (zAo k)).length=(allK L).length:=by rw[AK,zEq h.len]
  by_cases hi:(allK L).idxOf r=i
  ·subst hi;rw[if_pos rfl,if_pos (by rw[hcl];exact hj),hk,hrr]
  rw [if_neg hi];cases e1:ns[i]? with
  |none=>rfl
  | some n=>
   cases e2:(allK L)[i]? with
   |none=>rfl
   | some s=>
    have hne:n≠k:=λe=>by
     subst e;have h1:=(Bx.1 e1);have h2:=(Bx.1 hk);exact hi ((CT h.nd).1 (h2.2.trans h1.2.symm))
    have hsr:r≠s:=λe=>by
     subst e;obtain⟨h1,h2⟩:=Bx.1 e2;exact hi (by rw[<-h2];exact(allK_nd L).idxOf_getElem i h1)
    simp only[BK];rw[zMq (by simp only[refs,beq_eq_false_iff_ne];exact hne),zGl,if_neg hsr,BA]
 rw[hall]at hs;obtain⟨h1,h2⟩:=h.at_ j n s hn hs;refine⟨h1,?_⟩;by_cases hnk:n=k
 ·subst hnk;have:s=r:=by
   obtain⟨g1,g2⟩:=Bx.1 hn;obtain⟨g3,g4⟩:=Bx.1 hk;have e:j=(allK L).idxOf r:=(CT h.nd).1 (g2.trans g4.symm);subst e;rw[hrr]at hs;cases hs;rfl
  subst this;rw[BM (by omega),CY (by simp;omega)]
 have hnl:n<st.length:=(Bx.1 h2).1;rw[hget n hnl (by omega) hnk,h2];have hsr:r≠s:=λe=>by
  subst e;obtain⟨g1,g2⟩:=Bx.1 hs;have e:(allK L).idxOf r=j:=by rw[<-g2];exact(allK_nd L).idxOf_getElem j g1
  rw[e,hn]at hk;cases hk;exact hnk rfl
 simp only[BK,Cf.injEq];unfold zAs gArr;rw[zGl,if_neg hsr,BA];rfl
theorem Grp.new(h:Grp m mt it L base st ns){r:Rw}(hr:r∉allK L)(tmp:Bk){b' e':Bk}(hb':b'=gArr it (L++[r]) r)
  (he':e'=⟨zDf L ns (allK L)++[.osl (st.length+1) 0 1 1 Ab],mt,0,Ac,Ac, .map ((allK L++[r]).map kyv)⟩):
  Grp m mt it (L++[r]) base ((st++[tmp]++[b']).set m e') (ns++[st.length+1]):=by
 subst hb' he';have hall:allK (L++[r])=allK L++[r]:=by rw[zW1,addK,if_neg hr]
 have hml:=h.lt;have hrL:r∉L:=λhm=>hr ((zH6 L r).2 hm);have hns:∀n∈ns,m<n/\n<st.length:=λn hn=>by
  obtain⟨j,hj,rfl⟩:=Cv hn;obtain⟨h1,h2⟩:=h.at_ j ns[j] _ (AI hj) (AI (by rw[<-h.len];exact hj));exact⟨h1,(Bx.1 h2).1⟩
 have hne:∀s∈allK L,r≠s:=λs hs e=>hr (e▸hs);refine⟨?_,?_,by rw[hall];simp[h.len],?_,λj n s hn hs=>?_⟩
 ·rw[<-h.pre,List.take_set_of_le (Ba _),Bf,C3 (by omega)]
 ·rw[CY (by simp;omega),hall];congr 2;apply Bn;intro i;rw[zEr];rcases Nat.lt_trichotomy i ns.length with hi|hi|hi
  ·have hi2:i<(allK L).length:=by rw[<-h.len];exact hi
   rw[By (by rw[zEq h.len];exact hi2),zEr,By hi,By hi2,AI hi,AI hi2];simp only;rw[zGl,if_neg (hne _ (A7 hi2)),BA]
  ·subst hi;have hp:posL (L++[r]) r=[L.length]:=by rw[zGl,if_pos rfl,zMl hrL];rfl
   rw[BX (by rw[zEq h.len,h.len];exact Ba _),zEq h.len,BX (Ba _),BX (by rw[h.len];exact Ba _),h.len];simp[hp]
  have hle:=h.len;rw[BL (by rw[AU,zEq h.len];simp;omega),BL (l:=ns++_) (by simp;omega)]
 ·rw[List.nodup_append];refine⟨h.nd,by simp,λx hx y hy=>?_⟩;simp only[B5]at hy
  have:=(hns x hx).2
  omega
 rw[hall]at hs;rcases Nat.lt_trichotomy j ns.length with hj|hj|hj
 ·have hj2:j<(allK L).length:=by rw[<-h.len];exact hj
  rw[By hj]at hn;rw[By hj2]at hs;obtain⟨h1,h2⟩:=h.at_ j n s hn hs;have h3:=(hns n (Ce hn)).2;refine⟨h1,?_⟩;rw[BM (by omega),Bf,By h3,h2];unfold gArr;rw[zGl,if_neg (hne s (Ce hs)),BA]
 ·subst hj;rw[BX (Ba _)]at hn;rw[BX (by rw[h.len];exact Ba _),h.len]at hs;simp at hn hs;subst hn hs;refine⟨by omega,?_⟩;rw[BM (by omega),BX (by simp)];simp
 rw[BL (by simp;omega)]at hn;cases hn
end
section
variable (A B : List Nat) (lb : List (Rw × Nat)) (ok : Rw → Bool)
def selB(p:Rw×Nat):List (Rw×Nat):=lb.filter λq=>mt A p.1 B q.1
def prQ(p q:Rw×Nat):Rw×Nat:=(mg A p.1 B q.1,p.2*q.2)
def zHe(p:Rw×Nat)(l:List (Rw×Nat)):List (Rw×Nat):=(l.map (prQ A B p)).filter λs=>ok s.1
theorem zQg(la:List (Rw×Nat)):(zCa (· *·) A la B lb).filter (λp=>ok p.1)=la.flatMap λp=>zHe A B ok p (selB A B lb p):=by
 unfold zCa zHe selB prQ;rw[List.filter_flatMap]
variable {A B lb ok}
theorem partQ_succ(p:Rw×Nat)(l:List (Rw×Nat))(t:Nat)(h:t<l.length):zHe A B ok p (l.take (t+1))=zHe A B ok p (l.take t)++if ok (mg A p.1 B (l.getD t Al).1)then[prQ A B p (l.getD t Al)]else[]:=by
 unfold zHe;rw[BP h,CB,Ct,AB,AI h];congr 1;simp only[AZ,BE,CX,List.filter_nil,B3];rfl
theorem zVe(p:Rw×Nat)(l:List (Rw×Nat)):(zHe A B ok p l).length<=l.length:=by
 unfold zHe;exact AV (Bw _ _) (by simp)
theorem zV9(la:List (Rw×Nat)):∀i,((la.take i).flatMap λp=>zHe A B ok p (selB A B lb p)).length<=i*lb.length:=by
 induction la with
 |nil=>intro i;simp
 | cons p la ih=>
  intro i;cases i with
  |zero=>simp
  |succ i=>
   rw[CZ,C0,AU,CE];have h1:=zVe (A:=A) (B:=B) (ok:=ok) p (selB A B lb p);have h2:(selB A B lb p).length<=lb.length:=Bw _ _
   have:=ih i
   omega
theorem flatQ_succ(la:List (Rw×Nat))(i:Nat)(h:i<la.length):(la.take (i+1)).flatMap (λp=>zHe A B ok p (selB A B lb p))=(la.take i).flatMap (λp=>zHe A B ok p (selB A B lb p))++zHe A B ok (la.getD i Al) (selB A B lb (la.getD i Al)):=by
 rw[BP h,List.flatMap_append,AB,AI h];simp
theorem pos_sel(hA:Asc A)(hB:Asc B)(p:Rw×Nat):(posL ((lb.map (·.1)).map λr=>zQ r (zBp (λv=>(msk A&&&msk B).testBit v) B)) (zQ p.1 (zBp (λv=>(msk A&&&msk B).testBit v) A))).map (λk=>lb.getD k Al)=selB A B lb p:=by
 have h:=zZ8 lb (λq=>zQ q.1 (zBp (λv=>(msk A&&&msk B).testBit v) B)) (zQ p.1 (zBp (λv=>(msk A&&&msk B).testBit v) A)) (λk hk=>by simp[AB,hk]);rw[Ca];refine Eq.trans h ?_;unfold selB;refine CA λq _=>?_;rw[B9,decide_eq_true_eq];exact key_mt hA hB p.1 q.1
end
def zV4(L:List Rw):List D:=(allK L).map λr=> .row (nsD (posL L r)) (posL L r).length
theorem look_g(L:List Rw)(r:Rw):zLb Ac nl ((allK L).map kyv) (zV4 L) (kyv r)=if r∈L then .row (nsD (posL L r)) (posL L r).length else nl:=by
 unfold zLb zV4;rw[zEg,zCc];by_cases h:r∈L
 ·have h':=(zH6 L r).2 h;have hj:=Cl.2 h';rw[if_pos h',if_pos h];simp[ctD,AB,hj]
 have h':r∉allK L:=λk=>h ((zH6 L r).1 k);rw[if_neg h',if_neg h];rfl
section
variable {T : Par} {sl : List D} {st : List Bk}
theorem Weak.frzSlot{s:Nat}{d x:D}{ks:List Nat}(hs:sl[s]?=Am d)(hx:frz Ab st zAy d=Am (x,ks)):Weak T sl st (sl.set s x) (zA1 st ks):=by
 intro β I w tm h;obtain⟨v,hv,hr⟩:=h.rel.get s _ hs;have hfr:=zCq h.sr.weak _ _ _ _ v hx hr;have h0:=h.fzAll ks;refine⟨β,fixI I β st ks,⟨?_,h0.sr,h0.inj,h0.fz,h0.dom,h0.imb,h0.gl⟩,Stp.fzAll h ks,Kp.refl _ _⟩;refine RelT.of_get (by rw[Cp,h0.rel.length]) λi d' u hd hu=>?_;rw[Cd]at hd;split at hd
 ·grind [Rel.no]
 obtain⟨u',g1,g2⟩:=h0.rel.get i d' hd;rw[hu]at g1;cases g1;exact g2
theorem frz_osl{st:List Bk}{n k off l m:Nat}{wh:Bool}{e:Bk}(h:st[k]?=Am e)(hm:e.kd.isMap=Ac)(hn:e.nob=Ab):frz Ab st (n+1) (.osl k off l m wh)=Am (.row ((e.cells.drop off).take m) l,[k]):=by
 grind [only,frz,B8]
end
theorem zBg{sl:List D}{i j:Nat}(d:D)(h:j≠i):(sl.set i d).getD j .unk=sl.getD j .unk:=by
 simp[AB,BM (Ne.symm h)]
theorem zE4{sl:List D}{i:Nat}(d:D)(h:i<sl.length):(sl.set i d).getD i .unk=d:=by
 simp[AB,h]
section
variable {P : Program} {T : Par} {ops : Array Oper} {dr : Bool} {l : List Oper} {sl : List D} {st base : List Bk} {K : List D → List Bk → Prop} {m : Nat} {mt it kt tS : TypeId} {L : List Rw} {ns : List Nat} {inf : TypeInfo}
structure GTy(P:Program)(T:Par)(mt kt tS it:TypeId)(inf:TypeInfo):Prop where
 hmt:P.underlying mt=Am (.map kt tS)
 hkt:P.underlying kt=Am .string
 hts:P.underlying tS=Am (.slice it)
 hzv:zeroV P tS=Am nl
 hsz:tySz P it=Am 1
 hzd:zJu P it=Am [iD 0]
 hif:P.info? it=Am inf
 hi1:inf.size=1
 hi8:inf.bytes=8
 hsh:T.sh it=Ac
theorem zZk(ty:GTy P T mt kt tS it inf)(hkp:∀k,m<k->T.keep k=Ac){r:Rw}{i:Nat}(hi:i=L.length)(hil:i<=1000000){o1 o2 o3 o4 o5:Oper}{a1 a2 a3 b1 b2 s1 s2 s3 s4:Nat}
  (g1:o1.guard=AM)(g2:o2.guard=AM)(g3:o3.guard=AM)(g4:o4.guard=AM)(g5:o5.guard=AM)
  (p1:o1.op= .lookup mt (.tmp a1) (.tmp a2) Ac)(p2:o2.op= .move (.tmp a3))(p3:o3.op= .buildSlice tS 1 #[(0, .tmp s2)])(p4:o4.op= .call {callee:= .builtin .append,args:=#[.tmp s1, .tmp s3],argTypes:=#[tS,tS]})(p5:o5.op= .mapUpdate mt (.tmp b1) (.tmp b2) (.tmp s4))
  (d1:o1.dst=Am s1)(d2:o2.dst=Am s2)(d3:o3.dst=Am s3)(d4:o4.dst=Am s4)(d5:o5.dst=AM)
  (hlen:(decide (s1<sl.length)&&decide (s2<sl.length)&&decide (s3<sl.length)&&decide (s4<sl.length))=Ab)(hne:(s1≠s2/\s1≠s3/\s1≠s4/\s2≠s3/\s2≠s4/\s3≠s4)/\(a3≠s1/\b1≠s1/\b1≠s2/\b1≠s3/\b1≠s4/\b2≠s1/\b2≠s2/\b2≠s3/\b2≠s4))
  (v1:sl.getD a1 .unk= .mref m)(v2:sl.getD a2 .unk= .val (kyv r))(v3:sl.getD a3 .unk=iD i)(v4:sl.getD b1 .unk= .mref m)(v5:sl.getD b2 .unk= .val (kyv r))
  (hrb:rBL (m+1) sl=Ab)(hbb:bBL m base=Ab)(hG:Grp m mt it L base st ns)
  (next:∀st' ns' e1 e3 e4,Grp m mt it (L++[r]) base st' ns'->seqW P T ops dr l ((((sl.set s1 e1).set s2 (iD i)).set s3 e3).set s4 e4) st' K):
  seqW P T ops dr (o1::o2::o3::o4::o5::l) sl st K:=by
 simp only[Bp,decide_eq_true_eq]at hlen;obtain⟨⟨⟨l1,l2⟩,l3⟩,l4⟩:=hlen;obtain⟨⟨n1,n2,n3,n4,n5,n6⟩,m1,m2,m3,m4,m5,m6,m7,m8,m9⟩:=hne;have hml:=hG.lt;have hpl:(posL L r).length<=1000000:=by
  unfold posL;exact AV (Bw _ _) (by simp;omega)
 have hkeyf:(zX .string (kyv r)=Ab/\((allK L).map kyv).all (zX .string)=Ab):=⟨rfl,zDh _⟩;have e1:aeff P T o1.op o1.type (evD sl) st= .get (zX .string (kyv r)=Ab/\((allK L).map kyv).all (zX .string)=Ab) (zLb Ac nl ((allK L).map kyv) (zDf L ns (allK L)) (kyv r)):=by
  rw[p1];simp only[aeff,evD,v1,v2,zLt,ty.hmt,hG.mp,zHq,ty.hkt,ty.hzv]
 refine zBz g1<|go_get e1 (by rw[p1];rfl) hkeyf rfl ?_;rw[d1];simp only[putD];generalize hd1:zLb Ac nl ((allK L).map kyv) (zDf L ns (allK L)) (kyv r)=D1;have e2:aeff P T o2.op o2.type (evD (sl.set s1 D1)) st= .lit True (iD i):=by
  rw[p2];simp only[aeff,evD,zBg D1 m1,v3]
 refine zBz g2<|go_lit e2 (by rw[p2];rfl) trivial rfl ?_;rw[d2];simp only[putD];have e3:aeff P T o3.op o3.type (evD ((sl.set s1 D1).set s2 (iD i))) st= .new (True/\0<1/\1=1/\1*1<=16777216/\1<=9223372036854775807) ⟨[iD i],it,1,Ab,Ac, .plain⟩ (.osl st.length 0 1 (1*1) Ab) []:=by
  rw[p3];have hev:evD ((sl.set s1 D1).set s2 (iD i)) (.tmp s2)=iD i:=by
   simp only[evD];exact zE4 _ (by simpa using l2)
  have hes:zCr P T tS=false:=by simp only[zCr,ty.hts,ty.hsh]
  simp only[aeff,hes,B8,if_false,AZ,BE,hev,zC6,ty.hts,ty.hsz,ty.hzd];simp[zEh,frz,zAy,zKt,repL,setAt,zF8,cellsOf,zHl];rfl
 refine zBz g3<|go_new e3 (by rw[p3];rfl) (by decide) rfl rfl ?_;rw[d3];simp only[putD,zA1,Ck,AQ];generalize htmp:(⟨[iD i],it,1,Ab,Ac, .plain⟩:Bk)=tmp;have htn:tmp.nob=true:=by rw[<-htmp];rfl
 have hs3:(((sl.set s1 D1).set s2 (iD i)).set s3 (.osl st.length 0 1 1 Ab)).getD s3 .unk= .osl st.length 0 1 1 true:=zE4 _ (by simpa using l3);have hs1:(((sl.set s1 D1).set s2 (iD i)).set s3 (.osl st.length 0 1 1 Ab)).getD s1 .unk=D1:=by
  rw[zBg _ n2,zBg _ n1,zE4 _ l1]
 have hnew:(st++[tmp])[st.length]?=Am tmp:=by simp
 have hsrc:zEe Ac (st++[tmp]) (.osl st.length 0 1 1 Ab)=Am ([iD i],1):=by
  simp only[zEe,hnew];rw[<-htmp];rfl
 have hsh:zCr P T tS=false:=by simp only[zCr,ty.hts,ty.hsh]
 have hmu:∀(sl':List D)(st':List Bk)(e:Bk)(d:D),sl'.getD b1 .unk= .mref m->sl'.getD b2 .unk= .val (kyv r)->sl'.getD s4 .unk=d->st'[m]?=Am e->e.kd= .map ((allK L).map kyv)->e.nob=Ac->e.fz=Ac->
   aeff P T o5.op o5.type (evD sl') st'= .put (e.fz=Ac/\zX .string (kyv r)=Ab/\((allK L).map kyv).all (zX .string)=Ab) m (mput e ((allK L).map kyv) (kyv r) d) []:=λsl' st' e d q1 q2 q3 q4 q5 q6 q7=>by
  rw[p5];simp only[aeff,evD,q1,q2,q3,zDs,ty.hmt,q4,ty.hkt,q5,q6,B8,if_false]
 by_cases hr:r∈allK L
 ·have hj:=Cl.2 hr;obtain⟨k,hk⟩:∃k,ns[(allK L).idxOf r]?=Am k:=⟨ns[(allK L).idxOf r]'(by rw[hG.len];exact hj),AI _⟩
  have hrr:(allK L)[(allK L).idxOf r]?=Am r:=by rw[AI hj];simp
  obtain⟨hmk,hkst⟩:=hG.at_ _ k r hk hrr;have hkl:k<st.length:=(Bx.1 hkst).1;have hD1:D1= .osl k 0 (posL L r).length (posL L r).length true:=by
   rw[<-hd1];unfold zLb;rw[zEg,zCc,if_pos hr];simp only[ctD,B8,if_false,AB];rw[zEr,hk,hrr];rfl
  subst hD1;have hkst2:(st++[tmp])[k]?=Am (gArr it L r):=by rw[By hkl];exact hkst
  have e4:aeff P T o4.op o4.type (evD (((sl.set s1 (.osl k 0 (posL L r).length (posL L r).length Ab)).set s2 (iD i)).set s3 (.osl st.length 0 1 1 Ab))) (st++[tmp])= .app ((gArr it L r).arr=Ab/\(gArr it L r).cells.length=(posL L r).length*inf.size/\(posL L r).length=(posL L r).length*inf.size/\(gArr it L r).ty=it/\(gArr it L r).sz=inf.size/\[iD i].length=1*inf.size/\0<inf.size/\0<inf.bytes/\it=it/\((posL L r).length+1)*inf.bytes<=140737488355328/\[iD 0].length=inf.size/\(gArr it L r).kd.isMap=Ac/\(Ac=Ac\/(gArr it L r).kd.isSh=Ab))
    k {gArr it L r with cells:=if(gArr it L r).nob then(gArr it L r).cells++[iD i]else((gArr it L r).cells++[iD i]).map (zAo k)} (.osl k 0 ((posL L r).length+1) (((posL L r).length+1)*inf.size) Ab):=by
   rw[p4];simp only[aeff,evD,hs1,hs3,unB,hsh,zFs,ty.hts,ty.hif,ty.hzd,hsrc,aApp,hkst2]
  have hnb:(gArr it L r).nob=true:=rfl;rw[hnb,if_pos rfl,ty.hi1,AQ]at e4;refine zBz g4<|go_app e4 (by rw[p4];rfl) (hkp k hmk) ?_ rfl rfl ?_
  ·rw[ty.hi8];exact⟨rfl,by simp,by omega,rfl,rfl,rfl,by decide,by decide,rfl,by omega,rfl,rfl, .inl rfl⟩
  rw[d4];simp only[putD];have hsl:(((sl.set s1 (.osl k 0 (posL L r).length (posL L r).length Ab)).set s2 (iD i)).set s3 (.osl st.length 0 1 1 Ab)).map (zAo k)=((sl.set s1 .unk).set s2 (iD i)).set s3 (.osl st.length 0 1 1 Ab):=by
   rw[CC,CC,CC,zSo (m:=m+1) (by omega) hrb];have q1:zAo k (.osl k 0 (posL L r).length (posL L r).length Ab)= .unk:=by unfold zAo;simp[refs]
   have q2:zAo k (iD i)=iD i:=zMq rfl;have q3:zAo k (.osl st.length 0 1 1 Ab)= .osl st.length 0 1 1 true:=zMq (by simp only[refs,beq_eq_false_iff_ne];omega);rw[q1,q2,q3]
  rw[hsl];have hp1:(posL (L++[r]) r)=posL L r++[i]:=by rw[zGl,if_pos rfl,hi]
  have hb':({gArr it L r with cells:=(gArr it L r).cells++[iD i]}:Bk)=gArr it (L++[r]) r:=by
   show(⟨nsD (posL L r)++[iD i],it,1,Ab,Ac, .plain⟩:Bk)=⟨nsD (posL (L++[r]) r),it,1,Ab,Ac, .plain⟩;rw[hp1];simp
  rw[hb'];have hml2:m<((st++[tmp]).map (zAs k)).length:=by simp;omega
  have hmp2:(((st++[tmp]).map (zAs k)).set k (gArr it (L++[r]) r))[m]?=Am ⟨(zDf L ns (allK L)).map (zAo k),mt,0,Ac,Ac, .map ((allK L).map kyv)⟩:=by
   rw[BM (by omega),Bq,By hml,hG.mp];rfl
  refine zBz g5<|zV1 (hmu _ _ _ _ ?_ ?_ (zE4 _ (by simpa using l4)) hmp2 rfl rfl rfl) (by rw[p5];rfl) ⟨rfl,hkeyf⟩ rfl rfl ?_
  ·rw[zBg _ m5,zBg _ m4,zBg _ m3,zBg _ m2,v4]
  ·rw[zBg _ m9,zBg _ m8,zBg _ m7,zBg _ m6,v5]
  rw[d5];simp only[putD,zA1,Ck];refine next _ ns _ _ _ (hG.more hbb hr hk tmp htn rfl ?_)
  unfold mput;rw[zEg,zCc,if_pos hr];simp only[hp1,AU,BH,Ci,AQ,BN]
 have hD1:D1=nl:=by
  rw[<-hd1];unfold zLb;rw[zEg,zCc,if_neg hr];rfl
 subst hD1;have e4:aeff P T o4.op o4.type (evD (((sl.set s1 nl).set s2 (iD i)).set s3 (.osl st.length 0 1 1 Ab))) (st++[tmp])= .new ([iD i].length=1*inf.size/\0<inf.size/\0<inf.bytes/\it=it/\1*inf.bytes<=140737488355328/\[iD 0].length=inf.size) ⟨[iD i],it,inf.size,Ab,Ac,kdOf Ac⟩ (.osl (st++[tmp]).length 0 1 (1*inf.size) Ab) []:=by
  rw[p4];simp only[aeff,evD,hs1,hs3,unB,hsh,zFs,ty.hts,ty.hif,ty.hzd,hsrc,aApp]
 rw[ty.hi1]at e4;refine zBz g4<|go_new e4 (by rw[p4];rfl) ?_ rfl rfl ?_
 ·rw[ty.hi8];exact⟨rfl,by decide,by decide,rfl,by decide,rfl⟩
 rw[d4];simp only[putD,zA1,Ck];have hp1:(posL (L++[r]) r)=[i]:=by rw[zGl,if_pos rfl,hi,zMl λh=>hr ((zH6 L r).2 h)];rfl
 have hmp2:(st++[tmp]++[(⟨[iD i],it,1,Ab,Ac,kdOf Ac⟩:Bk)])[m]?=Am ⟨zDf L ns (allK L),mt,0,Ac,Ac, .map ((allK L).map kyv)⟩:=by
  rw[Bf,By hml,hG.mp]
 refine zBz g5<|zV1 (hmu _ _ _ _ ?_ ?_ (zE4 _ (by simpa using l4)) hmp2 rfl rfl rfl) (by rw[p5];rfl) ⟨rfl,hkeyf⟩ rfl rfl ?_
 ·rw[zBg _ m5,zBg _ m4,zBg _ m3,zBg _ m2,v4]
 ·rw[zBg _ m9,zBg _ m8,zBg _ m7,zBg _ m6,v5]
 rw[d5];simp only[putD,zA1,Ck];refine next _ (ns++[st.length+1]) _ _ _ (hG.new hr tmp (b':=⟨[iD i],it,1,Ab,Ac,kdOf Ac⟩) ?_ ?_)
 ·show(⟨[iD i],it,1,Ab,Ac, .plain⟩:Bk)=⟨nsD (posL (L++[r]) r),it,1,Ab,Ac, .plain⟩;rw[hp1];rfl
 unfold mput;rw[zEg,zCc,if_neg hr];simp
theorem zTs{o:Oper}{s:Nat}{x:Operand}(v:D)(g:o.guard=AM)(p:o.op= .move x)(d:o.dst=Am s)(hv:evD sl x=v)(next:seqW P T ops dr l (sl.set s v) st K):seqW P T ops dr (o::l) sl st K:=by
 have e:aeff P T o.op o.type (evD sl) st= .lit True v:=by rw[p,<-hv];rfl
 refine zBz g<|go_lit e (by rw[p];rfl) trivial rfl ?_;rw[d];exact next
theorem zVp{b:Code}{Q:Exit->List D->List Bk->Prop}(h:∀s0,s0=sl->zAb P T b Q s0 st):zAb P T b Q sl st:=h sl rfl
theorem zVq{b:Code}{Q:Exit->List D->List Bk->Prop}(dead:List Nat){sl':List D}(e:zAd sl dead=sl')(k:awp P T b Q sl' st):zAb P T b Q sl st:=⟨_,_,Weak.slots (LeL.dead dead sl),e▸k⟩
theorem frz_mref{st:List Bk}{n k:Nat}{e:Bk}{ks:List Value}(h:st[k]?=Am e)(hm:e.kd= .map ks)(hn:e.nob=Ac):frz Ab st (n+1) (.mref k)=(mapF (frz Ab st n) e.cells).map λx=>(.mfz ks x.1,k::x.2):=by
 simp only[frz,h,hm,hn,B8,if_false]
theorem gfrz{L:List Rw}{it:TypeId}{st:List Bk}:∀(ns:List Nat)(K:List Rw),ns.length=K.length->(∀(j k:Nat)(r:Rw),ns[j]?=Am k->K[j]?=Am r->st[k]?=Am (gArr it L r))->mapF (frz Ab st 8) (zDf L ns K)=Am (K.map λr=> .row (nsD (posL L r)) (posL L r).length,ns)
 |[],[],_,_=>rfl
 | n::ns,r::K,h,ha=>by
  have h1:=ha 0 n r rfl rfl;have ih:=gfrz (L:=L) (it:=it) (st:=st) ns K (by simpa using h) λj k s h1 h2=>ha (j+1) k s (by simpa using h1) (by simpa using h2);have e:frz Ab st 8 (.osl n 0 (posL L r).length (posL L r).length Ab)=Am (.row (nsD (posL L r)) (posL L r).length,[n]):=by
   have h2:=frz_osl (n:=7) (off:=0) (l:=(posL L r).length) (m:=(posL L r).length) (wh:=Ab) h1 rfl rfl;rw[A8,zJ8 _ _ rfl]at h2;exact h2
  simp only[zDf,mapF,e,ih];rfl
theorem zY6(hkp:∀k,m<=k->T.keep k=Ac){s:Nat}(hs:sl[s]?=Am (.mref m))(hrb:rBL m (sl.set s .unk)=Ab)(hbb:bBL m base=Ab)(hG:Grp m mt it L base st ns):Weak T sl st (sl.set s (.mfz ((allK L).map kyv) (zV4 L))) base:=by
 have hml:=hG.lt;have hx:frz Ab st zAy (.mref m)=Am (.mfz ((allK L).map kyv) (zV4 L),m::ns):=by
  have h2:=frz_mref (n:=8) hG.mp rfl rfl;rw[gfrz ns (allK L) hG.len λj k r h1 h2=>(hG.at_ j k r h1 h2).2]at h2;exact h2
 refine(Weak.frzSlot hs hx).trans ?_;have hlen:(zA1 st (m::ns)).length=st.length:=zY _ _;have htk:(zA1 st (m::ns)).take m=base:=by
  rw[<-hG.pre];apply Bn;intro i;rw[BI,BI];split
  ·rename_i hi;rw[zBo];cases e:st[i]? with
   |none=>rfl
   | some x=>
    have hn:i∉m::ns:=by
     intro h;rcases Bb.1 h with h|h
     ·omega
     obtain⟨j,hj,rfl⟩:=Cv h
     have:=(hG.at_ j ns[j] _ (AI hj) (AI (by rw[<-hG.len];exact hj))).1
     omega
    simp only[BK,if_neg hn]
  rfl
 rw[<-htk];refine Weak.cut m ?_ hkp;unfold zF3;simp only[Bo,BG,Bp,Cz,Cj];intro i hi;have hsl:s<sl.length:=(Bx.1 hs).1;have hset:∀(sl:List D)(s:Nat)(d:D),rwG m d=Ab->rBL m (sl.set s .unk)=Ab->rBL m (sl.set s d)=true:=by
  intro sl;induction sl with
  |nil=>intro s d _ h;simpa using h
  |cons a sl ih=>
   intro s d hd h;cases s with
   |zero=>simp only[List.set_cons_zero,rBL,Bp]at h⊢;exact⟨hd,h.2⟩
   |succ s=>simp only[List.set_cons_succ,rBL,Bp]at h⊢;exact⟨h.1,ih s d hd h.2⟩
 refine⟨zGk (m:=m) (by omega) _ (hset sl s _ rfl hrb),λe he=>?_⟩;rw[htk]at he
 have:=Bo.1 hbb e he
 simp only[Cj]at this;exact this.imp id λh=>zGk (by omega) _ h
end
end
section
open Go.RowKit
attribute [local irreducible] seqW awp zAa zAb zR Weak updS zAd retL Pure Acts rP setP setQ cP nP fr
set_option maxRecDepth 4096
theorem vaB_app(l:List Va)(v:Va):zL (l++[v])=zL l++vaC v:=by rw[zQ9];simp[zL]
theorem zYz(l:List Va)(t:Nat)(h:l.length=t)(hb:t<=1000000):(vaB l).arr=Ab/\(vaB l).cells.length=t*3/\t*3=t*3/\(vaB l).ty=107/\(vaB l).sz=3/\3=3/\0<3/\0<32/\107=107/\(t+1)*32<=140737488355328/\3=3/\(vaB l).kd.isMap=Ac/\(Ac=Ac\/(vaB l).kd.isSh=Ab):=
 ⟨rfl,by rw[<-h];exact zB8 l,rfl,rfl,rfl,rfl,by decide,by decide,rfl,by omega,rfl,rfl, .inl rfl⟩
theorem zJy(l:List Va)(v:Va):vaB (l++[v])=⟨zL l++vaC v,107,3,Ab,Ac, .plain⟩:=by rw[<-vaB_app]
set_option maxHeartbeats 4000000 in
theorem merge_c(A B:List Nat)(x y:List Va)(n a b:Nat)(hn:(un A B).length=n)(ha:A.length=a)(hb:B.length=b)(hx:x.length=a)(hy:y.length=b)(hA:Asc A)(hB:Asc B)(la:a<=32)(lb:b<=32)(ln:n<=32):
  Pure As 95 [.row (nsD (un A B)) n, .row (nsD A) a, .row (zL x) a, .row (nsD B) b, .row (zL y) b] [] (.row (zL (mg A x B y)) n):=by
 have hU:Asc (un A B):=zZc A B;have hAU:∀v∈A,v∈un A B:=λv h=>zEt.2 ⟨hA.2 v h, .inl h⟩;have hBU:∀v∈B,v∈un A B:=λv h=>zEt.2 ⟨hB.2 v h, .inr h⟩;have mgt:=mg_take A x B y;have hmem:∀v∈un A B,v∈A\/v∈B:=λv h=>(zEt.1 h).2;unfold mg;have sgA:∀v,v∈A->sg A x B y v=x.getD (cntL A v) default:=λv h=>by rw[sg,if_pos h,asg_cnt hA.1 x h]
 have sgB:∀v,v∉A->v∈B->sg A x B y v=y.getD (cntL B v) default:=λv h k=>by rw[sg,if_neg h,asg_cnt hB.1 y k]
 generalize sg A x B y=σ at*;generalize un A B=U at*;subst hn ha hb;refine zH zBt mixed Tryz.func95 rfl<|vAu<|vA<|ve ((0:Int)<=(0:Int)/\(0:Int)<=(Aa U:Int)/\(↑(32:Nat):Int)*(Aa U:Int)<=(281474976710656:Int)/\(Aa U:Int)<=(281474976710656:Int)/\0<3/\3=3)<|vAe<|zB<|vAe<|zF<|zBq (λ(t:Nat)(l:List Va)=>fr 73 [(1,Ai (nsD A)<|Aa A),(2,Ai (zL x)<|Aa A),(3,Ai (nsD B)<|Aa B),(4,Ai (zL y)<|Aa B),(10,nl),(11,Af 0 0 t (t*3) Ab),(12,iD (↑(cntL A<|bdU U t):Int)),(13,iD (↑(cntL B<|bdU U t):Int)),(21,Ai (nsD U)<|Aa U),(22,iD (Aa U:Int)),(23,iD (t:Int))]) (λt l=>[vaB l]) (λt l=>U.length-t) (λ(t:Nat)(l:List Va)=>t<=U.length/\l=(U.take t).map σ) 0 [] ?_ ?_ ?_
 ·exact⟨by omega,by simp⟩
 ·refine wk 12 (iD 0) (iD (↑(cntL A (bdU U 0)):Int)) (by simp[updB,cntL0 hU hAU,cntL0 hU hBU]) (wk 13 (iD 0) (iD (↑(cntL B (bdU U 0)):Int)) (by simp[updB,cntL0 hU hAU,cntL0 hU hBU]) (vk 1))
 rintro t l ⟨h1,h2⟩;rcases AF t U.length with h3|h3
 ·have hv:=bdU_lt hU.2 h3;have hs:=zWp hU hA.nd hAU h3;have hs':=zWp hU hB.nd hBU h3;have hm:=mgt t h3;rw[<-h2]at hm;have hd:=bdU_getD h3;have hk:=hmem _ hv;have hll:l.length=t:=by rw[h2];simp;omega
  by_cases ha:bdU U t∈A
  ·obtain⟨p1,p2⟩:=zYm hA.1 ha;rw[sgA _ ha]at hm;rw[if_pos ha]at hs;by_cases hb:bdU U t∈B
   ·obtain⟨q1,q2⟩:=zYm hB.1 hb;rw[if_pos hb]at hs';generalize bdU U t=v at*;generalize cntL A v=i at*;generalize cntL B v=k at*;focus
     refine vAu<|zB<|vT ((t:Int)<↑(Aa U))<|vKB<|vA<|vr 1 (ix ↑t ↑(Aa U) (nsD U≠[])) ?_ ⟨(by omega),⟨(by omega),(by exact zW)⟩⟩;refine vp 25 t (nsD U)<|vr 1 (0<Aa (Ag t<|nsD U))<|vs 26 (AR (Ag t<|nsD U) Uk) (iD v) (hd:=by simp(disch:=omega) only[zA6,hd])<|veT<|zB<|vd [0,1,2,3,4,5,6,7,9,12,13,14,15,16,17,18,19,21,8,10,11,24,20,22,23,25]<|vw 8 [] [(4,Ab)] (decide ((i:Int)<↑(Aa A))=Ab/\ix ↑i ↑(Aa A) (nsD A≠[])) (vp 34 i (nsD A)<|vw 9 [] [(16,Ab)] (decide ((k:Int)<↑(Aa B))=Ab/\ix ↑k ↑(Aa B) (nsD B≠[])) (vp 46 k (nsD B)<|vr 2 (0<Aa (Ag i<|nsD A))<|vs 35 (AR (Ag i<|nsD A) Uk) (iD v) (hd:=by simp(disch:=omega) only[zA6,p2])<|vr 4 (True/\0<Aa (Ag k<|nsD B))<|vs 47 (AR (Ag k<|nsD B) Uk) (iD v) (hd:=by simp(disch:=omega) only[zA6,q2]) ?_) ⟨(by exact decide_eq_true (by omega)),⟨(by omega),⟨(by omega),(by exact zW)⟩⟩⟩) ⟨(by exact decide_eq_true (by omega)),⟨(by omega),⟨(by omega),(by exact zW)⟩⟩⟩;refine veT<|zB<|vAe<|vEt ((v:Int)) ((v:Int))<|vA<|vr 5 (ix ↑i ↑(Aa A) (zL x≠[])/\3<=Aa (Ag (i*3)<|zL x)) (vs 56 (Ay<|Av 3<|Ag (i*3)<|zL x) (Ay<|vaC<|Ap x i Al) (hd:=by simp(disch:=omega) only[zCu]) ?_) ⟨⟨(by omega),⟨(by omega),(by exact zFv _)⟩⟩,(by exact zEa _ _)⟩;refine vewh [] [] (((3=3/\3<=3/\True)/\0<3/\3=3/\3<=16777216/\1<=9223372036854775807)/\Bi (vaB l)=Ab/\Aa (AJ<|vaB l)=t*3/\t*3=t*3/\A9 (vaB l)=107/\A_ (vaB l)=3/\3=3/\0<3/\0<32/\107=107/\(t+1)*32<=140737488355328/\3=3/\AW (AO<|vaB l)=Ac/\(Ac=Ac\/AX (AO<|vaB l)=Ab)) ⟨⟨⟨(by kernel_rfl),⟨(by omega),trivial⟩⟩,(by omega)⟩,?_⟩ ?_;rotate_left;refine zA rfl<|ve (i6 (↑i+1))<|vAe<|vEt ((v:Int)) ((v:Int))<|zA rfl<|vr 3 (i6 (↑k+1))<|vnil<|zD<|vN<|zA rfl<|vr 2 (i6 (↑t+1))<|vnil<|zC ?_;rotate_left
    all_goals first|exact zYz l t hll (by omega)|skip
    refine⟨t+1,l++[x.getD i Al],⟨by omega,hm.symm⟩,by omega,?_⟩;rw[zJy];refine wk 12 (iD ↑(i+1)) (iD (↑(cntL A (bdU U (t+1))):Int)) (by(simp;omega)) (wk 13 (iD ↑(k+1)) (iD (↑(cntL B (bdU U (t+1))):Int)) (by(simp;omega)) (vk 1))
   rw[if_neg hb,Nat.add_zero]at hs';have q1:=cntL_no hb;generalize bdU U t=v at*;generalize cntL A v=i at*;generalize cntL B v=k at*;focus
    refine vAu<|zB<|vT ((t:Int)<↑(Aa U))<|vKB<|vA<|vr 1 (ix ↑t ↑(Aa U) (nsD U≠[])) ?_ ⟨(by omega),⟨(by omega),(by exact zW)⟩⟩;refine vp 25 t (nsD U)<|vr 1 (0<Aa (Ag t<|nsD U))<|vs 26 (AR (Ag t<|nsD U) Uk) (iD v) (hd:=by simp(disch:=omega) only[zA6,hd])<|veT<|zB<|vd [0,1,2,3,4,5,6,7,9,12,13,14,15,16,17,18,19,21,8,10,11,24,20,22,23,25]<|vw 8 [] [(4,Ab)] (decide ((i:Int)<↑(Aa A))=Ab/\ix ↑i ↑(Aa A) (nsD A≠[])) (vp 34 i (nsD A)<|vrT 6 ?_) ⟨(by exact decide_eq_true (by omega)),⟨(by omega),⟨(by omega),(by exact zW)⟩⟩⟩;refine vspD 43 ((k:Int)<↑(Aa B)) (λhc=>?_)<|λhc=>?_;refine vr 3 (ix ↑k ↑(Aa B) (nsD B≠[])) (vp 46 k (nsD B)<|vr 2 (0<Aa (Ag i<|nsD A))<|vs 35 (AR (Ag i<|nsD A) Uk) (iD v) (hd:=by simp(disch:=omega) only[zA6,p2])<|vr 4 (True/\0<Aa (Ag k<|nsD B))<|vs 47 (AR (Ag k<|nsD B) Uk) (iD ↑(Ap B k 0)) (hd:=by simp(disch:=omega) only[zA6])<|veT<|zB<|vAe<|vEt ((v:Int)) ((v:Int))<|vA ?_) ⟨(by omega),⟨(by omega),(by exact zW)⟩⟩;refine vr 5 (ix ↑i ↑(Aa A) (zL x≠[])/\3<=Aa (Ag (i*3)<|zL x)) (vs 56 (Ay<|Av 3<|Ag (i*3)<|zL x) (Ay<|vaC<|Ap x i Al) (hd:=by simp(disch:=omega) only[zCu]) ?_) ⟨⟨(by omega),⟨(by omega),(by exact zFv _)⟩⟩,(by exact zEa _ _)⟩;refine vewh [] [] (((3=3/\3<=3/\True)/\0<3/\3=3/\3<=16777216/\1<=9223372036854775807)/\Bi (vaB l)=Ab/\Aa (AJ<|vaB l)=t*3/\t*3=t*3/\A9 (vaB l)=107/\A_ (vaB l)=3/\3=3/\0<3/\0<32/\107=107/\(t+1)*32<=140737488355328/\3=3/\AW (AO<|vaB l)=Ac/\(Ac=Ac\/AX (AO<|vaB l)=Ab)) ⟨⟨⟨(by kernel_rfl),⟨(by omega),trivial⟩⟩,(by omega)⟩,?_⟩ ?_;rotate_left;refine zA rfl<|ve (i6 (↑i+1))<|vAe<|vEf ((↑(Ap B k 0):Int)) ((v:Int))<|zM<|zD<|vN<|zA rfl<|vr 2 (i6 (↑t+1))<|vnil<|zC ?_;rotate_left;refine vr 5 (0<Aa (Ag i<|nsD A))<|vs 35 (AR (Ag i<|nsD A) Uk) (iD v) (hd:=by simp(disch:=omega) only[zA6,p2])<|veT<|zB<|vAe<|vEt ((v:Int)) ((v:Int))<|vA<|vr 5 (ix ↑i ↑(Aa A) (zL x≠[])/\3<=Aa (Ag (i*3)<|zL x)) (vs 56 (Ay<|Av 3<|Ag (i*3)<|zL x) (Ay<|vaC<|Ap x i Al) (hd:=by simp(disch:=omega) only[zCu]) ?_) ⟨⟨(by omega),⟨(by omega),(by exact zFv _)⟩⟩,(by exact zEa _ _)⟩;refine vewh [] [] (((3=3/\3<=3/\True)/\0<3/\3=3/\3<=16777216/\1<=9223372036854775807)/\Bi (vaB l)=Ab/\Aa (AJ<|vaB l)=t*3/\t*3=t*3/\A9 (vaB l)=107/\A_ (vaB l)=3/\3=3/\0<3/\0<32/\107=107/\(t+1)*32<=140737488355328/\3=3/\AW (AO<|vaB l)=Ac/\(Ac=Ac\/AX (AO<|vaB l)=Ab)) ⟨⟨⟨(by kernel_rfl),⟨(by omega),trivial⟩⟩,(by omega)⟩,?_⟩ ?_;rotate_left;refine zA rfl<|ve (i6 (↑i+1))<|vAe<|vf<|zM<|zD<|vN<|zA rfl<|vr 2 (i6 (↑t+1))<|vnil<|zC ?_;rotate_left
   all_goals first|exact zYz l t hll (by omega)|skip
   all_goals first|(exfalso;omega)|skip
   all_goals first|(exfalso;exact q1 (by omega) (by assumption))|skip
   refine⟨t+1,l++[x.getD i Al],⟨by omega,hm.symm⟩,by omega,?_⟩;rw[zJy];refine wk 12 (iD ↑(i+1)) (iD (↑(cntL A (bdU U (t+1))):Int)) (by(simp;omega)) (wk 13 (iD ↑k) (iD (↑(cntL B (bdU U (t+1))):Int)) (by(simp;omega)) (vk 1));refine⟨t+1,l++[x.getD i Al],⟨by omega,hm.symm⟩,by omega,?_⟩;rw[zJy];refine wk 12 (iD ↑(i+1)) (iD (↑(cntL A (bdU U (t+1))):Int)) (by(simp;omega)) (wk 13 (iD ↑k) (iD (↑(cntL B (bdU U (t+1))):Int)) (by(simp;omega)) (vk 1))
  have p1:=cntL_no ha;have hb:=hk.resolve_left ha;obtain⟨q1,q2⟩:=zYm hB.1 hb;rw[sgB _ ha hb]at hm;rw[if_neg ha,Nat.add_zero]at hs;rw[if_pos hb]at hs';generalize bdU U t=v at*;generalize cntL A v=i at*;generalize cntL B v=k at*;focus
   refine vAu<|zB<|vT ((t:Int)<↑(Aa U))<|vKB<|vA<|vr 1 (ix ↑t ↑(Aa U) (nsD U≠[])) ?_ ⟨(by omega),⟨(by omega),(by exact zW)⟩⟩;refine vp 25 t (nsD U)<|vr 1 (0<Aa (Ag t<|nsD U))<|vs 26 (AR (Ag t<|nsD U) Uk) (iD v) (hd:=by simp(disch:=omega) only[zA6,hd])<|veT<|zB<|vd [0,1,2,3,4,5,6,7,9,12,13,14,15,16,17,18,19,21,8,10,11,24,20,22,23,25]<|vrT 5<|vspD 31 ((i:Int)<↑(Aa A)) (λhc=>?_)<|λhc=>?_;refine vr 3 (ix ↑i ↑(Aa A) (nsD A≠[])) (vp 34 i (nsD A)<|vw 9 [] [(16,Ab)] (decide ((k:Int)<↑(Aa B))=Ab/\ix ↑k ↑(Aa B) (nsD B≠[])) (vp 46 k (nsD B)<|vr 2 (0<Aa (Ag i<|nsD A))<|vs 35 (AR (Ag i<|nsD A) Uk) (iD ↑(Ap A i 0)) (hd:=by simp(disch:=omega) only[zA6])<|vr 4 (True/\0<Aa (Ag k<|nsD B))<|vs 47 (AR (Ag k<|nsD B) Uk) (iD v) (hd:=by simp(disch:=omega) only[zA6,q2])<|veT<|zB<|vAe<|vEf ((↑(Ap A i 0):Int)) ((v:Int)) ?_) ⟨(by exact decide_eq_true (by omega)),⟨(by omega),⟨(by omega),(by exact zW)⟩⟩⟩) ⟨(by omega),⟨(by omega),(by exact zW)⟩⟩;refine zA rfl<|vr 5 (ix ↑k ↑(Aa B) (zL y≠[])/\3<=Aa (Ag (k*3)<|zL y)) (vs 65 (Ay<|Av 3<|Ag (k*3)<|zL y) (Ay<|vaC<|Ap y k Al) (hd:=by simp(disch:=omega) only[zCu]) ?_) ⟨⟨(by omega),⟨(by omega),(by exact zFv _)⟩⟩,(by exact zEa _ _)⟩;refine vewh [] [] (((3=3/\3<=3/\True)/\0<3/\3=3/\3<=16777216/\1<=9223372036854775807)/\Bi (vaB l)=Ab/\Aa (AJ<|vaB l)=t*3/\t*3=t*3/\A9 (vaB l)=107/\A_ (vaB l)=3/\3=3/\0<3/\0<32/\107=107/\(t+1)*32<=140737488355328/\3=3/\AW (AO<|vaB l)=Ac/\(Ac=Ac\/AX (AO<|vaB l)=Ab)) ⟨⟨⟨(by kernel_rfl),⟨(by omega),trivial⟩⟩,(by omega)⟩,?_⟩ ?_;rotate_left;refine vAe<|vEt ((v:Int)) ((v:Int))<|zA rfl<|vr 3 (i6 (↑k+1))<|vnil<|zD<|vN<|zA rfl<|vr 2 (i6 (↑t+1))<|vnil<|zC ?_;rotate_left;refine vw 12 [] [(16,Ab)] (decide ((k:Int)<↑(Aa B))=Ab/\ix ↑k ↑(Aa B) (nsD B≠[])) (vp 46 k (nsD B)<|vr 6 (0<Aa (Ag k<|nsD B))<|vs 47 (AR (Ag k<|nsD B) Uk) (iD v) (hd:=by simp(disch:=omega) only[zA6,q2])<|veT<|zB<|vAe<|vf<|zA rfl<|vr 5 (ix ↑k ↑(Aa B) (zL y≠[])/\3<=Aa (Ag (k*3)<|zL y)) (vs 65 (Ay<|Av 3<|Ag (k*3)<|zL y) (Ay<|vaC<|Ap y k Al) (hd:=by simp(disch:=omega) only[zCu]) ?_) ⟨⟨(by omega),⟨(by omega),(by exact zFv _)⟩⟩,(by exact zEa _ _)⟩) ⟨(by exact decide_eq_true (by omega)),⟨(by omega),⟨(by omega),(by exact zW)⟩⟩⟩;refine vewh [] [] (((3=3/\3<=3/\True)/\0<3/\3=3/\3<=16777216/\1<=9223372036854775807)/\Bi (vaB l)=Ab/\Aa (AJ<|vaB l)=t*3/\t*3=t*3/\A9 (vaB l)=107/\A_ (vaB l)=3/\3=3/\0<3/\0<32/\107=107/\(t+1)*32<=140737488355328/\3=3/\AW (AO<|vaB l)=Ac/\(Ac=Ac\/AX (AO<|vaB l)=Ab)) ⟨⟨⟨(by kernel_rfl),⟨(by omega),trivial⟩⟩,(by omega)⟩,?_⟩ ?_;rotate_left;refine vAe<|vEt ((v:Int)) ((v:Int))<|zA rfl<|vr 3 (i6 (↑k+1))<|vnil<|zD<|vN<|zA rfl<|vr 2 (i6 (↑t+1))<|vnil<|zC ?_;rotate_left
  all_goals first|exact zYz l t hll (by omega)|skip
  all_goals first|(exfalso;omega)|skip
  all_goals first|(exfalso;exact p1 (by omega) (by assumption))|skip
  refine⟨t+1,l++[y.getD k Al],⟨by omega,hm.symm⟩,by omega,?_⟩;rw[zJy];refine wk 12 (iD ↑i) (iD (↑(cntL A (bdU U (t+1))):Int)) (by(simp;omega)) (wk 13 (iD ↑(k+1)) (iD (↑(cntL B (bdU U (t+1))):Int)) (by(simp;omega)) (vk 1));refine⟨t+1,l++[y.getD k Al],⟨by omega,hm.symm⟩,by omega,?_⟩;rw[zJy];refine wk 12 (iD ↑i) (iD (↑(cntL A (bdU U (t+1))):Int)) (by(simp;omega)) (wk 13 (iD ↑(k+1)) (iD (↑(cntL B (bdU U (t+1))):Int)) (by(simp;omega)) (vk 1))
 refine vAu<|zB<|vF ((t:Int)<(Aa U:Int))<|vZ2<|vAe<|zG<|zB3 (True) (Ai (Av (t*3)<|Ag 0<|AJ<|vaB l) t) (Ai (Av (t*3)<|zL l) t) (.inr rfl) (by simp(disch:=omega) only[A8]) ?_;have e:t=U.length:=by omega
 subst e;rw[Cg]at h2;rw[zTl _ _ (by rw[h2,AK]),h2]
abbrev fcC(f:Fn):List D:=[.row (nsD f.1) f.1.length, .row (rwsD f.2) f.2.length, .row (vlsD f.2) f.2.length]
theorem zYb(f:Fn):(fcC f).length=3:=rfl
structure FV(f:Fn):Prop where
 asc:Asc f.1
 len:∀p∈f.2,p.1.length=f.1.length
 vs:∀p∈f.2,∀x∈p.1,Vs x
 sz:f.2.length<=1000000
 sm:∀p∈f.2,Sm p.2
 nd:Ndk f.2
theorem getD_fst(l:List (Rw×Nat)){k:Nat}(h:k<l.length):(l.map (·.1)).getD k []=(l.getD k Al).1:=by simp[AB,h]
theorem getD_snd(l:List (Rw×Nat)){k:Nat}(h:k<l.length):(l.map (·.2)).getD k 0=(l.getD k Al).2:=by simp[AB,h]
abbrev fltB(l:List D):Bk:=⟨l,203,2,Ab,Ac, .plain⟩
noncomputable def Tm:Par:=⟨λ_=>Ac,zNv As,λ_=>Ac,hvOf As,λt=>shOf As t||t==39⟩
theorem Tm_ok:zBi As Tm:=λt n f h v W=>zPy As (λ_=>Ac) (λ_=>Ac) t n f h v W
theorem gty:∃inf,GTy As Tm 206 9 39 3 inf:=by
 refine⟨(As.info? 3).getD Al,by kernel_rfl,by kernel_rfl,by kernel_rfl,by kernel_rfl,by kernel_rfl,by kernel_rfl,by kernel_rfl,by kernel_rfl,by kernel_rfl,by kernel_rfl⟩
set_option maxHeartbeats 8000000 in
theorem multiply_c(f g:Fn)(os:List Fn)(hf:FV f)(hg:FV g)(ho:∀o∈os,FV o)(hl:os.length<=1000)(hsz:f.2.length*g.2.length<=1000000):
  Pure As 49 [cntD,fcD f.1 f.2,fcD g.1 g.2, .row (os.flatMap fcC) os.length] [] (fcD (un f.1 g.1) (srtL ((zCa (· *·) f.1 f.2 g.1 g.2).filter λp=>os.all λo=>okO (un f.1 g.1) p.1 (faN o)))):=by
 obtain⟨A,la⟩:=f;obtain⟨B,lb⟩:=g;obtain⟨hA,al,av,as',am,nda⟩:=hf;obtain⟨hB,bl,bv,bs',bm,ndb⟩:=hg;simp only at hA al av as' am nda hB bl bv bs' bm ndb hsz⊢;have nA:=zCw hA;have nB:=zCw hB;have hmA:=zCf hA.2;have hmB:=zCf hB.2;have hmo:=zP1 hmA hmB;have hma:=zWz (b:=msk B) hmA;have sA:=zQu A _ rfl (by omega) hA.2 (rwsD la) (vlsD la) la.length la.length;have sB:=zQu B _ rfl (by omega) hB.2 (rwsD lb) (vlsD lb) lb.length lb.length;have hU:=zZc A B;have hmu:=msk_un hA.2 hB.2;have hmem:=zKa (msk A|||msk B) hmo;rw[hmu,zHh hU]at hmem;have nU:=zCw hU;rw[hmu]at hmo;have cA:=zD5 A A _ rfl hA.2 (msk A&&&msk B) hma;have cB:=zD5 B B _ rfl hB.2 (msk A&&&msk B) hma;obtain⟨U,eU⟩:∃U,U=un A B:=⟨_,rfl⟩;rw[<-eU]at hU hmu hmem nU hmo⊢;refine zH (T:=Tm) Tm_ok mixed Tryz.func49 rfl<|vAu<|zB<|vd [0,1,2,3,4,5]<|vr 1 (3<=3)<|vc (sA)<|vr 1 (3<=3)<|vc (sB)<|vrT 1<|vs 30 (Aj<|Ak AS<|A4 AS (↑(A0 (Az 32 (↑(msk A):Int)|||Az 32 (↑(msk B):Int))):Int)) (dig<|msk U) (hd:=by simp(disch:=omega) only[zWs,zBx,hmu])<|veT<|vA<|vrT 1<|vc (hmem)<|ve (((1=1/\1<=3/\True)/\Ab=Ab)/\Ac=Ac/\Ab=Ab/\3=3/\3<=3)<|vAe<|zB<|vAe<|zF<|zN (λ(i:Nat)=>fr 147 [(0,cntD),(5,Ae 0 0),(6,Ae 1 0),(8,Ae 2 0),(9,dig<|msk U),(10,Ae 3 0),(11,Af 4 0 i (i*2) Ab),(34,Ai (AE fcC os)<|Aa os),(35,iD (Aa os:Int)),(36,iD (i:Int))]) (λ(i:Nat)=>[fB1 (.row (nsD A) A.length) (.row (rwsD la) la.length)<|.row (vlsD la) la.length,fB1 (.row (nsD B) B.length) (.row (rwsD lb) lb.length)<|.row (vlsD lb) lb.length,fB1 nl nl nl,fB1 (.row (nsD U) U.length) nl nl,fltB<|((os.take i).map (fltF U)).flatMap flC]) (λi=>os.length-i) (λ(i:Nat)=>i<=os.length) 0 ?_ ?_ ?_
 ·omega
 ·refine vk 4
 rintro i h1;rcases AF i os.length with h2|h2
 ·have hom:os.getD i Al∈os:=by rw[AB,AI h2];exact A7 h2
  obtain⟨hO,ol,ov,os2,_,_⟩:=ho _ hom;have hg2:=zDg zYb os i h2;have hle:=zFp zYb os i h2;have hne:=zEi zYb (by decide) os;have he:((os.take (i+1)).map (fltF U)).flatMap flC=((os.take i).map (fltF U)).flatMap flC++flC (fltF U (os.getD i Al)):=by
   rw[zBm os i h2];simp
  have hlb:(((os.take i).map (fltF U)).flatMap flC).length=i*2:=by rw[zG3 zJo];simp;omega
  have nO:=zCw hO;generalize os.getD i Al=o at*;have hfo:=filterOf_c o.1 U _ _ o.2.length rfl rfl nO nU hO.2 hU.2 (o.2.map (·.1)) _ (by simp) os2 (λr hr=>by
   obtain⟨p,hp,rfl⟩:=A6.1 hr;exact ol p hp) (λr hr=>by
   obtain⟨p,hp,rfl⟩:=A6.1 hr;exact ov p hp) (vlsD o.2) (msk U) hmo
  refine vAu<|zB<|vT ((i:Int)<↑(Aa os))<|vKB<|vA<|vr 2 (ix ↑i ↑(Aa os) (AE fcC os≠[])/\3<=Aa (Ag (i*3)<|AE fcC os))<|vs 39 (Ay<|Av 3<|Ag (i*3)<|AE fcC os) (Ay<|fcC o) (hd:=by simp(disch:=omega) only[hg2])<|ve (Ac=Ac/\Ab=Ab/\3=3/\3<=3)<|zA rfl<|vr 5 (3<=3/\True/\0<3)<|vc hfo<|vr 3 (((2=2/\2<=2/\True)/\0<2/\2=2/\2<=16777216/\1<=9223372036854775807)/\Bi (fltB<|AE flC<|Ad (fltF U)<|Av i os)=Ab/\Aa (AJ<|fltB<|AE flC<|Ad (fltF U)<|Av i os)=i*2/\i*2=i*2/\A9 (fltB<|AE flC<|Ad (fltF U)<|Av i os)=203/\A_ (fltB<|AE flC<|Ad (fltF U)<|Av i os)=2/\2=2/\0<2/\0<32/\203=203/\(i+1)*32<=140737488355328/\2=2/\AW (AO<|fltB<|AE flC<|Ad (fltF U)<|Av i os)=Ac/\(Ac=Ac\/AX (AO<|fltB<|AE flC<|Ad (fltF U)<|Av i os)=Ab))<|vnil<|zD<|vN<|zA rfl<|vr 2 (i6 (↑i+1))<|vnil<|zC<|⟨i+1,by omega,by omega,?_⟩;rw[he];refine vk 5
 rw[AT h2];obtain rfl:i=os.length:=by omega
 obtain⟨c1,ec1⟩:∃c,c=zBp (λv=>(msk A&&&msk B).testBit v) A:=⟨_,rfl⟩;obtain⟨c2,ec2⟩:∃c,c=zBp (λv=>(msk A&&&msk B).testBit v) B:=⟨_,rfl⟩;rw[<-ec1]at cA;rw[<-ec2]at cB;have hl1:∀c∈c1,c<A.length:=λc h=>by rw[ec1]at h;exact(zGw.1 h).1
 have hl2:∀c∈c2,c<B.length:=λc h=>by rw[ec2]at h;exact(zGw.1 h).1
 have hn1:c1.length<=32:=by rw[ec1];exact AV (zH5 _ _) nA
 have hn2:c2.length<=32:=by rw[ec2];exact AV (zH5 _ _) nB
 refine vAu<|zB<|vF ((Aa os:Int)<↑(Aa os))<|vZ2<|zB<|vd [0,1,2,3,4,5]<|vr 1 (3<=3)<|vc sA<|vr 1 (3<=3)<|vc sB<|vrT 1<|vs 53 (Aj<|Ak AS<|A4 AS (↑(A0 (Az 32 (↑(msk A):Int)&&&Az 32 (↑(msk B):Int))):Int)) (dig (msk A&&&msk B)) (hd:=by simp(disch:=omega) only[bv_and,zBx])<|veT<|zB<|vd [0,2,4,6,1,3,5,7,8,9]<|vr 5 (True/\True/\0<3)<|vc cA<|vr 1 (0<3)<|vc cB<|veT<|vAe<|zB<|vA<|ve (True/\0<2)<|zF ?_;obtain⟨inf,ty⟩:=gty;obtain⟨Lb,eLb⟩:∃L:List Rw,L=(lb.map (·.1)).map λr=>zQ r c2:=⟨_,rfl⟩;have hLb:Lb.length=lb.length:=by rw[eLb];simp
 obtain⟨base,ebase⟩:∃base:List Bk,base=[fB1 (.row (nsD A) A.length) (.row (rwsD la) la.length) (.row (vlsD la) la.length),fB1 (.row (nsD B) B.length) (.row (rwsD lb) lb.length) (.row (vlsD lb) lb.length),fB1 nl nl nl,fB1 (.row (nsD U) U.length) nl nl,fltB ((os.map (fltF U)).flatMap flC)]:=⟨_,rfl⟩;have hbb:bBL 5 base=true:=by rw[ebase];rfl
 refine zA2 (λ(k:Nat)(st:List Bk)(ns:List Nat)=>fr 147 [(0,cntD),(5,Ae 0 0),(6,Ae 1 0),(8,Ae 2 0),(10,Ae 3 0),(11,Af 4 0 (Aa os) (Aa os*2) Ab),(15,(q10_ c1)),(16,(q10_ c2)),(17,D.mref 5),(64,(q11_ lb)),(65,iD<|Aa lb),(66,iD k)]) (λ(k:Nat)(st:List Bk)(ns:List Nat)=>st) (λk st ns=>lb.length-k) (λ(k:Nat)(st:List Bk)(ns:List Nat)=>k<=lb.length/\Grp 5 206 3 (Lb.take k) base st ns) 0 [fB1 (.row (nsD A) A.length) (.row (rwsD la) la.length)<|.row (vlsD la) la.length,fB1 (.row (nsD B) B.length) (.row (rwsD lb) lb.length)<|.row (vlsD lb) lb.length,fB1 nl nl nl,fB1 (.row (nsD U) U.length) nl nl,fltB<|(os.map (fltF U)).flatMap flC,⟨[],206,0,Ac,Ac,.map []⟩] [] ?_ ?_ ?_
 ·exact⟨by omega,⟨by rw[ebase];rfl,rfl,rfl,List.nodup_nil,λj k r h=>by simp at h⟩⟩
 ·refine vk 6
 rintro k st ns ⟨h3,hG⟩;rcases AF k lb.length with h4|h4
 ·have hne:rwsD lb≠[]:=zW (h:=by simp;omega);have hrow:(lb.map (·.1)).getD k []∈lb.map (·.1):=by
   rw[AB,AI (by simpa using h4)];exact A7 _
  obtain⟨p,hp,he⟩:=A6.1 hrow;have hlen2:=bl p hp;have hvs:=bv p hp;rw[he]at hlen2 hvs;have hx1:=zAh (lb.map (·.1)) k (by simpa using h4);have hts:Lb.take (k+1)=Lb.take k++[zQ ((lb.map (·.1)).getD k []) c2]:=by
   rw[BP (by omega)];congr 1;simp only[eLb,List.getElem_map,AB,Bq,AI h4,BK,B3]
  generalize (lb.map (·.1)).getD k []=row at*;have hk:=zSp row c2 _ _ rfl rfl (by rw[hlen2];exact hl2) hvs;refine vA<|zAf [] [(67,bD<|decide ((k:Int)<↑(Aa lb)))] ?_;refine zB<|vT ((k:Int)<↑(Aa lb))<|vKB<|vA<|zT 2 [] [] (ix ↑k ↑(Aa lb) (rwsD lb≠[])) [(68,iD k),(69,Bc<|Ag (Ax (k:Int)*1)<|rwsD lb)] ?_ (hc:=⟨(by omega),⟨(by omega),(by assumption)⟩⟩);refine zAn 69 (Bc<|Ag (Ax (k:Int)*1)<|rwsD lb) (Bc<|Ag k<|rwsD lb) (by simp(disch:=omega) only[A2,AQ]) ?_;refine zT 1 [] [] (0<Aa (Ag k<|rwsD lb)) [(70,AR (Ag k<|rwsD lb) Uk)] ?_ (hc:=by(simp;omega));refine zAn 70 (AR (Ag k<|rwsD lb) Uk) (rowV row) (by simp(disch:=omega) only[hx1]) ?_;refine zAf [67,68,69,70] [(18,iD k),(19,(q3_ row))] ?_;refine vA<|zBa 2 [(71,(q3_ row)),(72,(q10_ c2))] ?_;refine zXd [(q3_ row),(q10_ c2)] (by exact hk) ?_;refine zBa 1 [(20,Aj<|AN<|bs<|idR<|zQ row c2)] ?_;refine zAm ?_ (by kernel_rfl);refine zC (zVp λs0 hs0=>?_);refine zK<|zA rfl<|zTs (.mref 5) rfl rfl rfl (by rw[hs0];kernel_rfl)<|zTs (.val<|kyv<|zQ row c2) rfl rfl rfl (by rw[hs0];kernel_rfl)<|zTs (.mref 5) rfl rfl rfl (by rw[hs0];kernel_rfl)<|zTs (.val<|kyv<|zQ row c2) rfl rfl rfl (by rw[hs0];kernel_rfl) ?_;refine zZk (m:=5) (L:=Lb.take k) (r:=zQ row c2) (i:=k) (base:=base) (ns:=ns) (a1:=76) (a2:=77) (a3:=18) (b1:=74) (b2:=75) (s1:=78) (s2:=79) (s3:=80) (s4:=81) ty (λ_ _=>rfl) (by simp;omega) (by omega) rfl rfl rfl rfl rfl rfl rfl rfl rfl rfl rfl rfl rfl rfl rfl (by rw[hs0];kernel_rfl) (by decide) (by rw[hs0];kernel_rfl) (by rw[hs0];kernel_rfl) (by rw[hs0];kernel_rfl) (by rw[hs0];kernel_rfl) (by rw[hs0];kernel_rfl) (by rw[hs0];kernel_rfl) hbb hG ?_;intro st' ns' e1 e3 e4 hG';refine zAm ?_ (by kernel_rfl);refine zD<|zC<|zVq [74,75,76,77,78,79,80,81] (sl':=s0) (by rw[hs0];kernel_rfl) ?_;subst hs0;refine zA rfl<|zT 2 [] [] (i6 (↑k+1)) [(66,iD ↑(k+1)),(82,iD ↑(k+1))] ?_;refine zAm ?_ (by kernel_rfl);refine zC<|⟨k+1,st',ns',⟨by omega,by rw[hts];exact hG'⟩,by omega,?_⟩;refine vkp [0,5,6,8,10,11,15,16,17,64,65,66]
 rw[AT (by omega)]at hG;subst ebase;refine vA<|zAf [] [(67,bD<|decide ((k:Int)<↑(Aa lb)))] ?_;refine zB<|vF ((k:Int)<↑(Aa lb))<|vY2<|zC ?_;have hfl:=zE6 zJo (os.map (fltF U)) os.length (by simp);refine zBf ((zY6 (m:=5) (s:=17) (λ_ _=>rfl) (by kernel_rfl) (by kernel_rfl) hbb hG).trans<|((Cb (j:=3) (i:=1) (rowB []) rfl rfl rfl rfl).trans (Cb (j:=3) (i:=2) (natB []) rfl rfl rfl rfl)).trans<|Weak.osr (s:=11) (k:=4) (off:=0) (n:=os.length) (m:=os.length*2) (wh:=Ab) (cs:=(os.map (fltF U)).flatMap flC) (by kernel_rfl) (show Am (Ai ((((os.map (fltF U)).flatMap flC).drop 0).take (os.length*2)) os.length,[4])=_ by rw[A8,hfl])) ?_;refine zB<|vAs<|ve (True/\0<2)<|zF ?_;clear hG h3 h4;obtain⟨ok,eok⟩:∃ok:Rw->Bool,ok=λs=>os.all λo=>okO U s (faN o):=⟨_,rfl⟩;have hpf:((zCa (· *·) A la B lb).filter λp=>os.all λo=>okO U p.1 (faN o))=la.flatMap λp=>zHe A B ok p (selB A B lb p):=by
  rw[eok];exact zQg A B lb (λs=>os.all λo=>okO U s (faN o)) la
 rw[hpf];refine zBq (λ(i:Nat)(O:List (Rw×Nat))=>fr 147 [(0,cntD),(5,Ae 0 0),(6,Ae 1 0),(8,Ae 2 0),(10,Ae 3 0),(11,D.osr 4 0 (Aa os) (Aa os*2) Ab<|AE flC<|Ad (fltF U) os),(15,(q10_ c1)),(17,D.mfz (Ad kyv<|allK Lb)<|zV4 Lb),(84,(q11_ la)),(85,iD<|Aa la),(86,iD i)]) (λ(i:Nat)(O:List (Rw×Nat))=>[fB1 (.row (nsD A) A.length) (.row (rwsD la) la.length)<|.row (vlsD la) la.length,fB1 (.row (nsD B) B.length) (.row (rwsD lb) lb.length)<|.row (vlsD lb) lb.length,fB1 nl nl nl,fB1 (.row (nsD U) U.length) (.osl 5 0 O.length O.length Ab)<|.osl 6 0 O.length O.length Ab,⟨(os.map (fltF U)).flatMap flC,203,2,Ab,Ab,.plain⟩,rowB<|rwsD O,natB<|vlsD O]) (λi O=>la.length-i) (λ(i:Nat)(O:List (Rw×Nat))=>i<=la.length/\O=(la.take i).flatMap λp=>zHe A B ok p (selB A B lb p)) 0 [] ?_ ?_ ?_
 ·exact⟨by omega,by simp⟩
 ·refine vk 7
 rintro i O ⟨h3,hO⟩;rcases AF i la.length with h4|h4
 ·have hne:rwsD la≠[]:=zW (h:=by simp;omega);have hne2:vlsD la≠[]:=zW (h:=by simp;omega);have hx1:=zAh (la.map (·.1)) i (by simpa using h4);have hx2:=zEp (la.map (·.2)) i (by simpa using h4);have hpm:la.getD i Al∈la:=by rw[AB,AI h4];exact A7 h4
  have hr1:(la.map (·.1)).getD i []=(la.getD i Al).1:=by simp[AB,h4]
  have hr2:(la.map (·.2)).getD i 0=(la.getD i Al).2:=by simp[AB,h4]
  have hfs:=flatQ_succ (A:=A) (B:=B) (lb:=lb) (ok:=ok) la i h4;have hOl:O.length<=i*lb.length:=by rw[hO];exact zV9 la i
  have hmul:(i+1)*lb.length<=la.length*lb.length:=B6 _ h4;rw[CE]at hmul;rw[<-hO]at hfs;have hlen2:=al _ hpm;have hvs:=av _ hpm;have hsm:=am _ hpm;rw[hr1]at hx1;rw[hr2]at hx2;generalize la.getD i Al=p at*;have hk:=zSp p.1 c1 _ _ rfl rfl (by rw[hlen2];exact hl1) hvs;have hlk:=look_g Lb (zQ p.1 c1);have hps:=pos_sel (lb:=lb) hA hB p;rw[<-ec1,<-ec2,<-eLb]at hps;by_cases hin:zQ p.1 c1∈Lb
  ·rw [if_pos hin]at hlk;have hposk:∀k∈posL Lb (zQ p.1 c1),k<lb.length:=λk hk=>by rw[<-hLb];exact pos_lt hk
   generalize posL Lb (zQ p.1 c1)=pos at*;focus
    refine vAu (zB (vT ((i:Int)<↑(Aa la)) (vKB (vA (vr 2 (ix ↑i ↑(Aa la) (rwsD la≠[])) (vp 89 i (rwsD la) (vr 1 (0<Aa (Ag i (rwsD la))) (vsh 90 hx1 (veT (vA (vrT 3 (vc hk (vwh 1 [] [] (zX (Bj (Bl Bm "string" 1 16 Ab 8 8 (Am (AN (AY #[]))) Ab #[])) (AN (bs (idR (zQ (An p) c1))))=Ab/\B_ (Ad kyv (allK Lb)) (zX (Bj (Bl Bm "string" 1 16 Ab 8 8 (Am (AN (AY #[]))) Ab #[])))=Ab) ?_ ?_)))))))))))));rotate_left;refine vsh 95 hlk (veT (zF ?_));rotate_left
   ·exact⟨rfl,zDh _⟩
   have hsl:(selB A B lb p).length=pos.length:=by rw[<-hps,AK]
   have hsb:(selB A B lb p).length<=lb.length:=Bw _ _;have hts:=λt h=>partQ_succ (A:=A) (B:=B) (ok:=ok) p (selB A B lb p) t h;refine zBq (λ(t:Nat)(R:List (Rw×Nat))=>fr 147 [(0,cntD),(5,Ae 0 0),(6,Ae 1 0),(8,Ae 2 0),(10,Ae 3 0),(11,D.osr 4 0 (Aa os) (Aa os*2) Ab<|AE flC<|Ad (fltF U) os),(15,(q10_ c1)),(17,D.mfz (Ad kyv<|allK Lb)<|zV4 Lb),(21,iD i),(22,Ai (zL<|An p)<|Aa<|An p),(84,(q11_ la)),(85,iD<|Aa la),(86,iD i),(95,Ai (nsD pos)<|Aa pos),(96,iD<|Aa pos),(97,iD t)]) (λ(t:Nat)(R:List (Rw×Nat))=>[fB1 (.row (nsD A) A.length) (.row (rwsD la) la.length)<|.row (vlsD la) la.length,fB1 (.row (nsD B) B.length) (.row (rwsD lb) lb.length)<|.row (vlsD lb) lb.length,fB1 nl nl nl,fB1 (.row (nsD U) U.length) (.osl 5 0 R.length R.length Ab)<|.osl 6 0 R.length R.length Ab,⟨(os.map (fltF U)).flatMap flC,203,2,Ab,Ab,.plain⟩,rowB<|rwsD R,natB<|vlsD R]) (λt R=>pos.length-t) (λ(t:Nat)(R:List (Rw×Nat))=>t<=pos.length/\R=O++zHe A B ok p ((selB A B lb p).take t)) 0 O ?_ ?_ ?_
   ·exact⟨by omega,by simp[zHe]⟩
   ·refine vk 7
   rintro t R ⟨h5,hR⟩;have hRl:R.length<=O.length+t:=by
    have h6:=zVe (A:=A) (B:=B) (ok:=ok) p ((selB A B lb p).take t);rw[hR,AU];simp only[CW]at h6;omega
   rcases AF t pos.length with h6|h6
   ·have hne3:rwsD lb≠[]:=zW (h:=by simp;omega);have hne4:vlsD lb≠[]:=zW (h:=by simp;omega);have hkm:=hposk _ (zDv pos t h6);have hsg:(selB A B lb p).getD t Al=lb.getD (pos.getD t 0) default:=by
     rw[<-hps];simp[AB,h6]
    have hqm:lb.getD (pos.getD t 0) Al∈lb:=by rw[AB,AI hkm];exact A7 hkm
    have hy1:=zAh (lb.map (·.1)) (pos.getD t 0) (by simpa using hkm);have hy2:=zEp (lb.map (·.2)) (pos.getD t 0) (by simpa using hkm);have hr3:=getD_fst lb hkm;have hr4:=getD_snd lb hkm;have hp1:0<((rwsD lb).drop (pos.getD t 0)).length:=by rw[CG,AK,AK];omega
    have hp2:0<((vlsD lb).drop (pos.getD t 0)).length:=by rw[CG,AK,AK];omega
    have ht1:=hts t (by omega);rw[hsg]at ht1;rw[hr3]at hy1;rw[hr4]at hy2;have hql:=bl _ hqm;have hqv:=bv _ hqm;have hqs:=bm _ hqm;have hz:=zA6 pos t h6;generalize lb.getD (pos.getD t 0) Al=q at*;have hmg:Pure As 95 [.row (nsD U) U.length, .row (nsD A) A.length, .row (zL p.1) p.1.length, .row (nsD B) B.length, .row (zL q.1) q.1.length] [] (.row (zL (mg A p.1 B q.1)) U.length):=by
     have h:=merge_c A B p.1 q.1 _ _ _ rfl rfl rfl hlen2 hql hA hB nA nB (by rw[<-eU];exact nU);rw[<-eU]at h;rw[hlen2,hql];exact h
    have hml:(mg A p.1 B q.1).length=U.length:=by rw[mg,AK,eU]
    have hmv:∀v∈mg A p.1 B q.1,Vs v:=λv hv=>by
     obtain⟨w,_,rfl⟩:=A6.1 hv;have gv:∀(C:List Nat)(x:List Va),(∀v∈x,Vs v)->Vs (asg C x w):=λC x hx=>by
      unfold asg;rw[AB];cases e:x[C.idxOf w]? with
      |none=>exact⟨by decide,by decide,by decide⟩
      |some u=>exact hx u (Ce e)
     unfold sg;split
     ·exact gv A _ hvs
     exact gv B _ hqv
    have hpa:=passes_c (os.map (fltF U)) _ rfl (by simp;omega) (mg A p.1 B q.1) _ hml (by omega) hmv (λf hf=>by
     obtain⟨o,ho',rfl⟩:=A6.1 hf;exact⟨by have:=zH5 (λv=>(msk o.1&&&msk U).testBit v) U;simp only[fltF];omega,λc hc=>by rw[hml];exact(zGw.1 hc).1⟩)
    rw[AK,List.all_map]at hpa;have hoke:(os.all ((λf=>decide (zQ (mg A p.1 B q.1) f.1∈f.2))∘fltF U))=ok (mg A p.1 B q.1):=by
     rw[eok];simp only[Function.comp_def];rw[B9,Bo,Bo];constructor
     ·intro h o ho';rw[<-flt_ok hU (ho o ho').asc];exact h o ho'
     intro h o ho';rw[flt_ok hU (ho o ho').asc];exact h o ho'
    rw[hoke]at hpa;have hmu2:=cmul_c p.2 q.2 hsm hqs;focus
     refine vAu<|zB<|vT ((t:Int)<↑(Aa pos))<|vKB<|vA<|vr 1 (ix ↑t ↑(Aa pos) (nsD pos≠[])) ?_ ⟨(by omega),⟨(by omega),(by exact zW)⟩⟩;refine vp 99 t (nsD pos)<|vr 1 (0<Aa (Ag t<|nsD pos))<|vsh 100 hz<|veT<|zB<|vd [0,2,4,5,7,9,1,3,6,8,10,11,12,13]<|vr 11 (True/\True/\True/\True/\0<3/\0<3/\0<3/\0<2/\ix ↑(Ap pos t 0) ↑(Aa lb) (rwsD lb≠[]))<|vp 111 (Ap pos t 0) (rwsD lb)<|vr 1 (0<Aa (Ag (Ap pos t 0)<|rwsD lb))<|vsh 112 hy1<|vc hmg<|veT<|vA<|vrT 2<|vc hpa<|veT<|zAi (t:=ok (mg A (An p) B (An q))) (by kernel_rfl) (λhc=>?_)<|λhc=>?_;refine vA<|vr 7 (True/\0<2/\((1=1/\1<=1/\True)/\0<1/\1=1/\1<=16777216/\1<=9223372036854775807)/\(Bi (rowB<|rwsD R)=Ab/\Aa (AJ<|rowB<|rwsD R)=Aa R*1/\Aa R=Aa R*1/\A9 (rowB<|rwsD R)=110/\A_ (rowB<|rwsD R)=1/\1=1/\0<1/\0<24/\110=110/\(Aa R+1)*24<=140737488355328/\1=1/\AW (AO<|rowB<|rwsD R)=Ac/\(Ac=Ac\/AX (AO<|rowB<|rwsD R)=Ab))/\True/\Ac=Ac/\Ab=Ab/\1=1/\2<=3)<|vb 3 (Ao [Ai (nsD U)<|Aa U,Af 5 0 (Aa R+1) ((Aa R+1)*1) Ab,Af 6 0 (Aa R) (Aa R) Ab] 90 0 Ac Ac Aq) (Ao [Ai (nsD U)<|Aa U,Af 5 0 (Aa R+1) (Aa R+1) Ab,Af 6 0 (Aa R) (Aa R) Ab] 90 0 Ac Ac Aq) (hd:=by simp(disch:=omega) only[AQ])<|veT<|vd [0,2,3,5,8,10,13,14,15,1,4,6,7,9,11,12,16,17,18,19,20]<|vr 12 (True/\True/\True/\0<1/\0<1/\ix ↑i ↑(Aa la) (vlsD la≠[]))<|vp 129 i (vlsD la)<|vr 1 (0<Aa (Ag i<|vlsD la))<|vsh 130 hx2<|vr 2 (0<1/\ix ↑(Ap pos t 0) ↑(Aa lb) (vlsD lb≠[]))<|vp 134 (Ap pos t 0) (vlsD lb) ?_;refine vr 1 (0<Aa (Ag (Ap pos t 0)<|vlsD lb))<|vsh 135 hy2<|vc hmu2<|vr 4 (((1=1/\1<=1/\True)/\0<1/\1=1/\1<=16777216/\1<=9223372036854775807)/\(Ab=Ab/\Aa (vlsD R)=Aa R*1/\Aa R=Aa R*1/\50=50/\1=1/\1=1/\0<1/\0<24/\50=50/\(Aa R+1)*24<=140737488355328/\1=1/\AW Aq=Ac/\(Ac=Ac\/AX Aq=Ab))/\True/\Ac=Ac/\Ab=Ab/\1=1/\3<=3)<|vb 3 (Ao [Ai (nsD U)<|Aa U,Af 5 0 (Aa R+1) (Aa R+1) Ab,Af 6 0 (Aa R+1) ((Aa R+1)*1) Ab] 90 0 Ac Ac Aq) (Ao [Ai (nsD U)<|Aa U,Af 5 0 (Aa R+1) (Aa R+1) Ab,Af 6 0 (Aa R+1) (Aa R+1) Ab] 90 0 Ac Ac Aq) (hd:=by simp(disch:=omega) only[AQ])<|vnil<|zD<|vN<|zA rfl<|vr 2 (i6 (↑t+1))<|vnil<|zC ?_;rotate_left;refine zM<|zD<|vN<|zA rfl<|vr 2 (i6 (↑t+1))<|vnil<|zC ?_;rotate_left
    ·rw[if_pos hc]at ht1;refine⟨t+1,R++[prQ A B p q],⟨by omega,?_⟩,by omega,?_⟩
     ·rw[ht1,<-Bf,<-hR]
     rw[show rwsD (R++[prQ A B p q])=rwsD R++[.row (zL (mg A p.1 B q.1)) U.length] by rw[<-hml];simp[prQ],show vlsD (R++[prQ A B p q])=vlsD R++[natD (p.2*q.2)] by simp[prQ],AU];refine vk 7
    rw[if_neg (by simpa using hc),BA]at ht1;refine⟨t+1,R,⟨by omega,by rw[ht1];exact hR⟩,by omega,?_⟩;refine vk 7
   rw[AT (by omega)]at hR;refine vAu<|zB<|vF ((t:Int)<↑(Aa pos))<|vY2<|zD<|vN<|zA rfl<|vr 2 (i6 (↑i+1))<|vnil<|zC<|⟨i+1,R,⟨by omega,by rw[hfs];exact hR⟩,by omega,?_⟩;refine vk 7
  rw[if_neg hin]at hlk;rw[zMl hin]at hps;focus
   refine vAu (zB (vT ((i:Int)<↑(Aa la)) (vKB (vA (vr 2 (ix ↑i ↑(Aa la) (rwsD la≠[])) (vp 89 i (rwsD la) (vr 1 (0<Aa (Ag i (rwsD la))) (vsh 90 hx1 (veT (vA (vrT 3 (vc hk (vwh 1 [] [] (zX (Bj (Bl Bm "string" 1 16 Ab 8 8 (Am (AN (AY #[]))) Ab #[])) (AN (bs (idR (zQ (An p) c1))))=Ab/\B_ (Ad kyv (allK Lb)) (zX (Bj (Bl Bm "string" 1 16 Ab 8 8 (Am (AN (AY #[]))) Ab #[])))=Ab) ?_ ?_)))))))))))));rotate_left;refine vsh 95 hlk (veT (zF (zAj (vAe (zB (vf (vY2 (zD (vN (zA rfl (vr 2 (i6 (↑i+1)) (vnil (zC ?_)))))))))))));rotate_left
  ·exact⟨rfl,zDh _⟩
  refine⟨i+1,O,⟨by omega,?_⟩,by omega,?_⟩
  ·rw[hfs,<-hps];simp[zHe]
  refine vk 7
 have hO':O=la.flatMap λp=>zHe A B ok p (selB A B lb p):=by rw[AT (by omega)]at hO;exact hO
 rw[<-hO'];have hOl:O.length<=1000000:=by
  have h5:=zV9 (A:=A) (B:=B) (lb:=lb) (ok:=ok) la la.length;rw[Cg,<-hO']at h5;omega
 have hOp:O=(zCa (· *·) A la B lb).filter λp=>ok p.1:=by rw[hO',eok];exact(zQg A B lb (λs=>os.all λo=>okO U s (faN o)) la).symm
 have hnd:Ndk O:=by rw[hOp];exact zF4 ok (zF0 hA hB nda ndb al bl)
 have hOr:∀p∈O,p.1.length=U.length:=λp hp=>by
  rw[hOp]at hp;obtain⟨x,_,y,_,_,h7,_⟩:=(zJ5 (s:=p.1) (u:=p.2)).1 (Br.1 hp).1;rw[<-h7,mg,AK,eU]
 have hso:=zZm U O hOl (λp hp=>by rw[hOr p hp];omega) hnd;have hu1:=zJ8 U U.length rfl;have hu2:(rwsD O).take O.length=rwsD O:=AT (by simp);have hu3:(vlsD O).take O.length=vlsD O:=AT (by simp);clear hO hO' hOp hpf;refine vAu<|zB<|vF ((i:Int)<↑(Aa la))<|vZ2<|vA<|vr 1 (3<=3)<|vcl [Ay [Ai (nsD U)<|Aa U,Ai (Av (Aa O)<|Ag 0<|AJ<|rowB<|rwsD O)<|Aa O,Ai (Av (Aa O)<|Ag 0<|AJ<|natB<|vlsD O)<|Aa O]] [Ay [Ai (nsD U)<|Aa U,Ai (rwsD O)<|Aa O,Ai (vlsD O)<|Aa O]] (LeL.of_eq (by simp(disch:=omega) only[A8,hu2,hu3])) (by exact hso)<|ve (Ac=Ac/\Ab=Ab/\3=3/\3<=3)<|zG<|vret (3<=3)<|.inr rfl
end
section
open Go.RowKit
set_option maxRecDepth 100000
structure Raw where
 V:List Int
 R:List Rw
 W:List Int
 deriving Inhabited
abbrev rawC(f:Raw):List D:=[.row (f.V.map iD) f.V.length, .row (f.R.map rowV) f.R.length, .row (f.W.map iD) f.W.length]
theorem zR5(f:Raw):(rawC f).length=3:=rfl
abbrev rawD(f:Raw):D:= .agg (rawC f)
def Vi(a:Va):Prop:=inK .i64 a.kind/\inK .i64 a.int/\a.str.length<=maxLen
structure RawOk(f:Raw):Prop where
 v:∀z∈f.V,inK .i64 z
 r:∀x∈f.R,∀a∈x,Vi a
 w:∀z∈f.W,inK .i64 z
theorem in_ints{P:Program}{n:Nat}{t e:TypeId}(hu:P.underlying t=Am (.slice e))(he:P.underlying e=Am (.int .i64)){ds:List D}(h:Shp P n t ds):∃l:List Int,ds=[.row (l.map iD) l.length]/\∀z∈l,inK .i64 z:=by
 obtain⟨m,ls,rfl,h1,_⟩:=zJ3 hu h;obtain⟨bs,h2,h3,h4⟩:=zNz (g:=λz:Int=>iD z) (Q:=λx=>inK .i64 x) λx hx=>by
  obtain⟨z,rfl,h5⟩:=zRs he (h1 x hx);exact⟨z,rfl,h5⟩
 exact⟨bs,by rw[h2,<-h3],h4⟩
theorem len3{α:Type}{l:List α}(h:l.length=3):∃a b c,l=[a,b,c]:=by
 match l,h with
 |[a,b,c],_=>exact⟨a,b,c,rfl⟩
theorem in_va{n:Nat}{ds:List D}(h:Shp As n 107 ds):∃a:Va,ds=vaC a/\Vi a:=by
 obtain⟨hl,m,hf⟩:=zQb Tryz.underlying107 h;rw[show As.cellsOf 107=3 by kernel_rfl]at hl;obtain⟨a,b,c,rfl⟩:=len3 hl;have c3:As.cellsOf 3=1:=by kernel_rfl
 have c4:As.cellsOf 2=1:=by kernel_rfl
 have c5:As.cellsOf 9=1:=by kernel_rfl
 simp only[Bb,CD,or_false,forall_eq_or_imp,forall_eq,c3,c4,c5,A8,List.drop_succ_cons,CZ,CM]at hf;obtain⟨g0,g1,g2⟩:=hf;obtain⟨x2,e2,k2⟩:=zRs Tryz.underlying3 g0;obtain⟨x3,e3,k3⟩:=zRs Tryz.underlying2 g1;obtain⟨x4,e4,k4⟩:=shp_string Tryz.underlying9 g2;simp only[BW.injEq,and_true]at e2 e3 e4;subst e2 e3 e4;exact⟨⟨x2,x3,x4.data.toList⟩,rfl,k2,k3,k4⟩
theorem in_row{n:Nat}{ds:List D}(h:Shp As n 110 ds):∃x:Rw,ds=[rowV x]/\∀a∈x,Vi a:=by
 obtain⟨m,ls,rfl,h1,_⟩:=zJ3 Tryz.underlying110 h;obtain⟨bs,h2,h3,h4⟩:=zN0 (g:=vaC) (Q:=Vi) λx hx=>in_va (h1 x hx);exact⟨bs,by rw[h2,<-h3];rfl,h4⟩
theorem in_raw{n:Nat}{ds:List D}(h:Shp As n 42 ds):∃f:Raw,ds=rawC f/\RawOk f:=by
 obtain⟨hl,m,hf⟩:=zQb Tryz.underlying42 h;rw[show As.cellsOf 42=3 by kernel_rfl]at hl;obtain⟨a,b,c,rfl⟩:=len3 hl;have c3:As.cellsOf 39=1:=by kernel_rfl
 have c4:As.cellsOf 40=1:=by kernel_rfl
 simp only[Bb,CD,or_false,forall_eq_or_imp,forall_eq,c3,c4,A8,List.drop_succ_cons,CZ,CM]at hf;obtain⟨g0,g1,g2⟩:=hf;obtain⟨V,e0,k0⟩:=in_ints Tryz.underlying39 Tryz.underlying3 g0;obtain⟨W,e2,k2⟩:=in_ints Tryz.underlying39 Tryz.underlying3 g2;obtain⟨m',ls,e1,h1,_⟩:=zJ3 Tryz.underlying40 g1;obtain⟨R,r2,r3,r4⟩:=zNz (g:=rowV) (Q:=λx=>∀a∈x,Vi a) λx hx=>in_row (h1 x hx);simp only[BW.injEq,and_true]at e0 e1 e2;subst e0 e1 e2;exact⟨⟨V,R,W⟩,by rw[r2,<-r3],k0,r4,k2⟩
theorem arg_raws{d:D}(h:ArgD As 22 d):∃l:List Raw,d= .row (l.flatMap rawC) l.length/\∀f∈l,RawOk f:=by
 obtain⟨n,hs⟩:=h.cell (by kernel_rfl);obtain⟨m,ls,e,h1,_⟩:=zJ3 Tryz.underlying22 hs;obtain⟨fs,h2,h3,h4⟩:=zN0 (g:=rawC) (Q:=RawOk) λx hx=>in_raw (h1 x hx);simp only[BW.injEq,and_true]at e;exact⟨fs,by rw[e,h2,<-h3,List.flatMap_def],h4⟩
theorem arg_int{d:D}(h:ArgD As 3 d):∃z:Int,d=iD z/\inK .i64 z:=by
 obtain⟨n,hs⟩:=h.cell (by kernel_rfl);obtain⟨z,e,hz⟩:=zRs Tryz.underlying3 hs;simp only[BW.injEq,and_true]at e;exact⟨z,e,hz⟩
theorem zR8(k:Nat):((k+1:Nat):Int)-1=(k:Int):=by omega
end
section
open Go.RowKit
attribute [local irreducible] seqW awp zAa zAb zR Weak updS zAd retL Pure Acts rP setP setQ cP nP fr
set_option maxRecDepth 4096
abbrev fcR(V:List Int)(R:List Rw)(W:List Nat):D:= .agg [.row (V.map λz=>iD z) V.length, .row (R.map rowV) R.length, .row (W.map natD) W.length]
abbrev q12_:=Aj (Ak Bs 4)
set_option maxHeartbeats 4000000 in
theorem check_c(n:Int)(V:List Int)(R:List Rw)(W:List Nat)(hV:V.length<=1000000)(hR:R.length<=1000000):
    Pure As 86 [iD n,fcR V R W] [] (iD (chk n V R W.length)):=by
  obtain⟨m,hm⟩:∃m,m=W.length:=⟨_,rfl⟩;refine zH Tq_ok mixed Tryz.func86 rfl<|vAu<|zB<|vA<|ve (True/\0<3)<|zF<|zN (λ(i:Nat)=>fr 94 [(0,iD n),(3,Ae 0 0),(13,Ai (Ad (λ(z:Int)=>iD z) V)<|Aa V),(14,iD (Aa V:Int)),(15,iD (i:Int))]) (λ(i:Nat)=>[fB1 (.row (V.map λz=>iD z) V.length) (.row (R.map rowV) R.length)<|.row (W.map natD) W.length]) (λi=>V.length-i) (λ(i:Nat)=>i<=V.length/\∀j,j<i->zE8 n V j=Ab) 0 ?_ ?_ ?_
  ·exact⟨by omega,λj h=>by omega⟩
  ·refine vk 1
  rintro i ⟨h1,h2⟩;rcases AF i V.length with h3|h3
  · have hne:(V.map λz=>iD z)≠[]:=zW
    have hx:=zB0 V i h3;by_cases hs:zE8 n V i=Ab
    · have hs2:=hs
      simp only[zE8,Bp,Cj,decide_eq_true_eq]at hs2;obtain⟨s1,s2,s3⟩:=hs2;rcases i with _|k
      · rw[A8]at hx
        refine vAu<|zB<|vT ((↑(0:Nat):Int)<↑(Aa V))<|vKB<|vA<|vr 3 (ix ↑(0:Nat) ↑(Aa V) (Ad (λ(z:Int)=>iD z) V≠[])/\0<Aa (Ad (λ(z:Int)=>iD z) V))<|vsh 19 hx<|veT<|vA<|vew [] [(2,Ac),(7,Ac)] (decide (Ap V 0 (0:Int)<0)=Ac/\decide (Ap V 0 (0:Int)>=n)=Ac) (vf<|zM<|zD<|vN<|zA rfl<|vr 2 (i6 (↑(0:Nat)+1))<|vnil<|zC ?_) ⟨(by exact decide_eq_false (by omega)),(by exact decide_eq_false (by omega))⟩;refine⟨1,⟨by omega,λj hj=>?_⟩,by omega,?_⟩
        · obtain rfl:j=0:=by omega
          exact hs
        refine vk 1
      · have hx2:=zB0 V k (by omega)
        have s4:V.getD k 0<V.getD (k+1) 0:=by
          rcases s3 with h|h
          ·omega
          exact h
        refine vAu<|zB<|vT ((↑(k+1):Int)<↑(Aa V))<|vKB<|vA<|vr 2 (ix ↑(k+1) ↑(Aa V) (Ad (λ(z:Int)=>iD z) V≠[]))<|vp 18 (k+1) (Ad (λ(z:Int)=>iD z) V)<|vr 1 (0<Aa (Ag (k+1)<|Ad (λ(z:Int)=>iD z) V))<|vsh 19 hx<|veT<|vA<|vw 15 [] [(2,Ac),(7,Ac),(10,Ab)] (decide (Ap V (k+1) (0:Int)<0)=Ac/\decide (Ap V (k+1) (0:Int)>=n)=Ac/\decide ((↑(k+1):Int)>(0:Int))=Ab/\True/\0<3/\i6 (↑(k+1)-1)) (vs 34 (iD (↑(k+1)-1)) (iD k) (hd:=by simp(disch:=omega) only[zR8])<|vr 1 (ix ↑k ↑(Aa V) (Ad (λ(z:Int)=>iD z) V≠[]))<|vp 35 k (Ad (λ(z:Int)=>iD z) V)<|vr 1 (0<Aa (Ag k<|Ad (λ(z:Int)=>iD z) V))<|vsh 36 hx2<|veT<|vF (Ap V k (0:Int)>=Ap V (k+1) (0:Int)) ?_) ⟨(by exact decide_eq_false (by omega)),(by exact decide_eq_false (by omega)),(by exact decide_eq_true (by omega)),trivial,(by omega),(by omega)⟩;refine zM<|zD<|vN<|zA rfl<|vr 2 (i6 (↑(k+1)+1))<|vnil<|zC<|⟨k+2,⟨by omega,λj hj=>?_⟩,by omega,?_⟩
        · rcases AF j (k+1)with h|h
          ·exact h2 j h
          · obtain rfl:j=k+1:=by omega
            exact hs
        refine vk 1
    · have hc3:chk n V R W.length=3:=chk_v h3 (by simpa using hs)
      rw[hc3];rcases i with _|k
      · rw[A8]at hx
        focus
          refine vAu<|zB<|vT ((↑(0:Nat):Int)<↑(Aa V))<|vKB<|vA<|vr 3 (ix ↑(0:Nat) ↑(Aa V) (Ad (λ(z:Int)=>iD z) V≠[])/\0<Aa (Ad (λ(z:Int)=>iD z) V))<|vsh 19 hx<|veT<|vA<|vrT 3<|vspD 22 (Ap V 0 (0:Int)<0) (λhc=>?_)<|λhc=>?_;refine veT<|vt<|vAe<|zG<|zJ<|zE<|zE<|zJ<|zE<|vret (True)<|.inr rfl;refine vrT 5<|vspD 27 (Ap V 0 (0:Int)>=n) (λhc=>?_)<|λhc=>?_;refine veT<|vt<|vAe<|zG<|zJ<|zE<|zE<|zJ<|zE<|vret (True)<|.inr rfl;refine veT<|vf<|zM<|zD<|vN<|zA rfl<|vr 2 (i6 (↑(0:Nat)+1))<|vnil<|zC ?_;rotate_left
        all_goals exact absurd (zKw (by omega) (by omega) (.inl rfl)) hs
      · have hx2:=zB0 V k (by omega)
        focus
          refine vAu<|zB<|vT ((↑(k+1):Int)<↑(Aa V))<|vKB<|vA<|vr 2 (ix ↑(k+1) ↑(Aa V) (Ad (λ(z:Int)=>iD z) V≠[]))<|vp 18 (k+1) (Ad (λ(z:Int)=>iD z) V)<|vr 1 (0<Aa (Ag (k+1)<|Ad (λ(z:Int)=>iD z) V))<|vsh 19 hx<|veT<|vA<|vrT 3<|vspD 22 (Ap V (k+1) (0:Int)<0) (λhc=>?_)<|λhc=>?_;refine veT<|vt<|vAe<|zG<|zJ<|zE<|zE<|zJ<|zE<|vret (True)<|.inr rfl;refine vrT 5<|vspD 27 (Ap V (k+1) (0:Int)>=n) (λhc=>?_)<|λhc=>?_;refine veT<|vt<|vAe<|zG<|zJ<|zE<|zE<|zJ<|zE<|vret (True)<|.inr rfl;refine vw 7 [] [(10,Ab)] (decide ((↑(k+1):Int)>(0:Int))=Ab/\True/\0<3/\i6 (↑(k+1)-1))<|vs 34 (iD (↑(k+1)-1)) (iD k) (hd:=by simp(disch:=omega) only[zR8])<|vr 1 (ix ↑k ↑(Aa V) (Ad (λ(z:Int)=>iD z) V≠[]))<|vp 35 k (Ad (λ(z:Int)=>iD z) V)<|vr 1 (0<Aa (Ag k<|Ad (λ(z:Int)=>iD z) V))<|vsh 36 hx2<|veT<|vcD (Ap V k (0:Int)>=Ap V (k+1) (0:Int)) (λhc=>?_)<|λhc=>?_;refine vAe<|zG<|zJ<|zE<|zE<|zJ<|zE<|vret (True)<|.inr rfl;refine zM<|zD<|vN<|zA rfl<|vr 2 (i6 (↑(k+1)+1))<|vnil<|zC ?_;rotate_left
        all_goals exact absurd (zKw (by omega) (by omega) (.inr (by simp only[Nat.add_sub_cancel];omega))) hs
  have hv:=zGh (p:=zE8 n V) (n:=V.length) λj hj=>h2 j (by omega);by_cases hlm:R.length=W.length;case neg=>
    rw[chk_l hv hlm];refine vAu<|zB<|vF ((i:Int)<↑(Aa V))<|vZ2<|zB<|vA<|ve (True/\0<2/\True/\0<1/\True)<|zFm (t:=(Aa R:Int)!=(Aa W:Int)) (by kernel_rfl) (by simpa using by omega)<|vAe<|zG<|zE<|vret (True)<|.inr rfl
  refine vAu<|zB<|vF ((i:Int)<↑(Aa V))<|vZ2<|zB<|vA<|ve (True/\0<2/\True/\0<1/\True)<|zG4 (t:=(Aa R:Int)!=(Aa W:Int)) (by kernel_rfl) (by simpa using by omega)<|vK<|zB<|vA<|ve (True/\0<2)<|zF<|zN (λ(i:Nat)=>fr 94 [(3,Ae 0 0),(50,Ai (Ad rowV R)<|Aa R),(51,iD<|Aa R),(52,iD i)]) (λ(i:Nat)=>[fB1 (.row (V.map λz=>iD z) V.length) (.row (R.map rowV) R.length)<|.row (W.map natD) W.length]) (λi=>R.length-i) (λ(i:Nat)=>i<=R.length/\∀j,j<i->j<R.length->decide ((R.getD j []).length=V.length)=Ab) 0 ?_ ?_ ?_
  ·exact⟨by omega,λj h=>by omega⟩
  ·refine vk 1
  clear h1 h2 h3 i;rintro i ⟨h1,h2⟩;rcases AF i R.length with h3|h3
  · have hne:R.map rowV≠[]:=zW
    have hx:=zAh R i h3;have hca:=chk_a hv hlm h3;generalize hg:R.getD i []=r at*;focus
      refine vAu<|zB<|vT ((i:Int)<↑(Aa R))<|vKB<|vA<|vr 1 (ix ↑i ↑(Aa R) (Ad rowV R≠[]))<|vp 54 i (Ad rowV R)<|vr 1 (0<Aa (Ag i<|Ad rowV R))<|vsh 55 hx<|veT<|vA<|ve (True/\0<3/\True)<|zAi (t:=(Aa r:Int)!=(Aa V:Int)) (by kernel_rfl) (λhc=>?_)<|λhc=>?_;simp only[bne_iff_ne]at hc;refine vAe<|zG<|zJ<|zE<|zE<|zJ<|zE<|vre (True) (Aj<|Ak Bs 6) (.inr rfl) ?_;rotate_left;simp only[bne_eq_false_iff_eq]at hc;refine zM<|zD<|vN<|zA rfl<|vr 2 (i6 (↑i+1))<|vnil<|zC ?_;rotate_left
    ·rw[hca (by omega)]
    · refine⟨i+1,⟨by omega,λj hj hjl=>?_⟩,by omega,?_⟩
      · rcases AF j i with h|h
        ·exact h2 j h hjl
        · obtain rfl:j=i:=by omega
          rw[hg];exact decide_eq_true (by omega)
      refine vk 1
  have ha:=zEk (p:=λx:Rw=>decide (x.length=V.length)) (d:=[]) h3 h2;have hl:∀x∈R,x.length<=1000000000:=λx hx=>by
    have:=of_decide_eq_true (Bo.1 ha x hx)
    omega
  refine vAu<|zB<|vF ((i:Int)<↑(Aa R))<|vZ2<|zB<|vA<|ve (True/\0<2)<|zF<|zN (λ(i:Nat)=>fr 94 [(3,Ae 0 0),(64,Ai (Ad rowV R)<|Aa R),(65,iD<|Aa R),(66,iD i)]) (λ(i:Nat)=>[fB1 (.row (V.map λz=>iD z) V.length) (.row (R.map rowV) R.length)<|.row (W.map natD) W.length]) (λi=>R.length-i) (λ(i:Nat)=>i<=R.length/\∀j,j<i->j<R.length->(R.getD j []).all vok=Ab) 0 ?_ ?_ ?_
  ·exact⟨by omega,λj h=>by omega⟩
  ·refine vk 1
  clear h1 h2 h3 i;rintro i ⟨h1,h2⟩;rcases AF i R.length with h3|h3
  · have hne:R.map rowV≠[]:=zW
    have hx:=zAh R i h3;have hco:=chk_o hv hlm ha h3;have hlr:=hl _ (zAx R [] i h3);generalize hg:R.getD i []=r at*;focus
      refine vAu<|zB<|vT ((i:Int)<↑(Aa R))<|vKB<|vA<|vr 1 (ix ↑i ↑(Aa R) (Ad rowV R≠[]))<|vp 68 i (Ad rowV R)<|vr 1 (0<Aa (Ag i<|Ad rowV R))<|vsh 69 hx<|veT<|vA<|vrT 1<|vc (zRv r _ rfl (by omega))<|veT<|zAi (t:=!List.all r vok) (by kernel_rfl) (λhc=>?_)<|λhc=>?_;simp only[Cz]at hc;refine vAe<|zG<|zJ<|zE<|zE<|zJ<|zE<|vre (True) (q12_) (.inr rfl) ?_;rotate_left;simp only[CV]at hc;refine zM<|zD<|vN<|zA rfl<|vr 2 (i6 (↑i+1))<|vnil<|zC ?_;rotate_left
    ·rw[hco (by simpa using hc)]
    · refine⟨i+1,⟨by omega,λj hj hjl=>?_⟩,by omega,?_⟩
      · rcases AF j i with h|h
        ·exact h2 j h hjl
        · obtain rfl:j=i:=by omega
          rw[hg];simpa using hc
      refine vk 1
  have ho:=zEk (p:=λx:Rw=>x.all vok) (d:=[]) h3 h2;refine vAu<|zB<|vF ((i:Int)<↑(Aa R))<|vZ2<|zB<|vAe<|zF<|zN (λ(k:Nat)=>fr 94 [(3,Ae 0 0),(11,iD (↑k+1))]) (λ(k:Nat)=>[fB1 (.row (V.map λz=>iD z) V.length) (.row (R.map rowV) R.length)<|.row (W.map natD) W.length]) (λk=>R.length-k) (λ(k:Nat)=>k<=R.length/\∀j,j<=k->j<R.length->zK4 R j=Ab) 0 ?_ ?_ ?_
  · exact ⟨by omega, fun j h _ => by obtain rfl:j=0:=by omega
                                     rfl⟩
  ·refine vk 1
  clear h1 h2 h3 i;rintro k ⟨h1,h2⟩;rcases AF (k+1) R.length with h3|h3
  · have hne:R.map rowV≠[]:=zW
    have hx:=zAh R (k+1) h3;have hx0:=zAh R k (by omega);have hcs:=chk_s hv hlm ha ho h3;have hst:zK4 R (k+1)=decide (rcmp (R.getD k []) (R.getD (k+1) [])<0):=by simp[zK4]
    have hcm:=zDo (R.getD k []) (R.getD (k+1) []) _ _ rfl rfl (hl _ (zAx R [] k (by omega))) (hl _ (zAx R [] (k+1) h3));generalize R.getD (k+1) []=r at*;generalize R.getD k []=r0 at*;focus
      refine zB<|vAs<|ve (True/\0<2)<|vT ((↑(k+1):Int)<↑(Aa R))<|vKB<|zB<|vd [0,2,3,6,8,1,4,5,7,9,10,11,12]<|vr 3 (True/\i6 (↑(k+1)-1))<|vs 84 (iD (↑(k+1)-1)) (iD k) (hd:=by simp(disch:=omega) only[zR8])<|vr 4 (True/\0<2/\ix ↑k ↑(Aa R) (Ad rowV R≠[]))<|vp 85 k (Ad rowV R)<|vr 1 (0<Aa (Ag k<|Ad rowV R))<|vsh 86 hx0<|vr 2 (0<2/\ix ↑(k+1) ↑(Aa R) (Ad rowV R≠[]))<|vp 90 (k+1) (Ad rowV R)<|vr 1 (0<Aa (Ag (k+1)<|Ad rowV R))<|vsh 91 hx<|vc hcm<|veT<|vcD (rcmp r0 r>=(0:Int)) (λhc=>?_)<|λhc=>?_;refine vAe<|zG<|zJ<|zE<|zE<|zJ<|zE<|vre (True) (Aj<|Ak Bs 16) (.inr rfl) ?_;rotate_left;refine zM<|zD<|vN<|zA rfl<|vr 3 (i6 (↑(k+1)+1))<|vnil<|zC ?_;rotate_left
    ·rw[hcs (by rw[hst];exact decide_eq_false (by omega))]
    · refine⟨k+1,⟨by omega,λj hj hjl=>?_⟩,by omega,?_⟩
      · rcases AF j (k+1)with h|h
        ·exact h2 j (by omega) hjl
        · obtain rfl:j=k+1:=by omega
          rw[hst];exact decide_eq_true (by omega)
      refine vk 1
  rw[chk_0 hv hlm ha ho (zGh λj hj=>h2 j (by omega) hj)];refine zB<|vAs<|ve (True/\0<2)<|vF ((k:Int)+(1:Int)<(Aa R:Int))<|vZ2<|vAe<|zG<|vret (True)<|.inr rfl
end
section
open Go.RowKit
def Sn:Sr Nat:=⟨(· +·),(· *·),1,Nat.one_mul,Nat.add_comm,Nat.add_assoc,Nat.mul_comm,Cm,Nat.left_distrib⟩
section
variable {α : Type} {c : Rw → Rw → Int}
theorem zZ5(f:α->α->α)(r:Rw)(v:α):∀l:List (Rw×α),(putP c f r v l).length<=l.length+1
 |[]=>by simp[putP]
 |(s,u)::l=>by
  have:=zZ5 f r v l
  simp only[putP];split
  ·simp only[BH];omega
  split<;>simp
theorem zY3(f:α->α->α):∀(L l:List (Rw×α)),(acc c f l L).length<=l.length+L.length
 |[],l=>by simp[acc]
 |p::L,l=>by
  have h1:=zY3 f L (putP c f p.1 p.2 l);have h2:=zZ5 (c:=c) f p.1 p.2 l;simp only[acc,BQ,BH]at h1⊢;omega
theorem zVb(f:α->α->α)(A B:List Nat)(lb:List (Rw×α)):∀la:List (Rw×α),(zCa f A la B lb).length<=la.length*lb.length
 |[]=>by simp[zCa]
 |p::la=>by
  have h1:=zVb f A B lb la;have h2:(lb.filter λq=>mt A p.1 B q.1).length<=lb.length:=Bw _ _;simp only[zCa,C0,AU,AK,BH,CE]at h1⊢;omega
def rz(f:Fa α):Nat:=f.l.length+1
theorem fmul_len(S:Sr α)(f g:Fa α)(os:List (Fa α)):(fmul c S f g os).l.length<=f.l.length*g.l.length:=by
 have h1:=zY3 (c:=c) S.add ((zCa S.mul f.A f.l g.A g.l).filter λp=>os.all λo=>okO (un f.A g.A) p.1 o) [];have h2:((zCa S.mul f.A f.l g.A g.l).filter λp=>os.all λo=>okO (un f.A g.A) p.1 o).length<=(zCa S.mul f.A f.l g.A g.l).length:=Bw _ _;have h3:=zVb S.mul f.A g.A g.l f.l;simp only[Ci]at h1;show(acc c S.add [] _).length<=_;omega
theorem zJn(S:Sr α)(f g:Fa α)(os:List (Fa α)):rz (fmul c S f g os)<=rz f*rz g:=by
 have:=fmul_len (c:=c) S f g os
 simp only[rz,CI,CJ];omega
theorem zX2(S:Sr α)(v:Nat)(f:Fa α):rz (fsum c S v f)<=rz f:=by
 have h1:=zY3 (c:=c) S.add (zJc f.A v f.l) [];simp only[zJc,Ci,AK]at h1;show(acc c S.add [] _).length+1<=f.l.length+1;unfold zJc;omega
theorem zFe(f:Fa α):1<=rz f:=by unfold rz;omega
end
section
variable {c : Rw → Rw → Int}
theorem zZ3(r:Rw)(v:Nat):∀l:List (Rw×Nat),((putP c (· +·) r v l).map (·.2)).sum=(l.map (·.2)).sum+v
 |[]=>by simp[putP]
 |(s,u)::l=>by
  have:=zZ3 r v l
  simp only[putP];split
  ·simp only[AZ,BC];omega
  split<;>simp only[AZ,BC]<;>omega
theorem zY2:∀(L l:List (Rw×Nat)),((acc c (· +·) l L).map (·.2)).sum=(l.map (·.2)).sum+(L.map (·.2)).sum
 |[],l=>by simp[acc]
 |p::L,l=>by
  have h1:=zY2 L (putP c (· +·) p.1 p.2 l);rw[zZ3]at h1;simp only[acc,BQ,AZ,BC]at h1⊢;omega
theorem zLl{α:Type}(g:α->Nat)(q:α->Bool):∀l:List α,((l.filter q).map g).sum<=(l.map g).sum
 |[]=>by simp
 |a::l=>by
  have:=zLl g q l
  rw[CX];split<;>simp only[AZ,BC]<;>omega
theorem zZi{α:Type}(g:α->Nat)(k:Nat):∀l:List α,(l.map λq=>k*g q).sum=k*(l.map g).sum
 |[]=>by simp
 |a::l=>by simp only[AZ,BC,zZi g k l,CI]
theorem zVa(A B:List Nat)(lb:List (Rw×Nat)):∀la:List (Rw×Nat),((zCa (· *·) A la B lb).map (·.2)).sum<=(la.map (·.2)).sum*(lb.map (·.2)).sum
 |[]=>by simp[zCa]
 |p::la=>by
  have h1:=zVa A B lb la;have h2:=Nat.mul_le_mul_left p.2 (zLl (λq:Rw×Nat=>q.2) (λq=>mt A p.1 B q.1) lb);rw[<-zZi]at h2;simp only[zCa,C0,CB,List.sum_append,Ca,AZ,BC,CJ,Function.comp_def]at h1 h2⊢;omega
def vz(f:Fa Nat):Nat:=(f.l.map (·.2)).sum+1
theorem fmul_vsum(f g:Fa Nat)(os:List (Fa Nat)):((fmul c Sn f g os).l.map (·.2)).sum<=(f.l.map (·.2)).sum*(g.l.map (·.2)).sum:=by
 have h1:=zY2 (c:=c) ((zCa (· *·) f.A f.l g.A g.l).filter λp=>os.all λo=>okO (un f.A g.A) p.1 o) [];have h2:=zLl (λq:Rw×Nat=>q.2) (λp=>os.all λo=>okO (un f.A g.A) p.1 o) (zCa (· *·) f.A f.l g.A g.l);have h3:=zVa f.A g.A g.l f.l;simp only[BE,List.sum_nil,BN]at h1;refine AV (Nat.le_of_eq h1) (AV h2 h3)
theorem zSt(f g:Fa Nat)(os:List (Fa Nat)):vz (fmul c Sn f g os)<=vz f*vz g:=by
 have:=fmul_vsum (c:=c) f g os
 simp only[vz,CI,CJ];omega
theorem zV5(v:Nat)(f:Fa Nat):((fsum c Sn v f).l.map (·.2)).sum=(f.l.map (·.2)).sum:=by
 have h1:=zY2 (c:=c) (zJc f.A v f.l) [];have e:(zJc f.A v f.l).map (·.2)=f.l.map (·.2):=by simp[zJc,Function.comp_def]
 rw[e]at h1;simp only[BE,List.sum_nil,BN]at h1;exact h1
theorem fsum_vz(v:Nat)(f:Fa Nat):vz (fsum c Sn v f)=vz f:=by unfold vz;rw[zV5]
theorem zM0(f:Fa Nat):1<=vz f:=by unfold vz;omega
end
def pz{α:Type}(z:α->Nat)(l:List α):Nat:=l.foldr (λa n=>z a*n) 1
theorem zCi{α:Type}(z:α->Nat)(a:α)(l:List α):pz z (a::l)=z a*pz z l:=rfl
theorem zNj{α:Type}(z:α->Nat):∀(l m:List α),pz z (l++m)=pz z l*pz z m
 |[],m=>by simp[pz]
 |a::l,m=>by rw[BF,zCi,zCi,zNj z l m,Cm]
theorem zFh{α:Type}{z:α->Nat}(hz:∀a,1<=z a):∀l:List α,1<=pz z l
 |[]=>Ba 1
 |a::l=>Nat.mul_le_mul (hz a) (zFh hz l)
theorem zNi{α:Type}(z:α->Nat){l m:List α}(h:l.Perm m):pz z l=pz z m:=by
 induction h with
 |nil=>rfl
 |cons x _ ih=>rw[zCi,zCi,ih]
 |swap x y l=>simp only[zCi];rw[<-Cm,Nat.mul_comm (z y),Cm]
 |trans _ _ h1 h2=>exact h1.trans h2
theorem zLz{α:Type}{z:α->Nat}(hz:∀a,1<=z a){l:List α}{a:α}(h:a∈l):z a<=pz z l:=by
 induction l with
 |nil=>simp at h
 |cons b l ih=>
  rw[zCi];rcases Bb.1 h with rfl|h
  ·exact Nat.le_mul_of_pos_right _ (zFh hz l)
  exact AV (ih h) (Nat.le_mul_of_pos_left _ (hz b))
section
variable {α : Type} {c : Rw → Rw → Int} {S : Sr α} {z : Fa α → Nat} (hz : ∀ a, 1 ≤ z a) (h1 : ∀ f g os, z (fmul c S f g os) ≤ z f * z g) (h2 : ∀ v f, z (fsum c S v f) ≤ z f)
include h1 in
theorem elimP_z:∀(fs:List (Fa α))(p:Fa α)(os:List (Fa α)),z (zCd c S p fs os)<=z p*pz z fs
 |[],p,os=>by simp[zCd,pz]
 |f::fs,p,os=>by
  have h3:=elimP_z fs (fmul c S p f (fs++os)) os;have h4:=B6 (pz z fs) (h1 p f (fs++os));rw[zCd,zCi,<-Cm];exact AV h3 h4
include h1 h2 in
theorem elim_z(v:Nat)(fs:List (Fa α)):pz z (elim c S v fs)<=pz z fs:=by
 have hp:=zNi z (zEm v fs);unfold elim;split
 ·exact Ba _
 rename_i p ws e;rw[e,zNj,zCi]at hp;rw[<-hp,zNj];have h3:=AV (h2 v (zCd c S p ws (zDy v fs))) (elimP_z h1 ws p (zDy v fs));have e1:∀g:Fa α,pz z [g]=z g:=λg=>by simp[pz]
 rw[e1,Nat.mul_comm];exact B6 _ h3
end
instance {α : Type} : Inhabited (Fa α) := ⟨⟨[], []⟩⟩
section
variable {α : Type} (pop : Nat → Nat)
def uniM(v:Nat)(fs:List (Fa α)):Nat:=fs.foldl (λm f=>if v∈f.A then m|||msk f.A else m) 0
def bigL(v:Nat)(fs:List (Fa α)):Nat:=fs.foldl (λn f=>if v∈f.A then max n f.A.length else n) 0
def zGv(fs:List (Fa α))(v:Nat):Nat:=if pop (uniM v fs)=bigL v fs then 0 else pop (uniM v fs)
def zEd(fs:List (Fa α))(s:Int×Nat)(v:Nat):Int×Nat:=if s.1<0\/zGv pop fs v<s.2 then((v:Int),zGv pop fs v)else s
def zA9(fs:List (Fa α))(E:List Nat):Nat:=((E.foldl (zEd pop fs) (-1,0)).1).toNat
theorem ch_mem(fs:List (Fa α)):∀(l:List Nat)(s:Int×Nat),((l.foldl (zEd pop fs) s)=s/\(0<=s.1\/l=[]))\/∃v∈l,(l.foldl (zEd pop fs) s).1=(v:Int)
 |[],s=> .inl ⟨rfl, .inr rfl⟩
 | v::l,s=>by
  rw[BQ];rcases ch_mem fs l (zEd pop fs s v)with⟨h1,h2⟩|⟨w,hw,h⟩
  ·rw[h1];unfold zEd;split
   ·exact .inr ⟨v,BR ..,rfl⟩
   rename_i h;exact .inl ⟨rfl, .inl (by omega)⟩
  exact .inr ⟨w,Bv _ hw,h⟩
theorem zHp(fs:List (Fa α)){E:List Nat}(h:E≠[]):zA9 pop fs E∈E/\(E.foldl (zEd pop fs) (-1,0)).1=(zA9 pop fs E:Nat):=by
 unfold zA9;rcases ch_mem pop fs E (-1,0)with⟨_,h2⟩|⟨v,hv,e⟩
 ·rcases h2 with h2|h2
  ·exact absurd h2 (by decide)
  exact absurd h2 h
 rw[e];exact⟨by simpa using hv,by simp⟩
variable (c : Rw → Rw → Int) (S : Sr α)
def zD8:Nat->List (Fa α)->List Nat->List (Fa α)
 |0,fs,E=>fs
 |n+1,fs,E=>zD8 n (elim c S (zA9 pop fs E) fs) (less E (zA9 pop fs E))
def zGp(fs:List (Fa α))(E:List Nat):Fa α:=zCd c S (zCb S) (zD8 pop c S E.length fs E) []
def refP(p:Fa α)(fs:List (Fa α)):Fa α:=fs.foldl (λp f=>fmul c S p f []) p
def refS(f:Fa α)(vs:List Nat):Fa α:=vs.foldl (λf v=>fsum c S v f) f
variable {pop c S} {Dm : List Va}
theorem zSk{E:List Nat}(hn:E.Nodup){v:Nat}(hv:v∈E):(less E v).length+1=E.length:=by
 rw[<-zEn hn v,List.length_eraseIdx,if_pos (Cl.2 hv)]
 have:=List.length_pos_of_mem hv
 omega
theorem zH1(hc:Cw c)(hD:Dm.Nodup):∀(n:Nat)(fs:List (Fa α))(E:List Nat),E.Nodup->E.length=n->(∀f∈fs,FOk c Dm f)->(∀v∈E,∃f∈fs,v∈f.A)->
  (∀f∈zD8 pop c S n fs E,FOk c Dm f)/\(∃vs,vs.Perm E/\∀σ,proF S (zD8 pop c S n fs E) σ=zMf S Dm vs (proF S fs) σ)/\(∀w,(∃f∈zD8 pop c S n fs E,w∈f.A)↔(∃f∈fs,w∈f.A)/\w∉E)
 |0,fs,E,hn,hl,hf,hv=>by
  have e:E=[]:=CN.1 hl;subst e;exact⟨hf,⟨[], .refl _,λσ=>rfl⟩,λw=>by simp[zD8]⟩
 | n+1,fs,E,hn,hl,hf,hv=>by
  have hne:E≠[]:=λe=>by rw[e]at hl;cases hl
  have hm:=(zHp pop fs hne).1;have hA:=elim_A (c:=c) (S:=S) (fs:=fs) (λf h=>(hf f h).asc.2) (zA9 pop fs E);have hpro:=elim_pro (S:=S) hc hD hf (hv _ hm);have hok:=zYg (S:=S) hc hf (zA9 pop fs E);have hll:=zSk hn hm;show(∀f∈zD8 pop c S n (elim c S (zA9 pop fs E) fs) (less E (zA9 pop fs E)),_)/\_;generalize hg:zA9 pop fs E=v at*;obtain⟨h1,⟨vs,hp,h2⟩,h3⟩:=zH1 hc hD n (elim c S v fs) (less E v) (hn.filter _) (by omega) hok (λw hw=>(hA w).2 ⟨hv w (zC1.1 hw).1,(zC1.1 hw).2⟩);have e:zD8 pop c S (n+1) fs E=zD8 pop c S n (elim c S v fs) (less E v):=by rw[zD8,hg]
  refine⟨h1,⟨v::vs,?_,λσ=>?_⟩,λw=>?_⟩
  ·have h4:(v::less E v).Perm E:=by
    rw[<-zEn hn v,<-List.erase_eq_eraseIdx_of_idxOf rfl];exact(List.perm_cons_erase hm).symm
   exact(List.Perm.cons v hp).trans h4
  ·rw[e,h2];exact zEz vs (λσ=>hpro σ) σ
  rw[e,h3,hA,zC1];constructor
  ·rintro⟨⟨h4,h5⟩,h6⟩;exact⟨h4,λh=>h6 ⟨h,h5⟩⟩
  rintro⟨h4,h5⟩;exact⟨⟨h4,λh=>h5 (h▸hm)⟩,λh=>h5 h.1⟩
theorem omul_one(x:Option α):omul S.mul x (Am S.one)=x:=by rw[omul_c];cases x<;>simp[omul,S.om]
theorem one_omul(x:Option α):omul S.mul (Am S.one) x=x:=by cases x<;>simp[omul,S.om]
theorem zGd:FOk c Dm (zCb S):=⟨⟨B7.nil,by simp[zCb]⟩,by simp[zCb,Lens],by simp[zCb,Srt],by simp[zCb]⟩
theorem zZb(σ:Nat->Va):den (zCb S) σ=Am S.one:=rfl
theorem margP_ok(hc:Cw c)(hD:Dm.Nodup){fs:List (Fa α)}{E:List Nat}(hn:E.Nodup)(hf:∀f∈fs,FOk c Dm f)(hv:∀v∈E,∃f∈fs,v∈f.A):FOk c Dm (zGp pop c S fs E):=
 zMs hc _ _ _ zGd (zH1 hc hD _ fs E hn rfl hf hv).1
theorem margP_den(hc:Cw c)(hD:Dm.Nodup){fs:List (Fa α)}{E:List Nat}(hn:E.Nodup)(hf:∀f∈fs,FOk c Dm f)(hv:∀v∈E,∃f∈fs,v∈f.A)(σ:Nat->Va):
  den (zGp pop c S fs E) σ=zMf S Dm E (proF S fs) σ:=by
 obtain⟨h1,⟨vs,hp,h2⟩,_⟩:=zH1 (pop:=pop) (S:=S) hc hD _ fs E hn rfl hf hv;have h:=zPd (S:=S) hc σ (zD8 pop c S E.length fs E) (zCb S) [] zGd h1 (by simp);rw[BA,zZb,one_omul,h2 σ,zQn hp]at h;have e:proF S [] σ=Am S.one:=rfl;rw[e,omul_one]at h;exact h
theorem margP_A(hc:Cw c)(hD:Dm.Nodup){fs:List (Fa α)}{E:List Nat}(hn:E.Nodup)(hf:∀f∈fs,FOk c Dm f)(hv:∀v∈E,∃f∈fs,v∈f.A)(w:Nat):w∈(zGp pop c S fs E).A↔(∃f∈fs,w∈f.A)/\w∉E:=by
 obtain⟨h1,_,h3⟩:=zH1 (pop:=pop) (S:=S) hc hD _ fs E hn rfl hf hv;unfold zGp;rw[zS3 _ _ _ (by simp[zCb]) (λf h=>(h1 f h).asc.2),<-h3];simp[zCb]
theorem zR2(hc:Cw c):∀(fs:List (Fa α))(p:Fa α),FOk c Dm p->(∀f∈fs,FOk c Dm f)->FOk c Dm (refP c S p fs)
 |[],p,hp,_=>hp
 |f::fs,p,hp,hf=>zR2 hc fs _ (zHm hc hp (hf f (BR ..)) []) λg hg=>hf g (Bv _ hg)
theorem zR3(hc:Cw c)(σ:Nat->Va):∀(fs:List (Fa α))(p:Fa α),FOk c Dm p->(∀f∈fs,FOk c Dm f)->den (refP c S p fs) σ=omul S.mul (den p σ) (proF S fs σ)
 |[],p,hp,_=>(omul_one _).symm
 |f::fs,p,hp,hf=>by
  have h1:=hf f (BR ..)
  have:=zR3 hc σ fs (fmul c S p f []) (zHm hc hp h1 []) λg hg=>hf g (Bv _ hg)
  rw[fmul_den hc hp h1]at this;simp only[List.all_nil,if_true]at this;show den (refP c S (fmul c S p f []) fs) σ=_;rw[this,zVh];rfl
theorem refP_A:∀(fs:List (Fa α))(p:Fa α),(∀v∈p.A,v<32)->(∀f∈fs,∀v∈f.A,v<32)->∀v,v∈(refP c S p fs).A↔v∈p.A\/∃f∈fs,v∈f.A
 |[],p,_,_,v=>by simp[refP]
 | f::fs,p,hp,hf,v=>by
  have h1:=hf f (BR ..);have ih:=refP_A fs (fmul c S p f []) (λw hw=>(zEt.1 hw).1) (λg hg=>hf g (Bv _ hg)) v;show v∈(refP c S (fmul c S p f []) fs).A↔_;rw[ih];have:v∈(fmul c S p f []).A↔v<32/\(v∈p.A\/v∈f.A):=zEt;rw[this];constructor
  ·rintro(⟨_,h|h⟩|⟨g,hg,h⟩)
   ·exact .inl h
   ·exact .inr ⟨f,BR ..,h⟩
   exact .inr ⟨g,Bv _ hg,h⟩
  rintro(h|⟨g,hg,h⟩)
  ·exact .inl ⟨hp v h, .inl h⟩
  rcases Bb.1 hg with rfl|hg
  ·exact .inl ⟨h1 v h, .inr h⟩
  exact .inr ⟨g,hg,h⟩
theorem zR1(hc:Cw c):∀(vs:List Nat)(f:Fa α),FOk c Dm f->FOk c Dm (refS c S f vs)
 |[],f,hf=>hf
 |v::vs,f,hf=>zR1 hc vs _ (zX3 hc hf v)
theorem refS_A:∀(vs:List Nat)(f:Fa α)(w:Nat),w∈(refS c S f vs).A↔w∈f.A/\w∉vs
 |[],f,w=>by simp[refS]
 |v::vs,f,w=>by
  have ih:=refS_A vs (fsum c S v f) w;show w∈(refS c S (fsum c S v f) vs).A↔_;rw[ih];have:w∈(fsum c S v f).A↔w∈f.A/\w≠v:=zC1;rw[this,Bb,not_or];exact⟨λh=>⟨h.1.1,h.1.2,h.2⟩,λh=>⟨⟨h.1,h.2.1⟩,h.2.2⟩⟩
theorem zZz(hc:Cw c)(hD:Dm.Nodup):∀(vs:List Nat)(f:Fa α)(σ:Nat->Va),FOk c Dm f->vs.Nodup->(∀v∈vs,v∈f.A)->den (refS c S f vs) σ=zMf S Dm vs (den f) σ
 |[],f,σ,hf,_,_=>rfl
 |v::vs,f,σ,hf,hn,hv=>by
  rw[List.nodup_cons]at hn;have ih:=zZz hc hD vs (fsum c S v f) σ (zX3 hc hf v) hn.2 λw hw=>zC1.2 ⟨hv w (Bv _ hw),λe=>hn.1 (e▸hw)⟩;show den (refS c S (fsum c S v f) vs) σ=_;rw[ih];exact zEz vs (λσ=>fsum_den hc hD hf (hv v (BR ..)) σ) σ
theorem zSf(hc:Cw c)(hD:Dm.Nodup){fs:List (Fa α)}{E vs:List Nat}(hn:E.Nodup)(hp:vs.Perm E)(hf:∀f∈fs,FOk c Dm f)(hv:∀v∈E,∃f∈fs,v∈f.A):zGp pop c S fs E=refS c S (refP c S (zCb S) fs) vs:=by
 have hr:=zR2 (S:=S) hc fs (zCb S) zGd hf;have hrA:∀v,v∈(refP c S (zCb S) fs).A↔∃f∈fs,v∈f.A:=λv=>by
  rw[refP_A fs (zCb S) (by simp[zCb]) (λf h=>(hf f h).asc.2)];simp[zCb]
 have hm:=margP_ok (pop:=pop) (S:=S) hc hD hn hf hv;have hs:=zR1 (S:=S) hc vs _ hr;refine FOk.ext hc hm hs (Asc.ext hm.asc hs.asc λw=>?_) λσ=>?_
 ·rw[margP_A hc hD hn hf hv,refS_A,hrA,hp.mem_iff]
 rw[margP_den hc hD hn hf hv,zZz hc hD vs _ σ hr (hp.nodup_iff.2 hn) (λv h=>(hrA v).2 (hv v (hp.mem_iff.1 h))),zQn hp];refine zEz E (λσ=>?_) σ;rw[zR3 hc σ fs (zCb S) zGd hf,zZb,one_omul]
end
section
variable {α : Type} {pop : Nat → Nat} {c : Rw → Rw → Int} {S : Sr α} {z : Fa α → Nat} (h1 : ∀ f g os, z (fmul c S f g os) ≤ z f * z g) (h2 : ∀ v f, z (fsum c S v f) ≤ z f)
end
section
variable {A B : List Nat} {la lb : List (Rw × Nat)}
end
def ixI(V:List Int)(v:Int):Int:=if v∈V then(V.idxOf v:Nat)else-1
abbrev intL(A:List Nat):List Int:=A.map λv:Nat=>(v:Int)
theorem ixI_yes{V:List Int}{v:Int}{i:Nat}(h:i<V.length)(hi:V.getD i 0=v)(hb:∀j,j<i->V.getD j 0≠v):ixI V v=(i:Int):=by
 induction V generalizing i with
 |nil=>simp at h
 | cons a V ih=>
  cases i with
  |zero=>
   have hi:a=v:=hi;subst hi;simp[ixI]
  | succ i=>
   have h0:a≠v:=hb 0 (by omega)
   have:=ih (i:=i) (by simpa using h) hi (λj hj=>hb (j+1) (by omega))
   unfold ixI at this⊢;have h1:(a==v)=false:=by simpa using h0
   by_cases hm:v∈V
   ·rw[if_pos hm]at this;rw[if_pos (Bv _ hm),CU,h1];simp only[cond_false];omega
   rw[if_neg hm]at this;omega
theorem ixI_no{V:List Int}{v:Int}(hb:∀j,j<V.length->V.getD j 0≠v):ixI V v=-1:=by
 unfold ixI;rw[if_neg];intro hm;obtain⟨i,hi,e⟩:=CO.1 hm;refine hb i hi ?_;rw[AB,AI hi,B3,e]
end
section
open Go.RowKit
attribute [local irreducible] seqW awp zAa zAb zR Weak updS zAd retL Pure Acts rP setP setQ cP nP fr
set_option maxRecDepth 4096
abbrev faAc(f:Fa Nat):List D:=fcC (f.A,f.l)
abbrev faA(f:Fa Nat):D:=fcD f.A f.l
theorem zBe(f:Fa Nat):(faAc f).length=3:=rfl
def Okv(Dm:List Va):Prop:=∀a∈Dm,vok a=Ab/\Vs a
structure Gof(Dm:List Va)(f:Fa Nat):Prop where
 ok:FOk rcmp Dm f
 r:rz f<=900000
 v:vz f<=4000000000000000000
section
variable {Dm : List Va} (hD : Okv Dm)
theorem sm_le{f:Fa Nat}(hv:vz f<=4000000000000000000):∀p∈f.l,Sm p.2:=λp hp=>Sm.of (by
 have:=snd_le_sum hp
 unfold vz at hv;omega)
theorem Gof.fv{f:Fa Nat}(h:Gof Dm f)(hD:Okv Dm):FV (f.A,f.l):=
 ⟨h.ok.asc,h.ok.len,λp hp x hx=>(hD x (h.ok.dom p hp x hx)).2,by have:=h.r;unfold rz at this;simp only;omega,sm_le h.v,h.ok.ndk rcw⟩
theorem zNt(hD:Okv Dm)(f g:Fa Nat)(os:List (Fa Nat))(hf:Gof Dm f)(hg:Gof Dm g)(ho:∀o∈os,Gof Dm o)(hl:os.length<=1000)(hr:rz f*rz g<=900000):
  Pure As 49 [cntD,faA f,faA g, .row (os.flatMap faAc) os.length] [] (faA (fmul rcmp Sn f g os)):=by
 simp only[rz,CI,CJ]at hr;have h:=multiply_c (f.A,f.l) (g.A,g.l) (os.map λo=>(o.A,o.l)) (hf.fv hD) (hg.fv hD) (λo hm=>by
  obtain⟨o',hm',rfl⟩:=A6.1 hm;exact(ho o' hm').fv hD) (by simpa using hl) (by simp only;omega)
 have e1:(os.map λo=>(o.A,o.l)).flatMap fcC=os.flatMap faAc:=by rw[List.flatMap_map]
 rw[e1,AK]at h;have e2:((zCa (· *·) f.A f.l g.A g.l).filter λp=>(os.map λo=>(o.A,o.l)).all λo=>okO (un f.A g.A) p.1 (faN o))=(zCa Sn.mul f.A f.l g.A g.l).filter λp=>os.all λo=>okO (un f.A g.A) p.1 o:=by
  refine CA λp _=>?_;rw[List.all_map];rfl
 have hn:=zF0 (f:=Sn.mul) hf.ok.asc hg.ok.asc (hf.ok.ndk rcw) (hg.ok.ndk rcw) hf.ok.len hg.ok.len;have e3:fmul rcmp Sn f g os=⟨un f.A g.A,srtL ((zCa Sn.mul f.A f.l g.A g.l).filter λp=>os.all λo=>okO (un f.A g.A) p.1 o)⟩:=by
  unfold fmul;rw[zPx Sn.add (zF4 (λs=>os.all λo=>okO (un f.A g.A) s o) hn)]
 rw[e3,<-e2];exact h
theorem sumOutF_c(hD:Okv Dm)(f:Fa Nat)(hf:Gof Dm f)(v:Nat)(hv:v∈f.A):Pure As 91 [cntD,faA f,iD (v:Nat)] [] (faA (fsum rcmp Sn v f)):=by
 have hr:=hf.r;have hv2:=hf.v;unfold rz at hr;unfold vz at hv2;have h:=sumOut_c f.A f.l v (zCw hf.ok.asc) (by omega) hf.ok.len (λp hp x hx=>(hD x (hf.ok.dom p hp x hx)).2) (Sm.of (by omega));have e1:f.A.filter (λu:Nat=>decide ((u:Int)≠(v:Int)))=less f.A v:=CA λu _=>by
  rw[B9,decide_eq_true_eq,decide_eq_true_eq];omega
 rw[zS5,e1]at h;have e2:(f.l.map λp=>(zQ p.1 (zBp (λu:Nat=>decide ((u:Int)≠(v:Int))) f.A),p.2))=zJc f.A v f.l:=by
  unfold zJc;refine BZ λp hp=>?_;rw[zFi hf.ok.asc.nd,e1];congr 1;conv=>rhs;rw[<-zK8 hf.ok.asc.nd (hf.ok.len p hp),zNx,zEn hf.ok.asc.nd]
 rw[e2,zTt]at h;exact h
end
end
section
open Go.RowKit
structure Rn where
 V:List Int
 R:List Rw
 W:List Nat
 deriving Inhabited
def chkR(n:Int)(f:Rn):Int:=chk n f.V f.R f.W.length
def errL(n:Int):List Rn->Int
 |[]=>0
 |f::fs=>if chkR n f≠0 then chkR n f else errL n fs
def covP(n:Nat)(fs:List Rn):Bool:=(Ar n).all λv=>fs.any λf=>decide ((v:Int)∈f.V)
def zFu(n:Int)(keep:Nat)(fs:List Rn):Int:=if n<0\/32<n\/keep>>>n.toNat≠0 then 3 else if errL n fs≠0 then errL n fs else if covP n.toNat fs then 0 else 22
theorem zS1{n:Int}:∀{fs:List Rn}{i:Nat},(∀j,j<i->chkR n (fs.getD j Al)=0)->i<fs.length->chkR n (fs.getD i Al)≠0->errL n fs=chkR n (fs.getD i Al)
 |[],i,_,h,_=>by simp at h
 |f::fs,0,_,_,h=>by
  have h:chkR n f≠0:=h;rw[errL,if_pos h];rfl
 |f::fs,i+1,hb,hi,h=>by
  have h0:chkR n f=0:=hb 0 (by omega);rw[errL,if_neg (by omega)];exact zS1 (fs:=fs) (i:=i) (λj hj=>hb (j+1) (by omega)) (by simpa using hi) h
theorem errL_0{n:Int}:∀{fs:List Rn},(∀j,j<fs.length->chkR n (fs.getD j Al)=0)->errL n fs=0
 |[],_=>rfl
 |f::fs,h=>by
  have h0:chkR n f=0:=h 0 (by simp);rw[errL,if_neg (by omega)];exact errL_0 (fs:=fs) λj hj=>h (j+1) (by simpa using hj)
theorem zCn{n:Int}:∀{fs:List Rn},errL n fs=0->∀f∈fs,chkR n f=0
 |[],_,f,h=>by simp at h
 | g::fs,h,f,hf=>by
  rw[errL]at h;split at h
  ·rename_i k;exact absurd h k
  rename_i k;rcases Bb.1 hf with rfl|hf
  ·omega
  exact zCn h f hf
def covM(fs:List Rn):Nat:=fs.foldl (λm f=>m|||msk (f.V.map Ax)) 0
theorem covM_bit:∀(fs:List Rn)(m v:Nat),(fs.foldl (λm f=>m|||msk (f.V.map Ax)) m).testBit v=(m.testBit v||fs.any λf=>decide (v∈f.V.map Ax))
 |[],m,v=>by simp
 |f::fs,m,v=>by rw[BQ,covM_bit fs,Nat.testBit_or,zCv,List.any_cons,Bool.or_assoc]
theorem zYj:∀(fs:List Rn)(m:Nat),m<4294967296->(∀f∈fs,∀v∈f.V.map Ax,v<32)->fs.foldl (λm f=>m|||msk (f.V.map Ax)) m<4294967296
 |[],m,h,_=>h
 |f::fs,m,h,hf=>zYj fs _ (zP1 h (zCf (hf f (BR ..)))) λg hg=>hf g (Bv _ hg)
theorem zFj{A:List Nat}{v:Nat}:((v:Int)∈intL A)↔v∈A:=by
 rw[A6];exact⟨λ⟨a,h1,h2⟩=>by
  have e:a=v:=by omega
  rw[<-e];exact h1,λh=>⟨v,h,rfl⟩⟩
theorem zB5(A:List Nat):(intL A).map Ax=A:=by
 simp[intL,Function.comp_def]
theorem covM_eq(n:Nat)(fs:List Rn)(hf:∀f∈fs,∃A:List Nat,f.V=intL A/\∀v∈A,v<n):covM fs=2^n-1↔covP n fs=true:=by
 have hb:∀v,(covM fs).testBit v=fs.any λf=>decide ((v:Int)∈f.V):=λv=>by
  unfold covM;rw[covM_bit,Nat.zero_testBit,Co,B9,CH,CH];constructor
  ·rintro⟨f,h1,h2⟩;obtain⟨A,hA,_⟩:=hf f h1;refine⟨f,h1,?_⟩;rw[hA,zB5]at h2;rw[hA];simpa[zFj]using h2
  rintro⟨f,h1,h2⟩;obtain⟨A,hA,_⟩:=hf f h1;refine⟨f,h1,?_⟩;rw[hA]at h2;rw[hA,zB5];simpa[zFj]using h2
 unfold covP;rw[Bo];constructor
 ·intro h v hv;rw[<-hb,h,C4];simpa using hv
 intro h;refine Nat.eq_of_testBit_eq λv=>?_;rw[hb,C4];by_cases hv:v<n
 ·rw[h v (by simpa using hv)];simp[hv]
 rw[decide_eq_false hv,Bool.eq_false_iff];intro k;rw[CH]at k;obtain⟨f,h1,h2⟩:=k;obtain⟨A,hA,hlt⟩:=hf f h1;rw[hA]at h2;have:v∈A:=by simpa[zFj]using h2
 exact hv (hlt v this)
end
section
open Go.RowKit
attribute [local irreducible] seqW awp zAa zAb zR Weak updS zAd retL Pure Acts rP setP setQ cP nP fr
set_option maxRecDepth 4096
abbrev rnC(f:Rn):List D:=[.row (f.V.map λz=>iD z) f.V.length, .row (f.R.map rowV) f.R.length, .row (f.W.map natD) f.W.length]
theorem zXl(f:Rn):(rnC f).length=3:=rfl
structure Rsz(f:Rn):Prop where
 v:f.V.length<=1000
 r:f.R.length<=1000
set_option maxHeartbeats 4000000 in
theorem zQ6(n keep:Nat)(fs:List Rn)(hn:n<=8)(hk:keep<4294967296)(hl:fs.length<=1000)(hs:∀f∈fs,Rsz f):Pure As 45 [iD (n:Nat),u32D keep, .row (fs.flatMap rnC) fs.length] [] (iD (zFu n keep fs)):=by
 have w1:=zG7 keep (v:=n) (by omega);have w2:=zG8 (v:=n) (by omega);have h2n:2^n<=256:=Nat.pow_le_pow_right (n:=2) (by omega) hn;have h1n:=Nat.one_le_two_pow (n:=n);have w3:((2^n:Nat):Int)-1=((2^n-1:Nat):Int):=by omega
 have w4:=zCm (n:=2^n-1) (by omega);have ewr:zFu n keep fs=if keep>>>n≠0 then 3 else if errL n fs≠0 then errL n fs else if covP n fs then 0 else 22:=by
  unfold zFu;rw[A2];by_cases h:keep>>>n≠0
  ·rw[if_pos (.inr (.inr h)),if_pos h]
  rw[if_neg (by intro k;rcases k with k|k|k<;>first|omega|exact h k),if_neg h]
 generalize keep>>>n=kk at*;refine zH Tq_ok mixed Tryz.func45 rfl ?_;focus
  refine vAu<|zB<|vA<|vw 10 [] [(2,Ac),(6,Ac)] (decide ((n:Int)<0)=Ac/\decide ((n:Int)>(32:Int))=Ac/\(0:Int)<=(n:Int))<|vs 20 (Aj<|Ak AS<|A1 (keep:Int) ((2:Int)^min (Ax (n:Int)) 32)) (dig kk) (hd:=by simp(disch:=omega) only[A2,w1])<|veT<|zAi (t:=(kk:Int)!=(0:Int)) (by kernel_rfl) (λhc=>?_)<|λhc=>?_;simp only[bne_iff_ne]at hc;refine vAe<|zG<|zE<|vre (True) (Aj<|Ak Bs 3) (.inr rfl) ?_;rotate_left;simp only[bne_eq_false_iff_eq]at hc;refine vK<|vAe<|zB<|vAe<|zF ?_;rotate_left
 ·rw[ewr,if_pos (by omega)]
 have hcu:∀i,covM (fs.take i)<4294967296\/¬∀j,j<i->chkR n (fs.getD j Al)=0:=λi=>by
  by_cases h:∀j,j<i->chkR n (fs.getD j Al)=0
  ·refine .inl (zYj (fs.take i) 0 (by omega) λf hf v hv=>?_);obtain⟨j,hj,rfl⟩:=CO.1 hf;have hj2:j<i/\j<fs.length:=by rw[CW]at hj;omega
   have:=h j hj2.1
   rw[AB,AI hj2.2,B3]at this;obtain⟨A,hA,hfit⟩:=zCl this;rw[List.getElem_take,hA,show A.map (λv:Nat=>(v:Int))=intL A from rfl,zB5]at hv
   have:=hfit.lt v hv
   omega
  exact .inr h
 refine zN (λ(i:Nat)=>fr 45 [(0,iD n),(7,u32D<|covM<|Av i fs),(23,Ai (AE rnC fs)<|Aa fs),(24,iD<|Aa fs),(25,iD i)]) (λ(i:Nat)=>[]) (λi=>fs.length-i) (λ(i:Nat)=>i<=fs.length/\∀j,j<i->chkR n (fs.getD j Al)=0) 0 ?_ ?_ ?_
 ·exact⟨by omega,λj h=>by omega⟩
 ·refine vk 0
 rintro i ⟨h1,h2⟩;have hcl:=(hcu i).resolve_right (λh=>h h2);rcases AF i fs.length with h3|h3
 ·have hm:=zAx fs Al i h3;have hg2:=zDg zXl fs i h3;have hle:=zFp zXl fs i h3;have hne:=zEi zXl (by decide) fs;have hsz:=hs _ hm;have hat:=zS1 h2 h3;have htk:covM (fs.take (i+1))=covM (fs.take i)|||msk ((fs.getD i Al).V.map Ax):=by
   rw[zBm fs i h3];unfold covM;rw[Cr];rfl
  generalize hff:fs.getD i Al=f at*;obtain⟨V,R,W⟩:=f;have hch:=check_c n V R W (by have:=hsz.v;simp only at this;omega) (by have:=hsz.r;simp only at this;omega);by_cases e0:chk n V R W.length=0
  ·obtain⟨A,hA,hfit⟩:=zCl e0;have hA:V=intL A:=hA;subst hA;rw[e0]at hch;have eA:(intL A).map (λz=>iD z)=nsD A:=by simp[intL]
   have eL:(intL A).length=A.length:=by simp
   have hv32:∀v∈A,v<32:=λv hv=>by have:=hfit.lt v hv;omega
   have nA:A.length<=1000:=by have:=hsz.v;simp only[eL]at this;exact this
   have sA:=zQu A _ rfl nA hv32 (R.map rowV) (W.map natD) R.length W.length;rw[zB5]at htk;have w5:=zWs hcl (zCf hv32);have w6:=zCm (zP1 hcl (zCf hv32));simp only[rnC,eA,eL]at hg2;simp only[fcR,eA,eL]at hch;refine vAu<|zB<|vT ((i:Int)<↑(Aa fs))<|vKB<|vA<|vr 2 (ix ↑i ↑(Aa fs) (AE rnC fs≠[])/\3<=Aa (Ag (i*3)<|AE rnC fs))<|vs 28 (Ay<|Av 3<|Ag (i*3)<|AE rnC fs) (Ay [Ai (nsD A)<|Aa A,Ai (Ad rowV R)<|Aa R,Ai (Ad natD W)<|Aa W]) (hd:=by simp(disch:=omega) only[hg2])<|ve (Ac=Ac/\Ab=Ab/\3=3/\3<=3)<|zB<|vA<|vr 2 (3<=3)<|vc hch<|veT<|vAe<|vf<|vK<|zA rfl<|vr 2 (3<=3)<|vc sA<|vrT 1<|vs 38 (Aj<|Ak AS<|A4 AS (↑(A0 (Az 32 (↑(covM<|Av i fs):Int)|||Az 32 (↑(msk A):Int))):Int)) (dig (covM (Av i fs)|||msk A)) (hd:=by simp(disch:=omega) only[w6,w5])<|vrT 1<|vnil<|zD<|vN<|zA rfl<|vr 2 (i6 (↑i+1))<|vnil<|zC<|⟨i+1,⟨by omega,λj hj=>?_⟩,by omega,?_⟩
   ·rcases AF j i with h|h
    ·exact h2 j h
    obtain rfl:j=i:=by omega
    rw[hff];exact e0
   rw[htk];refine vk 0
  have hat':=hat e0;have hat2:errL n fs=chk n V R W.length:=hat';generalize chk n V R W.length=e at*;refine vAu<|zB<|vT ((i:Int)<↑(Aa fs))<|vKB<|vA<|vr 2 (ix ↑i ↑(Aa fs) (AE rnC fs≠[])/\3<=Aa (Ag (i*3)<|AE rnC fs))<|vs 28 (Ay<|Av 3<|Ag (i*3)<|AE rnC fs) (Ay<|rnC<|Rn.mk V R W) (hd:=by simp(disch:=omega) only[hg2])<|ve (Ac=Ac/\Ab=Ab/\3=3/\3<=3)<|zB<|vA<|vr 2 (3<=3)<|vc hch<|veT<|vAe<|zFm (t:=e !=(0:Int)) (by kernel_rfl) (by simpa using by omega)<|vAe<|zG<|zE<|zJ<|zE<|zE<|zJ<|zE<|vre (True) (Aj<|Ak Bs e) (.inr rfl) ?_;rw[ewr,if_neg (by omega),if_pos (by omega),hat2]
 rw[AT h3]at hcl⊢;have h0:=errL_0 λj hj=>h2 j (by omega);have hce:=covM_eq n fs λf hf=>by
  obtain⟨A,hA,hfit⟩:=zCl (zCn h0 f hf);exact⟨A,hA,λv hv=>by have:=hfit.lt v hv;omega⟩
 focus
  refine vAu<|zB<|vF ((i:Int)<↑(Aa fs))<|vZ2<|zB<|vA<|vr 3 ((0:Int)<=(n:Int))<|vs 42 (Aj<|Ak AS<|A4 AS ((1:Int)*(2:Int)^min (Ax (n:Int)) 32)) (dig ((2:Nat)^n)) (hd:=by simp(disch:=omega) only[A2,w2])<|vr 1 (u3 ((↑((2:Nat)^n):Int)-(1:Int)))<|vs 43 (Aj<|Ak AS ((↑((2:Nat)^n):Int)-(1:Int))) (dig ((2:Nat)^n-1)) (hd:=by simp(disch:=omega) only[w3])<|veT<|zAi (t:=(↑(covM fs):Int)!=(↑((2:Nat)^n-1):Int)) (by kernel_rfl) (λhc=>?_)<|λhc=>?_;simp only[bne_iff_ne]at hc;refine vAe<|zG<|zE<|vre (True) (Aj<|Ak Bs 22) (.inr rfl) ?_;rotate_left;simp only[bne_eq_false_iff_eq]at hc;refine vK<|vAe<|zG<|vre (True) (q2_) (.inr rfl) ?_;rotate_left
 ·rw[ewr,if_neg (by omega),if_neg (by omega),if_neg (λh=>by have:=hce.2 h;omega)]
 rw[ewr,if_neg (by omega),if_neg (by omega),if_pos (hce.1 (by omega))]
theorem bl_iff:∀a b:List UInt8,Op.bytesLess a b=decide (Cc a b=-1)
  |[],[]=>rfl
  |[],_::_=>by simp[Op.bytesLess,Cc]
  |_::_,[]=>by simp[Op.bytesLess,Cc]
  | x ::a,y::b=>by
    have ih:=bl_iff a b;unfold Op.bytesLess Cc;by_cases h1:x<y
    ·simp[h1]
    · by_cases h2:y<x
      · have:¬x=y:=λe=>h1 (e▸h2)
        simp[h1,h2,this]
      · have e:x=y:=UInt8.le_antisymm (UInt8.not_lt.1 h2) (UInt8.not_lt.1 h1)
        simp[h1,h2,e,ih]
def Tl:Par:=⟨λ_=>Ac,λ_ _=>AM,λ_=>Ac,λ_=>Ac,λ_=>Ac⟩
theorem zDt:zBi As Tl:=by intro t n f h;cases h
theorem rcv_c (a b:Va):Pure As 98 [vaD a,vaD b] [] (iD (vcmp a b)):=by
  refine zH zDt mixed Tryz.func98 rfl ?_;focus
    refine vAu<|zB<|vA<|vr 3 (3<=3/\3<=3/\True)<|vs 7 (bD (Aw a==Aw b&&(AC a==AC b&&(CK (bs<|AA a)==CK (bs<|AA b)&&Ab)))) (bD (Aw a==Aw b&&(AC a==AC b&&AA a==AA b))) (hd:=by simp(disch:=omega) only[zKq,Bool.and_true])<|veT<|zAi (t:=Aw a==Aw b&&(AC a==AC b&&AA a==AA b)) (by kernel_rfl) (λhc=>?_)<|λhc=>?_;simp only[decide_eq_true_eq,decide_eq_false_iff_not,beq_iff_eq,bne_iff_ne,beq_eq_false_iff_ne,Bp,Cj,Cz,CV,ne_eq,Decidable.not_not,Int.not_lt,Int.not_le,ge_iff_le,gt_iff_lt,bne_eq_false_iff_eq]at hc;refine vAe<|zG<|zE<|vre (True) (q2_) (.inr rfl) ?_;rotate_left;refine vK<|zB<|vA<|vr 6 (True/\0<3/\True/\0<3)<|vspD 13 (Aw a<Aw b) (λhc=>?_)<|λhc=>?_;refine veT<|vt<|vAe<|zG<|zE<|vre (True) (q0_) (.inr rfl) ?_;rotate_left;refine vr 6 (True/\0<3/\True/\0<3/\True)<|vsp 19 (Aw a==Aw b) (λhc=>?_)<|λhc=>?_;simp only[beq_iff_eq]at hc;refine vr 6 (True/\0<2/\True/\0<2)<|vspD 25 (AC a<AC b) (λhc=>?_)<|λhc=>?_;refine veT<|vt<|vAe<|zG<|zE<|vre (True) (q0_) (.inr rfl) ?_;rotate_left;refine vr 6 (True/\0<2/\True/\0<2/\True)<|vsp 31 (AC a==AC b) (λhc=>?_)<|λhc=>?_;simp only[beq_iff_eq]at hc;refine vr 5 (True/\0<1/\True/\0<1)<|vs 36 (bD<|Op.bytesLess (CK<|bs<|AA a)<|CK<|bs<|AA b) (bD<|decide (Cc (AA a) (AA b)=(-1:Int))) (hd:=by simp(disch:=omega) only[zKq,bl_iff,Int.reduceNeg])<|veT<|vcD (Cc (AA a) (AA b)=(-1:Int)) (λhc=>?_)<|λhc=>?_;refine vAe<|zG<|zE<|vre (True) (q0_) (.inr rfl) ?_;rotate_left;refine vK<|vAe<|zG<|vre (True) (q1_) (.inr rfl) ?_;rotate_left;simp only[beq_eq_false_iff_ne]at hc;refine veT<|vf<|vK<|vAe<|zG<|vre (True) (q1_) (.inr rfl) ?_;rotate_left;simp only[beq_eq_false_iff_ne]at hc;refine veT<|vf<|vK<|vAe<|zG<|vre (True) (q1_) (.inr rfl) ?_;rotate_left
  all_goals
    have e1:=(zJp a.str b.str).1;have e2:=(zJp a.str b.str).2.1;have e3:=zD6 a.kind b.kind;have e4:=zD6 a.int b.int;refine congrArg (λz=>iD z) ?_;unfold vcmp;split
    ·omega
    · first
      |omega
      | (split
         ·omega
         · by_cases hs:a.str=b.str
           · have:=e2.2 hs
             first
               |omega
               |(exfalso;simp_all)
           · have:Cc a.str b.str≠0:=λh=>hs (e2.1 h)
             first
               |omega
               |(exfalso;simp_all))
set_option maxHeartbeats 2000000 in
theorem rless_c(a b:Rw)(n m:Nat)(hn:a.length=n)(hm:b.length=m)(ln:n<=1000000000)(lm:m<=1000000000):Pure As 51 [.row (zL a) n, .row (zL b) m] [] (bD (decide (rcmp a b<0))):=by
  subst hn hm;refine zH zDt mixed Tryz.func51 rfl<|vAu<|zB<|vAe<|zF<|zN (λ(i:Nat)=>fr 37 [(0,Ai (zL a)<|Aa a),(1,Ai (zL b)<|Aa b),(5,iD (i:Int))]) (λ_=>[]) (λi=>a.length-i) (λi=>i<=a.length/\i<=b.length/\a.take i=b.take i) 0 ?_ ?_ ?_
  ·exact⟨by omega,by omega,by simp⟩
  ·refine vk 0
  rintro i ⟨h1,h2,h3⟩;have hv:=(zBl (a.getD i Al) (b.getD i Al)).1;focus
    refine zB<|vAs<|vrT 5<|vspD 11 ((i:Int)<↑(Aa a)) (λhc=>?_)<|λhc=>?_;refine veT<|vcD ((i:Int)<↑(Aa b)) (λhc=>?_)<|λhc=>?_;refine vKB<|zB<|vd [0,1,2,4,5,6,3,7,8,9]<|vr 7 (ix ↑i ↑(Aa a) (zL a≠[])/\ix ↑i ↑(Aa b) (zL b≠[])/\3<=Aa (Ag (i*3)<|zL a)) (vs 22 (Ay<|Av 3<|Ag (i*3)<|zL a) (Ay<|vaC<|Ap a i Al) (hd:=by simp(disch:=omega) only[zCu])<|vr 1 (3<=Aa (Ag (i*3)<|zL b)) (vs 26 (Ay<|Av 3<|Ag (i*3)<|zL b) (Ay<|vaC<|Ap b i Al) (hd:=by simp(disch:=omega) only[zCu])<|vca [Ay [iD<|Aw<|Ap a i Al,iD<|AC<|Ap a i Al,Aj<|AN<|bs<|AA<|Ap a i Al],Ay [iD<|Aw<|Ap b i Al,iD<|AC<|Ap b i Al,Aj<|AN<|bs<|AA<|Ap b i Al]] (by exact rcv_c _ _)<|veT<|zB ?_) (by exact zEa _ _)) ⟨⟨(by omega),⟨(by omega),(by exact zFv _)⟩⟩,⟨(by omega),⟨(by omega),(by exact zFv _)⟩⟩,(by exact zEa _ _)⟩;refine zA rfl<|veT<|zAi (t:=vcmp (Ap a i Al) (Ap b i Al)!=(0:Int)) (by kernel_rfl) (λhc=>?_)<|λhc=>?_;simp only[bne_iff_ne]at hc;refine vAe<|zG<|zJ<|zE<|zE<|zJ<|zE<|vre (True) (Aj<|BV<|decide (vcmp (Ap a i Al) (Ap b i Al)<0)) (.inr rfl) ?_;rotate_left;simp only[bne_eq_false_iff_eq]at hc;refine zM<|zD<|vN<|zA rfl<|vr 3 (i6 (↑i+1))<|vnil<|zC ?_;rotate_left;refine vZ2<|vAe<|zG<|vre (True) (Aj<|BV<|decide ((Aa a:Int)<(Aa b:Int))) (.inr rfl) ?_;rotate_left;refine veT<|vf<|vZ2<|vAe<|zG<|vre (True) (Aj<|BV<|decide ((Aa a:Int)<(Aa b:Int))) (.inr rfl) ?_;rotate_left
  ·rw[rcmp_at i a b (by omega) (by omega) h3 hc]
  · refine⟨i+1,⟨by omega,by omega,zLv i a b (by omega) (by omega) h3 hc⟩,by omega,?_⟩
    refine vk 0
  all_goals
    rw[<-zNg a b,zZ0 a b i [] (by omega) (by omega) h3 (by omega)];refine congrArg bD ?_;rw[B9,decide_eq_true_eq,decide_eq_true_eq];split
    ·omega
    split<;>omega
theorem rsame_c(a:Rw)(n:Nat)(hn:a.length=n)(ln:n<=1000000000):Pure As 50 [.row (zL a) n, .row (zL a) n] [] (bD Ab):=by
  have h:=rless_c a a n n hn hn ln ln;have e:decide (rcmp a a<0)=false:=by simp[(zDz a a).2.1.2 rfl]
  rw[e]at h;refine zH zDt mixed Tryz.func50 rfl<|vAu<|vA<|vrT 2<|vc (h)<|vrT 4<|vc (h)<|veT<|zG<|vret (True)<|.inr rfl
theorem rindex_c(V:List Int)(n:Nat)(v:Int)(hn:V.length=n)(ln:n<=1000000000):Pure As 52 [.row (V.map iD) n,iD v] [] (iD (ixI V v)):=by
  subst hn;refine zH zDt mixed Tryz.func52 rfl<|vAu<|zB<|vAe<|zF<|zN (λ(i:Nat)=>fr 19 [(0,Ai (Ad iD V)<|Aa V),(1,iD v),(5,iD (i:Int))]) (λ_=>[]) (λi=>V.length-i) (λi=>i<=V.length/\∀j,j<i->V.getD j 0≠v) 0 ?_ ?_ ?_
  ·exact⟨by omega,λj h=>by omega⟩
  ·refine vk 0
  rintro i ⟨h1,h2⟩;rcases AF i V.length with h3|h3
  · have hne:V.map iD≠[]:=zW
    have hx:=zB0 V i h3;focus
      refine zB<|vAu<|vT ((i:Int)<↑(Aa V))<|vKB<|vA<|vr 3 (ix ↑i ↑(Aa V) (Ad iD V≠[]))<|vp 14 i (Ad iD V)<|vr 1 (0<Aa (Ag i<|Ad iD V))<|vsh 15 hx<|veT<|zAi (t:=Ap V i (0:Int)==v) (by kernel_rfl) (λhc=>?_)<|λhc=>?_;simp only[beq_iff_eq]at hc;refine vAe<|zG<|zJ<|zE<|zE<|zJ<|zE<|vre (True) (Aj<|Ak Bs (i:Int)) (.inr rfl) ?_;rotate_left;simp only[beq_eq_false_iff_ne]at hc;refine zM<|zD<|vN<|zA rfl<|vr 3 (i6 (↑i+1))<|vnil<|zC ?_;rotate_left
    ·rw[ixI_yes h3 hc h2]
    · refine⟨i+1,⟨by omega,λj hj=>?_⟩,by omega,?_⟩
      · rcases AF j i with h|h
        ·exact h2 j h
        · obtain rfl:j=i:=by omega
          exact hc
      refine vk 0
  · refine zB<|vAu<|vF ((↑i:Int)<(↑(Aa V):Int))<|vZ2<|vAe<|zG<|vre (True) (Aj<|Ak Bs (-1:Int)) (.inr rfl) ?_
    rw[ixI_no λj hj=>h2 j (by omega)]
abbrev isD(l:List (Rw×Nat)):List D:=nsD (l.map (·.2))
abbrev rfC(A:List Nat)(l:List (Rw×Nat)):List D:=[.row (nsD A) A.length, .row (rwsD l) l.length, .row (isD l) l.length]
abbrev rfD(A:List Nat)(l:List (Rw×Nat)):D:= .agg (rfC A l)
abbrev rB(a b c:D):Bk:=⟨[a,b,c],42,0,Ac,Ac, .plain⟩
theorem getD_fst'(l:List (Rw×Nat)){k:Nat}(h:k<l.length):(l.map (·.1)).getD k []=(l.getD k Al).1:=by simp[AB,h]
theorem zV2(l:List (Rw×Nat)){k:Nat}(h:k<l.length):(l.map (·.2)).getD k 0=(l.getD k Al).2:=by simp[AB,h]
theorem headD_rw(l:List (Rw×Nat)){k:Nat}(h:k<l.length):((rwsD l).drop k).headD .unk=rowV (l.getD k Al).1:=by
 rw[<-getD_fst' l h];exact zAh (l.map (·.1)) k (by simpa using h)
theorem headD_is(l:List (Rw×Nat)){k:Nat}(h:k<l.length):((isD l).drop k).headD .unk=iD ((l.getD k Al).2:Nat):=by
 rw[<-zV2 l h];exact zA6 (l.map (·.2)) k (by simpa using h)
abbrev rfAc(f:Fa Nat):List D:=rfC f.A f.l
section
variable {Dm : List Va}
theorem refP_z{α:Type}{c:Rw->Rw->Int}{S:Sr α}{z:Fa α->Nat}(h1:∀f g os,z (fmul c S f g os)<=z f*z g):∀(fs:List (Fa α))(p:Fa α),z (refP c S p fs)<=z p*pz z fs
 |[],p=>by simp[refP,pz]
 |f::fs,p=>by
  have h2:=refP_z h1 fs (fmul c S p f []);rw[zCi,<-Cm];exact AV h2 (B6 _ (h1 p f []))
theorem refS_z{α:Type}{c:Rw->Rw->Int}{S:Sr α}{z:Fa α->Nat}(h2:∀v f,z (fsum c S v f)<=z f):∀(vs:List Nat)(f:Fa α),z (refS c S f vs)<=z f
 |[],f=>Ba _
 |v::vs,f=>AV (refS_z h2 vs (fsum c S v f)) (h2 v f)
end
end
section
open Go.RowKit
attribute [local irreducible] seqW awp zAa zAb zR Weak updS zAd retL Pure Acts rP setP setQ cP nP fr
set_option maxRecDepth 100000
theorem u8_rng(x:Int):0<=Au.wrap x/\Au.wrap x<256:=by
 unfold A4;have h:(2:Int)^Au.bits=256:=by decide
 rw[h];simp only[IntKind.signed];have h1:=Int.emod_nonneg x (b:=256) (by decide);have h2:=Int.emod_lt_of_pos x (b:=256) (by decide);simp;omega
theorem and255(b:BitVec 32):(0:Int)<=((b&&&Az 32 255).toNat:Nat)/\(((b&&&Az 32 255).toNat:Nat):Int)<((256:Nat):Int):=by
 have h:(b&&&Az 32 255).toNat<=255:=by
  rw[BitVec.toNat_and];exact AV Nat.and_le_right (by decide)
 omega
theorem shr24(m:Nat)(hm:m<4294967296):0<=A1 (m:Int) (2^24)/\A1 (m:Int) (2^24)<((256:Nat):Int):=by
 have h:=u32_shr m (v:=24) (by omega);rw[show(min ((24:Nat):Int).toNat 32)=24 by decide]at h;rw[h,Nat.shiftRight_eq_div_pow];have:m/2^24<256:=Nat.div_lt_of_lt_mul (by omega);omega
def popT:List UInt8:=[0,1,1,2,1,2,2,3,1,2,2,3,2,3,3,4,1,2,2,3,2,3,3,4,2,3,3,4,3,4,4,5,1,2,2,3,2,3,3,4,2,3,3,4,3,4,4,5,2,3,3,4,3,4,4,5,3,4,4,5,4,5,5,6,1,2,2,3,2,3,3,4,2,3,3,4,3,4,4,5,2,3,3,4,3,4,4,5,3,4,4,5,4,5,5,6,2,3,3,4,3,4,4,5,3,4,4,5,4,5,5,6,3,4,4,5,4,5,5,6,4,5,5,6,5,6,6,7,1,2,2,3,2,3,3,4,2,3,3,4,3,4,4,5,2,3,3,4,3,4,4,5,3,4,4,5,4,5,5,6,2,3,3,4,3,4,4,5,3,4,4,5,4,5,5,6,3,4,4,5,4,5,5,6,4,5,5,6,5,6,6,7,2,3,3,4,3,4,4,5,3,4,4,5,4,5,5,6,3,4,4,5,4,5,5,6,4,5,5,6,5,6,6,7,3,4,4,5,4,5,5,6,4,5,5,6,5,6,6,7,4,5,5,6,5,6,6,7,5,6,6,7,6,7,7,8]
def popB(i:Nat):Int:=((popT.toArray.getD i 0).toNat:Int)
theorem popW_c(m:Nat)(hm:m<4294967296):Pure As 89 [u32D m] [] (iD (Bs.wrap (Au.wrap (Au.wrap (Au.wrap (popB (A1 (m:Int) (2^24)).toNat+popB (Az 32 (A1 (m:Int) (2^16))&&&Az 32 255).toNat)+popB (Az 32 (A1 (m:Int) (2^8))&&&Az 32 255).toNat)+popB (Az 32 (m:Int)&&&Az 32 255).toNat)))):=by
 have h1:=shr24 m hm;have h2:=and255 (Az 32 (A1 (m:Int) (2^16)));have h3:=and255 (Az 32 (A1 (m:Int) (2^8)));have h4:=and255 (Az 32 (m:Int));refine zH zDt mixed Tryz.func89 rfl<|vAu<|zB<|vd [0,1,2,3,4,5,6,7,8,9,10,11,12,13,14,15,16,17,18]<|vr 6 ((0:Int)<=(24:Int)/\((0:Int)<=A1 (m:Int) ((2:Int)^24)/\A1 (m:Int) ((2:Int)^24)<(↑(256:Nat):Int))/\(0:Int)<=(16:Int)/\True)<|vs 8 (Aj<|Ak AS<|A4 AS (↑(A0 (Az 32 (A1 (m:Int) ((2:Int)^16))&&&Az 32 (255:Int))):Int)) (dig<|A0 (Az 32 (A1 (m:Int) ((2:Int)^16))&&&Az 32 (255:Int))) (hd:=by simp(disch:=omega) only[zBx])<|vw 5 [10] [] (((0:Int)<=(↑(A0 (Az 32 (A1 (m:Int) ((2:Int)^16))&&&Az 32 (255:Int))):Int)/\(↑(A0 (Az 32 (A1 (m:Int) ((2:Int)^16))&&&Az 32 (255:Int))):Int)<(↑(256:Nat):Int))/\True/\(0:Int)<=(8:Int)/\True)<|vs 13 (Aj<|Ak AS<|A4 AS (↑(A0 (Az 32 (A1 (m:Int) ((2:Int)^8))&&&Az 32 (255:Int))):Int)) (dig<|A0 (Az 32 (A1 (m:Int) ((2:Int)^8))&&&Az 32 (255:Int))) (hd:=by simp(disch:=omega) only[zBx])<|vw 4 [15] [] (((0:Int)<=(↑(A0 (Az 32 (A1 (m:Int) ((2:Int)^8))&&&Az 32 (255:Int))):Int)/\(↑(A0 (Az 32 (A1 (m:Int) ((2:Int)^8))&&&Az 32 (255:Int))):Int)<(↑(256:Nat):Int))/\True/\True)<|vs 17 (Aj<|Ak AS<|A4 AS (↑(A0 (Az 32 (m:Int)&&&Az 32 (255:Int))):Int)) (dig<|A0 (Az 32 (m:Int)&&&Az 32 (255:Int))) (hd:=by simp(disch:=omega) only[zBx])<|vew [19,20] [] (((0:Int)<=(↑(A0 (Az 32 (m:Int)&&&Az 32 (255:Int))):Int)/\(↑(A0 (Az 32 (m:Int)&&&Az 32 (255:Int))):Int)<(↑(256:Nat):Int))/\True/\True)<|zG<|vret (True)<|.inr rfl
theorem popc_c(m:Nat)(hm:m<4294967296):∃k:Nat,Pure As 89 [u32D m] [] (iD (k:Nat)):=by
 have h:=popW_c m hm;generalize Au.wrap (popB (A1 (m:Int) (2^24)).toNat+popB (Az 32 (A1 (m:Int) (2^16))&&&Az 32 255).toNat)+popB (Az 32 (A1 (m:Int) (2^8))&&&Az 32 255).toNat=a at h;have r:=u8_rng (Au.wrap a+popB (Az 32 (m:Int)&&&Az 32 255).toNat);generalize Au.wrap (Au.wrap a+popB (Az 32 (m:Int)&&&Az 32 255).toNat)=b at h r;rw[zDu (k:= .i64) (by simp only[inK];omega)]at h;refine⟨b.toNat,?_⟩;rw[Int.toNat_of_nonneg r.1];exact h
noncomputable def popN (m:Nat):Nat:=if hm:m<4294967296 then Classical.choose (popc_c m hm)else 0
theorem popN_c(m:Nat)(hm:m<4294967296):Pure As 89 [u32D m] [] (iD (popN m:Nat)):=by
 unfold popN;rw[dif_pos hm];exact Classical.choose_spec (popc_c m hm)
end
end Go.Proofs.YtmfamhoopjeaiaaGreatDoor
