/- Texts of this claim, joined: Drs FuqP Drc Fr Drb FlP Tob Dro Drp FclP EbP Dip TrP Dit Diu SkP Dsk Dts TsP LfP LeP LhP LiP LjP Jl Jm LkP Dme Tly TaP Dta Tlz -/
import Derived.Test.YtjcofbkhoeockaaGreatDoorO02
import Derived.Test.YtjcofbkhoeockaaGreatDoorProg
set_option linter.unusedVariables false
set_option linter.unusedSimpArgs false
namespace Go.Proofs.YtjcofbkhoeockaaGreatDoor
open _root_.List renaming length->Aa,map->Ag,drop->Ah,take->Ay,getD->AC,length_append->AD,range->AE,replicate->AH,headD->AO,range'->AP,length_set->AQ,length_cons->AS,take_of_length_le->AT,set->AU,flatMap->AV,drop_zero->AY,mem_range->AZ,ext_getElem?->A0,length_map->A3,foldl_cons->A5,flatMap_cons->A7,getD_eq_getElem?_getD->A8,cons_append->A9,append_assoc->Bc,pairwise_cons->Bh,mem_cons->Bi,getElem?_set_self->Bj,getElem?_set_ne->Bl,length_nil->Bm,nil_append->Bn,range'_succ->Bo,length_replicate->Bp,getElem?_eq_none->Bq,mem_append->Bs,all_eq_true->Bt,mem_singleton->Bz,getElem?_eq_getElem->BD,take_left'->BE,take_succ_eq_append_getElem->BM,length_take->BN,getElem?_cons_zero->BO,map_cons->BP,range'_append_1->BR,mem_cons_of_mem->BS,replicate_succ->BV,set_append->BW,append_nil->BY,getElem?_eq_some_iff->BZ,map_append->B3,filter_append->B5,length_drop->B6,nodup_cons->B7,flatMap_append->B8,length_filter_le->B9,getElem?_map->Ce,getElem?_set->Cf,drop_eq_getElem_cons->Cg,eq_nil_of_length_eq_zero->Ch,getElem?_append_right->Ci,append_cancel_left_eq->Ck
open _root_.Bool renaming true->Ab,false->Ad,or_false->A1,not_eq_true'->Bv,and_eq_true->BG,or_eq_true->BH,true_and->BK,false_ne_true->BL,false_or->Cb
open _root_.Inhabited renaming default->Ae
open D renaming own->Af,osl->Ai,val->Aj,agg->An,row->AA,clo->AF
open Bk renaming mk->Ak,cells->Ap,fz->AW,kd->AX
open _root_.Option renaming some->Al,none->AG,some->Ba,map_some->BT
open _root_.Go.Proofs.Tryz renaming prog->Am,func91->BQ
open Kd renaming plain->Ao,sh->A2,isMap->BC
open Value renaming string->Aq,bool->AL,int->AN
open Va renaming kind->Ar,int->As,str->Au
open _root_.Nat renaming le_refl->Aw,lt_or_ge->AB,le->AJ,mul_one->AM,le_trans->AR,zero_add->A6,add_sub_cancel->A_,succ_mul->Bb,lt_of_lt_of_le->Br,mod_lt->Bw,mul_le_mul_right->Bx,le_succ->By,le_of_lt->BB,sub_self->BF,eq_zero_or_pos->BU,min_eq_left->BX,div_lt_self->Cc,div_add_mod->Cd,add_mul_mod_self_left->Cj
open _root_.Int renaming toNat->Ax,toNat_natCast->AI,tdiv->Bf
open LeL renaming refl->Az
open IntKind renaming i64->AK
open _root_.BitVec renaming ofInt->A4,toNat->B_
open Lib renaming bitLen->BA
open _root_.Prod renaming fst->BI,snd->BJ
section
open Go.RowKit
attribute [local irreducible] seqW awp zAf zAn zAd Weak updS zAx retL Pure Acts rP setP setQ cP nP fr
set_option maxRecDepth 4096
abbrev rwB(l:List D):Bk:=⟨l,54,1,Ab,Ad, .plain⟩
def Tr:Par:=⟨λf=>f==124||f==138||f==123||f==125,λ_ _=>AG,λk=>decide (k<1),λ_=>Ad,λ_=>Ad⟩
theorem Tr_ok:zA7 Am Tr:=by intro t n f h;cases h
theorem keepR{st:List Bk}(h:st.length=1):∀k,k<st.length->Tr.keep k=true:=λk hk=>by
 show decide (k<1)=Ab;rw[decide_eq_true_eq];omega
theorem zH8:∀k,1<=k->Tr.keep k=false:=λk hk=>by
 show decide (k<1)=Ad;rw[decide_eq_false_iff_not];omega
theorem blenR_c(n:Nat)(hn:n<18446744073709551616):Pure Am 139 [.val (.int .u64 n)] [] (.val (.int .i64 (BA n))):=
 zG7 (us:=[.int .u64 n]) (λw=>(Tryz.bits_Len n w (by omega) (by omega)).mono λe w' h=>⟨by rw[h.1];simp,h.2.symm⟩)
theorem zB1(l:List (List Va))(k:Nat)(h:k<l.length):((l.map rowV).drop k).headD .unk=rowV (l.getD k []):=zBf rowV l [] k h
def zTh(R:List Rw)(j:Nat):Bool:=decide (j=0)||!decide (rcmp (R.getD j []) (R.getD (j-1) [])<0)
def srtB(R:List Rw):Bool:=(AE R.length).all (zTh R)
abbrev cmpF:D:= .clo (.func 120) [] []
set_option maxHeartbeats 1000000 in
theorem zN3(rows:List Rw)(n:Nat)(hn:rows.length=n)(hb:n<=2000000)(hl:∀r∈rows,r.length<=2000000):Acts Am 123 [.osl 0 0 n n Ab,cmpF] [rwB (rows.map rowV)] [] (bD (srtB rows)) [rwB (rows.map rowV)]:=by
 subst hn;refine zN Tr_ok mixed Tryz.func123 rfl (keepR rfl) ?_;focus
  refine vAu<|zA<|vA<|ve (i6 (↑(Aa rows)-1))<|zH ?_;rotate_left
 refine zK (λ(k:Nat)=>fr 25 [(0,Ai 0 0 (Aa rows) (Aa rows) Ab),(1,cmpF),(5,iD (↑k-1))]) (λ(k:Nat)=>[rwB<|rows.map rowV]) (λ(k:Nat)=>k) (λ(k:Nat)=>k<=rows.length/\∀j,k<=j->j<rows.length->zTh rows j=Ab) rows.length ?_ ?_ ?_
 ·grind
 ·refine vk 1 ?_;exact zH8
 rintro k ⟨h1,h2⟩;rcases AB 1 k with h3|h3
 ·obtain⟨m,rfl⟩:∃m,k=m+2:=⟨k-2,by omega⟩;have hx:=zB1 rows (m+1) (by omega);have hy:=zB1 rows m (by omega);have e1:((m+2:Nat):Int)-1=((m+1:Nat):Int):=by omega
  have e2:((m+1:Nat):Int)-1=(m:Int):=by omega
  have l1:=hl _ (zCp rows [] (m+1) (by omega));have l2:=hl _ (zCp rows [] m (by omega));have hw:zTh rows (m+1)=!decide (rcmp (rows.getD (m+1) []) (rows.getD m [])<0):=by simp[zTh]
  have hno:zTh rows (m+1)=Ad->srtB rows=false:=λh=>rng_no (by omega) h;generalize rows.getD (m+1) []=r at*;generalize rows.getD m []=s at*;have hcm:=zJo r s _ _ rfl rfl (by omega) (by omega);focus
   refine zA<|vAs<|vrT 1<|vs 9 (iD (↑(m+2)-1)) (iD ↑(m+1)) (by simp(disch:=omega) only[e1])<|veT<|vT ((↑(m+1):Int)>(0:Int))<|vKB<|zA ?_;refine vd [0,1,2,3,5,6,7,8,4,9,10,11]<|vrT 3<|vs 15 (iD (↑(m+2)-1)) (iD ↑(m+1)) (by simp(disch:=omega) only[e1])<|vr 1 ((0:Int)<=(↑(m+1):Int)/\(↑(m+1):Int)<(Aa rows:Int))<|vo 16 0 (m+1)<|vrT 2<|vs 19 (iD (↑(m+2)-1)) (iD ↑(m+1)) (by simp(disch:=omega) only[e1])<|vr 1 (i6 (↑(m+1)-1))<|vs 20 (iD (↑(m+1)-1)) (iD m) (by simp(disch:=omega) only[e2])<|vr 1 ((0:Int)<=(m:Int)/\(m:Int)<↑(Aa rows))<|vo 21 0 m<|vr 1 (0<Aa (Ah (m+1)<|Ap<|rwB<|Ag rowV rows))<|vsh 17 hx<|vr 1 (0<Aa (Ah m<|Ap<|rwB<|Ag rowV rows)) ?_;refine vsh 22 hy<|vc hcm<|veT ?_;refine zAa (t:=decide (rcmp r s<0)) (by kernel_rfl) (λhc=>?_)<|λhc=>?_;simp only[decide_eq_true_eq]at hc;refine vAe<|zE<|zL<|zG<|zG<|zL<|zG ?_;refine zM (True) [Aj<|AL Ad] (.inr rfl) ?_;rotate_left;simp only[decide_eq_false_iff_not]at hc;refine zQ<|zD<|vN<|zB rfl<|vrT 1<|vs 11 (iD (↑(m+2)-1)) (iD ↑(m+1)) (by simp(disch:=omega) only[e1])<|vr 1 (i6 (↑(m+1)-1))<|vs 12 (iD (↑(m+1)-1)) (iD m) (by simp(disch:=omega) only[e2])<|vrT 1<|vnil<|zC ?_;rotate_left
  ·rw[hno (by rw[hw];simpa using hc)];exact⟨by kernel_rfl,by kernel_rfl⟩
  refine⟨m+1,⟨by omega,λj j1 j2=>?_⟩,by omega,?_⟩
  ·grind
  refine wk 5 (iD (↑m:Int)) (iD ((↑(m+1):Int)-(1:Int))) (by simp) (vk 1 ?_);exact zH8
 have hy:srtB rows=true:=rng_yes λj hj=>by
  rcases BU j with h|h
  ·subst h;rfl
  exact h2 j (by omega) hj
 rw[hy];focus
  refine zA<|vAu<|vF ((k:Int)-(1:Int)>(0:Int))<|vZ2<|vA ?_;refine veT<|zE ?_;refine zM (True) [Aj<|AL Ab] (.inr rfl) ?_;rotate_left
 exact⟨by kernel_rfl,by kernel_rfl⟩
set_option maxHeartbeats 1000000 in
theorem sortR_a(rows:List Rw)(n:Nat)(hn:rows.length=n)(hb:n<=2000000)(hpos:0<n)(hl:∀r∈rows,r.length<=2000000):Acts Am 124 [.osl 0 0 n n Ab,cmpF] [rwB (rows.map rowV)] [] (.tup []) [rwB ((zNc rows).map rowV)]:=by
 have hlim:BA n<4611686018427387904:=Nat.lt_of_le_of_lt (Lib.bitLen_le n 62 (by omega) (by omega)) (by omega);have hp:=pdq_rows (st:=[rwB (rows.map rowV)]) (k:=0) (lim:=BA n) (wh:=Ab) (g:=120) (caps:=[]) (caps':=[]) (ks:=[]) rfl rfl rfl rfl rfl hn hb hpos hlim rfl (by simp) (enters_of Tryz.func120 (by kernel_rfl) rfl)
  (λx hx y hy=>zJo x y _ _ rfl rfl (by have:=hl x hx;omega) (by have:=hl y hy;omega))
 refine zN Tr_ok mixed Tryz.func124 rfl (keepR rfl) ?_;focus
  refine vAu<|zB rfl<|vr 4 (u6 (n:Int))<|vc (blenR_c n (by omega))<|vrT 1<|vnt [rwB<|Ag rowV rows] ?_;refine zY [] [] [Ai 0 0 n n Ab,iD 0,iD n,iD ↑(BA n),AF (Fn.func 120) [] []] [Ai 0 0 n n Ab,iD 0,iD n,iD ↑(BA n),AF (Fn.func 120) [] []] (Az _) (by exact hp) ?_;refine vnil ?_;refine zM (True) [] (.inl rfl) ?_;rotate_left
 exact⟨by kernel_rfl,by kernel_rfl⟩
end
section
open Go.RowKit
def uqA(p:Rw):List Rw->List Rw
 |[]=>[]
 |b::l=>if b=p then uqA b l else b::uqA b l
def uq:List Rw->List Rw
 |[]=>[]
 |a::l=>a::uqA a l
theorem zWc(b:Rw):∀(l:List Rw)(p:Rw),uqA p (l++[b])=if b=l.getLastD p then uqA p l else uqA p l++[b]
 |[],p=>by
  grind [uqA]
 |c::l,p=>by
  have ih:=zWc b l c;rw[A9,List.getLastD_cons];simp only[uqA,ih];split<;>split<;>simp
theorem uq_snoc(a b:Rw)(l:List Rw):uq (a::l++[b])=if b=l.getLastD a then uq (a::l)else uq (a::l)++[b]:=by
 show a::uqA a (l++[b])=_;rw[zWc];split<;>rfl
theorem zZ5(rows:List Rw){p:Nat}(h0:0<p)(h:p<rows.length):uq (rows.take (p+1))=if rows.getD p []=rows.getD (p-1) []then uq (rows.take p)else uq (rows.take p)++[rows.getD p []]:=by
 obtain⟨q,rfl⟩:∃q,p=q+1:=⟨p-1,by omega⟩;match rows,h with
 | a::l,h=>
  simp only[AS]at h;have e1:(a::l).take (q+1+1)=a::l.take q++[(a::l).getD (q+1) []]:=by
   simp_all
  have e2:(l.take q).getLastD a=(a::l).getD (q+1-1) []:=by
   grind
  grind [uq_snoc]
theorem zZ6{l:List Rw}{x:Rw}(h:x∈uq l):x∈l:=by
 have key:∀(l:List Rw)(p:Rw),x∈uqA p l->x∈l:=by
  intro l;induction l with
  |nil=>intro p h;simp[uqA]at h
  |cons b l ih=>
   intro p h;simp only[uqA]at h;grind
 match l,h with
 |a::l,h=>
  rcases Bi.1 h with rfl|h;all_goals grind
theorem zWb(l:List Rw):(uq l).length<=l.length:=by
 have key:∀(l:List Rw)(p:Rw),(uqA p l).length<=l.length:=by
  intro l;induction l with
  |nil=>intro p;simp[uqA]
  |cons b l ih=>
   intro p
   have:=ih b
   simp only[uqA];grind
 cases l with
 |nil=>simp[uq]
 |cons a l=>
  have:=key l a
  simp only[uq,AS];omega
theorem uq_one{l:List Rw}(h:l.length<2):uq l=l:=by
 match l,h with
 |[],_=>rfl
 |[a],_=>rfl
theorem uq_adj{rows:List Rw}(h:uq rows=rows){p:Nat}(h0:0<p)(hp:p<rows.length):¬rows.getD p []=rows.getD (p-1) []:=by
 have key:∀(l:List Rw)(a:Rw),uqA a l=l->(a::l).Pairwise (λ_ _=>True)->∀q,q<l.length->l.getD q []≠(a::l).getD q []:=by
  intro l;induction l with
  |nil=>intro a _ _ q hq;simp at hq
  | cons b l ih=>
   intro a h _ q hq;simp only[uqA]at h;have hba:b≠a:=λe=>by
    rw[if_pos e]at h;have:(uqA b l).length<=l.length:=by
     have:=zWb (b::l)
     simp only[uq,AS]at this;omega
    grind
   grind
 match rows,h,hp with
 |a::l,h,hp=>
  grind [uq,List.pairwise_iff_forall_sublist]
end
section
open Go.RowKit
attribute [local irreducible] seqW awp zAf zAn zAd Weak updS zAx retL Pure Acts rP setP setQ cP nP fr
set_option maxRecDepth 4096
abbrev eqlF:D:= .clo (.func 99) [] []
theorem set_rwV(l:List Rw)(i:Nat)(r:Rw):(l.map rowV).set i (rowV r)=(l.set i r).map rowV:=by simp
theorem zE9(n:Nat)(d:D):repL n [d]=AH n d:=by
 induction n with
 |zero=>rfl
 |succ n ih=>simp only[repL,BV,List.flatten_cons]at ih⊢;rw[ih];rfl
theorem getD_setR(l:List Rw)(i j:Nat)(r:Rw)(h:i<j):(l.set i r).getD j []=l.getD j []:=by
 grind
theorem take_setR(l:List Rw)(i:Nat)(r:Rw)(h:i<l.length):(l.set i r).take (i+1)=l.take i++[r]:=by
 rw[List.take_set,BM h,BW];simp[BX (BB h)]
set_option maxHeartbeats 4000000 in
theorem zS1(rows:List Rw)(n:Nat)(hn:rows.length=n)(hb:n<=2000000)(hl:∀r∈rows,r.length<=2000000):∃t:List D,Acts Am 125 [.osl 0 0 n n Ab,eqlF] [rwB (rows.map rowV)] [] (.osl 0 0 (uq rows).length (uq rows).length Ab) [rwB ((uq rows).map rowV++t)]:=by
 subst hn;by_cases hu:uq rows=rows
 ·refine⟨[],?_⟩;rw[hu,BY];refine zN Tr_ok mixed Tryz.func125 rfl (keepR rfl) ?_;by_cases h2:rows.length<2
  ·focus
    refine vAu<|zA<|vAe<|vT ((Aa rows:Int)<(2:Int))<|vAe<|zE<|zG ?_;refine zM (True) [Ai 0 0 (Aa rows) (Aa rows) Ab] (.inr rfl) ?_;rotate_left
   exact⟨by kernel_rfl,by kernel_rfl⟩
  focus
   refine vAu<|zA<|vAe<|vF ((Aa rows:Int)<(2:Int))<|vK<|zA<|zA ?_;refine zB rfl<|veT<|zH ?_;rotate_left
  refine zK (λ(k:Nat)=>fr 66 [(0,Ai 0 0 (Aa rows) (Aa rows) Ab),(1,eqlF),(5,iD k)]) (λ(k:Nat)=>[rwB<|rows.map rowV]) (λ(k:Nat)=>rows.length-k) (λ(k:Nat)=>0<k/\k<=rows.length) 1 ?_ ?_ ?_
  ·omega
  ·refine vk 1 ?_;exact zH8
  rintro k ⟨k0,k1⟩;rcases AB k rows.length with k3|k3
  ·obtain⟨m,rfl⟩:∃m,k=m+1:=⟨k-1,by omega⟩;have hx:=zB1 rows (m+1) (by omega);have hy:=zB1 rows m (by omega);have e2:((m+1:Nat):Int)-1=(m:Int):=by omega
   have l1:=hl _ (zCp rows [] (m+1) (by omega));have l2:=hl _ (zCp rows [] m (by omega));have hne:=uq_adj hu (by omega) k3;rw[A_]at hne;generalize rows.getD (m+1) []=r at*;generalize rows.getD m []=s at*;have hcm:=zE8 r s _ _ rfl rfl (by omega) (by omega);rw[decide_eq_false hne]at hcm;focus
    refine zA<|vAu<|vT ((↑(m+1):Int)<↑(Aa rows))<|vKB<|zA<|vd [0,1,2,3,5,6,7,8,4,9,10]<|vr 4 ((0:Int)<=(↑(m+1):Int)/\(↑(m+1):Int)<(Aa rows:Int)) ?_;refine vo 21 0 (m+1)<|vr 3 (i6 (↑(m+1)-1))<|vs 25 (iD (↑(m+1)-1)) (iD m) (by simp(disch:=omega) only[e2])<|vr 1 ((0:Int)<=(m:Int)/\(m:Int)<↑(Aa rows))<|vo 26 0 m<|vr 1 (0<Aa (Ah (m+1)<|Ap<|rwB<|Ag rowV rows))<|vsh 22 hx<|vr 1 (0<Aa (Ah m<|Ap<|rwB<|Ag rowV rows))<|vsh 27 hy<|vc hcm<|veT<|vf<|zQ<|zD ?_;refine vN<|zB rfl<|vr 3 (i6 (↑(m+1)+1))<|vnil<|zC ?_;rotate_left
   refine⟨m+1+1,⟨by omega,by omega⟩,by omega,?_⟩;refine vk 1 ?_;exact zH8
  focus
   refine zA<|vAu<|vF ((k:Int)<↑(Aa rows))<|vZ2<|vA ?_;refine veT<|zE ?_;refine zM (True) [Ai 0 0 (Aa rows) (Aa rows) Ab] (.inr rfl) ?_;rotate_left
  exact⟨by kernel_rfl,by kernel_rfl⟩
 have h2:¬rows.length<2:=λh=>hu (uq_one h);refine⟨AH (rows.length-(uq rows).length) (.val (.slice AG 0 0)),?_⟩;refine zN Tr_ok mixed Tryz.func125 rfl (keepR rfl) ?_;focus
  refine vAu<|zA<|vAe<|vF ((Aa rows:Int)<(2:Int))<|vK<|zA<|zA ?_;refine zB rfl<|veT<|zH ?_;rotate_left
 refine zK (λ(k:Nat)=>fr 66 [(0,Ai 0 0 (Aa rows) (Aa rows) Ab),(1,eqlF),(5,iD k)]) (λ(k:Nat)=>[rwB<|rows.map rowV]) (λ(k:Nat)=>rows.length-k) (λ(k:Nat)=>0<k/\k<=rows.length/\uq (rows.take k)=rows.take k) 1 ?_ ?_ ?_
 ·grind [uq_one]
 ·refine vk 1 ?_;exact zH8
 rintro k ⟨k0,k1,k2⟩;rcases AB k rows.length with k3|k3;case inr=>exact absurd (by rw[AT k3]at k2;exact k2) hu
 obtain⟨m,rfl⟩:∃m,k=m+1:=⟨k-1,by omega⟩;have hx:=zB1 rows (m+1) (by omega);have hy:=zB1 rows m (by omega);have e2:((m+1:Nat):Int)-1=(m:Int):=by omega
 have l1:=hl _ (zCp rows [] (m+1) (by omega));have l2:=hl _ (zCp rows [] m (by omega));have ht:=zZ5 rows (p:=m+1) (by omega) k3;rw[A_]at ht;by_cases he:rows.getD (m+1) []=rows.getD m [];case neg=>
  rw[if_neg he,k2]at ht;have ht2:uq (rows.take (m+1+1))=rows.take (m+1+1):=by
   simp_all
  generalize rows.getD (m+1) []=r at*;generalize rows.getD m []=s at*;have hcm:=zE8 r s _ _ rfl rfl (by omega) (by omega);rw[decide_eq_false he]at hcm;focus
   refine zA<|vAu<|vT ((↑(m+1):Int)<↑(Aa rows))<|vKB<|zA<|vd [0,1,2,3,5,6,7,8,4,9,10]<|vr 4 ((0:Int)<=(↑(m+1):Int)/\(↑(m+1):Int)<(Aa rows:Int)) ?_;refine vo 21 0 (m+1)<|vr 3 (i6 (↑(m+1)-1))<|vs 25 (iD (↑(m+1)-1)) (iD m) (by simp(disch:=omega) only[e2])<|vr 1 ((0:Int)<=(m:Int)/\(m:Int)<↑(Aa rows))<|vo 26 0 m<|vr 1 (0<Aa (Ah (m+1)<|Ap<|rwB<|Ag rowV rows))<|vsh 22 hx<|vr 1 (0<Aa (Ah m<|Ap<|rwB<|Ag rowV rows))<|vsh 27 hy<|vc hcm<|veT<|vf<|zQ<|zD ?_;refine vN<|zB rfl<|vr 3 (i6 (↑(m+1)+1))<|vnil<|zC ?_;rotate_left
  refine⟨m+1+1,⟨by omega,by omega,ht2⟩,by omega,?_⟩;refine vk 1 ?_;exact zH8
 rw[if_pos he,k2]at ht;have hcm:=zE8 (rows.getD (m+1) []) (rows.getD m []) _ _ rfl rfl (by omega) (by omega);rw[decide_eq_true he]at hcm;focus
  refine zA<|vAu<|vT ((↑(m+1):Int)<↑(Aa rows))<|vKB<|zA<|vd [0,1,2,3,5,6,7,8,4,9,10]<|vr 4 ((0:Int)<=(↑(m+1):Int)/\(↑(m+1):Int)<(Aa rows:Int)) ?_;refine vo 21 0 (m+1)<|vr 3 (i6 (↑(m+1)-1))<|vs 25 (iD (↑(m+1)-1)) (iD m) (by simp(disch:=omega) only[e2])<|vr 1 ((0:Int)<=(m:Int)/\(m:Int)<↑(Aa rows))<|vo 26 0 m<|vr 1 (0<Aa (Ah (m+1)<|Ap<|rwB<|Ag rowV rows))<|vsh 22 hx<|vr 1 (0<Aa (Ah m<|Ap<|rwB<|Ag rowV rows))<|vsh 27 hy<|vc hcm<|veT<|vt<|vA ?_;refine vr 3 ((0:Int)<=(↑(m+1):Int)/\True/\True/\0<1/\Ax (↑(m+1):Int)<=Aa rows/\Aa rows<=Aa rows/\Aa rows=Aa rows)<|vs 31 (Ai 0 (0+Ax (↑(m+1):Int)*1) (Aa rows-Ax (↑(m+1):Int)) ((Aa rows-Ax (↑(m+1):Int))*1) Ad) (Ai 0 (m+1) (Aa rows-(m+1)) (Aa rows-(m+1)) Ad) (by simp(disch:=omega) only[AI,AM,A6])<|veT<|zA<|vAe<|zH ?_;rotate_left
 refine zC0 (λ(q:Nat)(k:Nat)(R:List Rw)=>fr 66 [(0,Ai 0 0 (Aa rows) (Aa rows) Ab),(1,eqlF),(5,iD k),(6,Ai 0 (m+1) (Aa rows-(m+1)) (Aa rows-(m+1)) Ad),(7,iD q)]) (λ(q k:Nat)(R:List Rw)=>[rwB<|R.map rowV]) (λ(q k:Nat)(R:List Rw)=>rows.length-(m+1)-q) (λ(q k:Nat)(R:List Rw)=>0<q/\m+1+q<=rows.length/\k<=m+q/\0<k/\R.length=rows.length/\R.take k=uq (rows.take (m+1+q))/\(∀r∈R,r.length<=2000000)/\∀j,m+q<=j->R.getD j []=rows.getD j []) 1 (m+1) rows ?_ ?_ ?_
 ·grind
 ·refine vk 1 ?_;exact zH8
 clear hx hy e2 l1 l2 ht he hcm;rintro q k R ⟨q0,q1,q2,q3,q4,q5,q6,q7⟩;rcases AB q (rows.length-(m+1))with q8|q8
 ·obtain⟨p,rfl⟩:∃p,q=p+1:=⟨q-1,by omega⟩;have hx:=zB1 R (m+1+(p+1)) (by omega);have hy:=zB1 R (m+1+p) (by omega);have e2:((p+1:Nat):Int)-1=(p:Int):=by omega
  have l1:=q6 _ (zCp R [] (m+1+(p+1)) (by omega));have l2:=q6 _ (zCp R [] (m+1+p) (by omega));have ht:=zZ5 rows (p:=m+1+(p+1)) (by omega) (by omega);rw[show m+1+(p+1)-1=m+1+p by omega,<-q7 (m+1+(p+1)) (by omega),<-q7 (m+1+p) (by omega),<-q5]at ht;have ht2:=take_setR R k (R.getD (m+1+(p+1)) []) (by omega);have hst:=set_rwV R k (R.getD (m+1+(p+1)) []);have hgs:=λj (h:k<j)=>getD_setR R k j (R.getD (m+1+(p+1)) []) h;have hms:∀r∈R.set k (R.getD (m+1+(p+1)) []),r.length<=2000000:=λr hr=>by
   grind
  by_cases he:R.getD (m+1+(p+1)) []=R.getD (m+1+p) []
  ·rw[if_pos he]at ht;have hcm:=zE8 (R.getD (m+1+(p+1)) []) (R.getD (m+1+p) []) _ _ rfl rfl (by omega) (by omega);rw[decide_eq_true he]at hcm;focus
    refine zA<|vAu<|vT ((↑(p+1):Int)<(↑(Aa rows-(m+1)):Int))<|vKB<|zA<|vd [0,1,2,3,5,6,7,8,4,9,10,11]<|vr 4 ((0:Int)<=(↑(p+1):Int)/\(↑(p+1):Int)<(↑(Aa rows-(m+1)):Int)) ?_;refine vs 41 (Af 0 (m+1+Ax (↑(p+1):Int)*1)) (Af 0 (m+1+(p+1))) (by simp(disch:=omega) only[AI,AM])<|vr 3 (i6 (↑(p+1)-1))<|vs 45 (iD (↑(p+1)-1)) (iD p) (by simp(disch:=omega) only[e2])<|vr 1 ((0:Int)<=(p:Int)/\(p:Int)<(↑(Aa rows-(m+1)):Int))<|vs 46 (Af 0 (m+1+Ax (p:Int)*1)) (Af 0 (m+1+p)) (by simp(disch:=omega) only[AI,AM])<|vr 1 (0<Aa (Ah (m+1+(p+1))<|Ap<|rwB<|Ag rowV R))<|vsh 42 hx<|vr 1 (0<Aa (Ah (m+1+p)<|Ap<|rwB<|Ag rowV R))<|vsh 47 hy<|vc hcm<|veT<|vf<|zQ<|zD ?_;refine vN<|zB rfl<|vr 3 (i6 (↑(p+1)+1))<|vnil<|zC ?_;rotate_left
   refine⟨p+1+1,k,R,⟨by omega,by omega,by omega,by omega,q4,ht.symm,q6,λj hj=>q7 j (by omega)⟩,by omega,?_⟩;refine vk 1 ?_;exact zH8
  rw[if_neg he]at ht;have hcm:=zE8 (R.getD (m+1+(p+1)) []) (R.getD (m+1+p) []) _ _ rfl rfl (by omega) (by omega);rw[decide_eq_false he]at hcm;focus
   refine zA<|vAu<|vT ((↑(p+1):Int)<(↑(Aa rows-(m+1)):Int))<|vKB<|zA<|vd [0,1,2,3,5,6,7,8,4,9,10,11]<|vr 4 ((0:Int)<=(↑(p+1):Int)/\(↑(p+1):Int)<(↑(Aa rows-(m+1)):Int)) ?_;refine vs 41 (Af 0 (m+1+Ax (↑(p+1):Int)*1)) (Af 0 (m+1+(p+1))) (by simp(disch:=omega) only[AI,AM])<|vr 3 (i6 (↑(p+1)-1))<|vs 45 (iD (↑(p+1)-1)) (iD p) (by simp(disch:=omega) only[e2])<|vr 1 ((0:Int)<=(p:Int)/\(p:Int)<(↑(Aa rows-(m+1)):Int))<|vs 46 (Af 0 (m+1+Ax (p:Int)*1)) (Af 0 (m+1+p)) (by simp(disch:=omega) only[AI,AM])<|vr 1 (0<Aa (Ah (m+1+(p+1))<|Ap<|rwB<|Ag rowV R))<|vsh 42 hx<|vr 1 (0<Aa (Ah (m+1+p)<|Ap<|rwB<|Ag rowV R))<|vsh 47 hy<|vc hcm<|veT<|vt<|vA ?_;refine vr 5 ((0:Int)<=(↑(p+1):Int)/\(↑(p+1):Int)<(↑(Aa rows-(m+1)):Int))<|vs 54 (Af 0 (m+1+Ax (↑(p+1):Int)*1)) (Af 0 (m+1+(p+1))) (by simp(disch:=omega) only[AI,AM])<|vr 1 (0<Aa (Ah (m+1+(p+1))<|Ap<|rwB<|Ag rowV R))<|vsh 55 hx<|vr 1 ((0:Int)<=(k:Int)/\(k:Int)<↑(Aa rows))<|vo 56 0 k<|vr 1 (AW (rwB<|Ag rowV R)=Ad/\Ab=Ab/\1=1/\k+1<=Aa (Ap<|rwB<|Ag rowV R)/\¬0∈[])<|vb 0 (Ak (setAt (Ap<|rwB<|Ag rowV R) k<|cellsOf<|AA (zJ<|AC R (m+1+(p+1)) [])<|Aa<|AC R (m+1+(p+1)) []) (Bk.ty<|rwB<|Ag rowV R) (Bk.sz<|rwB<|Ag rowV R) Ab Ad<|AX<|rwB<|Ag rowV R) (Ak (Ag rowV<|AU R k<|AC R (m+1+(p+1)) []) (54:TypeId) 1 Ab Ad Ao) (by simp(disch:=omega) only[cellsOf,setAt,hst])<|veT<|zB rfl<|vr 3 (i6 (↑k+1))<|vnil<|zD<|zC ?_;refine zAw<|zB rfl<|vr 3 (i6 (↑(p+1)+1))<|vnil<|zC ?_;rotate_left
  refine⟨p+1+1,k+1,R.set k (R.getD (m+1+(p+1)) []),⟨by omega,by omega,by omega,by omega,by rw[AQ];exact q4,by rw[ht2];exact ht.symm,hms,λj hj=>by rw[hgs j (by omega)];exact q7 j (by omega)⟩,by omega,?_⟩;refine vk 1 ?_;exact zH8
 obtain rfl:q=rows.length-(m+1):=by omega
 rw[show m+1+(rows.length-(m+1))=rows.length by omega,List.take_length]at q5;have hkl:(uq rows).length=k:=by rw[<-q5,BN];omega
 rw[hkl,<-q5];have hcl:setAt (R.map rowV) k (repL (rows.length-k) [.val (.slice AG 0 0)])=(R.take k).map rowV++AH (rows.length-k) (.val (.slice AG 0 0)):=by
  have h1:=zLq ((R.drop k).map rowV) (repL (rows.length-k) [.val (.slice AG 0 0)]) ((R.take k).map rowV) (by rw[zE9];simp[q4]);grind [List.take_append_drop,A3,BN,BX,zE9]
 focus
  refine zA<|vAu<|vF ((↑(Aa rows-(m+1)):Int)<(↑(Aa rows-(m+1)):Int))<|vZ2<|vA ?_;refine vr 3 ((0:Int)<=(k:Int)/\True/\True/\0<1/\Ax (k:Int)<=Aa rows/\Aa rows<=Aa rows/\Aa rows=Aa rows)<|vs 61 (Ai 0 (0+Ax (k:Int)*1) (Aa rows-Ax (k:Int)) ((Aa rows-Ax (k:Int))*1) Ad) (Ai 0 k (Aa rows-k) (Aa rows-k) Ad) (by simp(disch:=omega) only[AI,AM,A6])<|ve (AW (rwB<|Ag rowV R)=Ad/\BC (AX<|rwB<|Ag rowV R)=Ad/\0<1/\k+(Aa rows-k)*1<=Aa (Ap<|rwB<|Ag rowV R))<|vA<|vr 3 (True/\(0:Int)<=(k:Int)/\True/\0<1/\0<=Ax (k:Int)/\Ax (k:Int)<=Aa rows/\Ax (k:Int)=Ax (k:Int))<|vs 64 (Ai 0 0 (Ax (k:Int)-0) ((Ax (k:Int)-0)*1) Ab) (Ai 0 0 k k Ab) (by simp(disch:=omega) only[AI,Nat.sub_zero,AM])<|veT<|zE<|zL<|zG<|zG<|zL<|zG ?_;refine zM (True) [Ai 0 0 k k Ab] (.inr rfl) ?_;rotate_left
 rw[<-hcl];exact⟨by kernel_rfl,by kernel_rfl⟩
end
section
open Go.RowKit
def only(β:Be)(k:Nat):Be:=λj=>if j=0 then β k else AG
def Bk.free(e:Bk):Prop:=e.nob=Ab\/∀j,zX j e.cells=Ad
theorem Bk.free.own{e:Bk}(h:e.free){I:Im}{w:World}{β β':Be}{b c:Nat}(ho:OwnRel I w β b c e):OwnRel I w β' b c e:=
 ho.congr λhn k x hr _=>by
  rcases h with h|h
  ·rw[h]at hn;cases hn
  rw[h k]at hr;cases hr
theorem Acts.atG{P:Program}{f:FuncId}{args1 args:List D}{e e':Bk}{x:D}{st:List Bk}(k:Nat)(h:Acts P f args1 [e] [] x [e'])(he:st[k]?=Al e)(ha:e.free)(ha':e'.free)
  (hargs:∀I w β vs,RelT I w β args vs->RelT I w (only β k) args1 vs):Acts P f args st [] (zA9 k x) (st.set k e'):=by
 intro β I w vs hr hsr hinj hfz hdom hi hg;have o0:∀{j:Nat}{y:Nat×Nat},only β k j=Al y->j=0/\β k=Al y:=λ{j y} hj=>by
  grind [only]
 have hk:k<st.length:=(BZ.1 he).1;have hsr1:SR (only β k) I w [e]:=λj b c hj=>by
  obtain⟨rfl,hb⟩:=o0 hj;obtain⟨e0,h1,h2⟩:=hsr k b c hb;rw[he]at h1;cases h1;exact⟨e,rfl,ha.own h2⟩
 have hinj1:Inj (only β k):=λj j' b c c' h1 h2=>by rw[(o0 h1).1,(o0 h2).1]
 have hfz1:FZ (only β k) I [e]:=λj b c i e0 h1 h2 h3=>by
  obtain⟨rfl,hb⟩:=o0 h1;simp only[BO,Ba.injEq]at h2;subst h2;exact hfz k b c i e hb he h3
 refine(h (only β k) I w vs (hargs I w β vs hr) hsr1 hinj1 hfz1 (λj y hj=>by rw[(o0 hj).1];simp) hi hg).mono ?_;rintro en w' ⟨v,β1,I',rfl,p1,p2,p3,p4,p5,p6,p7,p8⟩;have d0:∀{j:Nat}{y:Nat×Nat},β1 j=Al y->j=0:=λ{j y} hj=>by have:=p7 j y hj;simpa using this
 have old:∀{b c:Nat},β1 0=Al (b,c)->(∃c',β k=Al (b,c'))\/w.heap.size<=b:=λ{b c} hb=>by
  rcases p2.be 0 b c hb with⟨k',c',hk'⟩|hh;all_goals grind
 have hlt:∀{j b c:Nat},β j=Al (b,c)->b<w.heap.size:=λ{j b c} hj=>by
  obtain⟨e0,_,h1⟩:=hsr j b c hj;exact h1.lt
 have keepk:∀y,β k=Al y->β1 0=Al y:=λy hy=>p3 0 y (by simp) (by simp only[only,if_true];exact hy);have hle:BeLe β (λj=>if j=k then β1 0 else β j):=λj y hj=>by
  grind
 have heap:∀{j b c:Nat},j≠k->β j=Al (b,c)->w'.heap[b]?=w.heap[b]?:=λ{j b c} hne hj=>p2.out b (hlt hj) λj' c' hj'=>by
  have:=(o0 hj').2
  exact hne (hinj j k b c c' hj this)
 refine⟨v,λj=>if j=k then β1 0 else β j,I',rfl,p1,⟨p2.fix,p2.size,λb hb hn=>p2.out b hb λj c hj=>hn k c (o0 hj).2,p2.os,p2.tape,p2.output,p2.dr,λj b c hj=>?_,λb o hb=>?_⟩,λj y _ hj=>hle j y hj,λj b c hj=>?_,λj j' b c c' hj hj'=>?_,λj b c i e0 hj h2 h3=>?_,λj y hj=>?_,?_⟩
 ·grind
 ·rcases p2.im b o hb with h1|h1|⟨j,c,h1⟩;all_goals grind
 ·try simp only at hj
  split at hj
  ·rename_i ej;subst ej;obtain⟨e0,h1,h2⟩:=p4 0 b c hj;simp only[BO,Ba.injEq]at h1;subst h1;exact⟨e',Bj hk,ha'.own h2⟩
  rename_i ej;obtain⟨e0,h1,h2⟩:=hsr j b c hj;exact⟨e0,by rw[Bl (λh=>ej h.symm)];exact h1,h2.mono (heap ej hj) p2.fix hle⟩
 ·try simp only at hj hj'
  split at hj<;>split at hj'
  ·rename_i a b;rw[a,b]
  ·rename_i a a';exfalso;rcases old hj with⟨c2,h1⟩|h1
   ·exact a' (hinj j' k b c' c2 hj' h1)
   have:=hlt hj';omega
  ·rename_i a a';exfalso;rcases old hj' with⟨c2,h1⟩|h1
   ·exact a (hinj j k b c c2 hj h1)
   have:=hlt hj;omega
  exact hinj j j' b c c' hj hj'
 ·try simp only at hj
  split at hj
  ·rename_i ej;subst ej;rw[Bj hk]at h2;cases h2;exact p6 0 b c i e' hj rfl h3
  rename_i ej;rw[Bl (λh=>ej h.symm)]at h2;rcases p2.im b i h3 with h4|h4|⟨j',c',h4⟩
  ·exact hfz j b c i e0 hj h2 h4
  ·have:=hlt hj;omega
  exact absurd (hinj j k b c c' hj (o0 h4).2) ej
 ·grind
 refine zDt (λj y hj=>?_) x v p8;grind
theorem Acts.atC{P:Program}{f:FuncId}{args1 args:List D}{e e':Bk}{x:D}{st:List Bk}(k:Nat)(h:Acts P f args1 [e] [0] x [e'])(he:st[k]?=Al e)(ha:e.free)(ha':e'.free)
  (hargs:∀I w β vs,RelT I w β args vs->RelT I w (only β k) args1 vs)(hno:∀j e0,j≠k->st[j]?=Al e0->e0.nob=Ab\/zX k e0.cells=Ad):Acts P f args st [k] (zA9 k x) (st.set k e'):=by
 intro β I w vs hr hsr hinj hfz hdom hi hg;have o0:∀{j:Nat}{y:Nat×Nat},only β k j=Al y->j=0/\β k=Al y:=λ{j y} hj=>by
  grind [only]
 have hk:k<st.length:=(BZ.1 he).1;have hsr1:SR (only β k) I w [e]:=λj b c hj=>by
  obtain⟨rfl,hb⟩:=o0 hj;obtain⟨e0,h1,h2⟩:=hsr k b c hb;rw[he]at h1;cases h1;exact⟨e,rfl,ha.own h2⟩
 have hinj1:Inj (only β k):=λj j' b c c' h1 h2=>by rw[(o0 h1).1,(o0 h2).1]
 have hfz1:FZ (only β k) I [e]:=λj b c i e0 h1 h2 h3=>by
  obtain⟨rfl,hb⟩:=o0 h1;simp only[BO,Ba.injEq]at h2;subst h2;exact hfz k b c i e hb he h3
 refine(h (only β k) I w vs (hargs I w β vs hr) hsr1 hinj1 hfz1 (λj y hj=>by rw[(o0 hj).1];simp) hi hg).mono ?_;rintro en w' ⟨v,β1,I',rfl,p1,p2,p3,p4,p5,p6,p7,p8⟩;have d0:∀{j:Nat}{y:Nat×Nat},β1 j=Al y->j=0:=λ{j y} hj=>by have:=p7 j y hj;simpa using this
 have old:∀{b c:Nat},β1 0=Al (b,c)->(∃c',β k=Al (b,c'))\/w.heap.size<=b:=λ{b c} hb=>by
  rcases p2.be 0 b c hb with⟨k',c',hk'⟩|hh;all_goals grind
 have hlt:∀{j b c:Nat},β j=Al (b,c)->b<w.heap.size:=λ{j b c} hj=>by
  obtain⟨e0,_,h1⟩:=hsr j b c hj;exact h1.lt
 have hne:∀j y,j≠k->β j=Al y->(λj=>if j=k then β1 0 else β j) j=Al y:=λj y h0 hj=>by
  grind
 have heap:∀{j b c:Nat},j≠k->β j=Al (b,c)->w'.heap[b]?=w.heap[b]?:=λ{j b c} hne hj=>p2.out b (hlt hj) λj' c' hj'=>by
  have:=(o0 hj').2
  exact hne (hinj j k b c c' hj this)
 refine⟨v,λj=>if j=k then β1 0 else β j,I',rfl,p1,⟨p2.fix,p2.size,λb hb hn=>p2.out b hb λj c hj=>hn k c (o0 hj).2,p2.os,p2.tape,p2.output,p2.dr,λj b c hj=>?_,λb o hb=>?_⟩,λj y h0 hj=>hne j y (by simpa using h0) hj,λj b c hj=>?_,λj j' b c c' hj hj'=>?_,λj b c i e0 hj h2 h3=>?_,λj y hj=>?_,?_⟩
 ·grind
 ·rcases p2.im b o hb with h1|h1|⟨j,c,h1⟩;all_goals grind
 ·try simp only at hj
  split at hj
  ·rename_i ej;subst ej;obtain⟨e0,h1,h2⟩:=p4 0 b c hj;simp only[BO,Ba.injEq]at h1;subst h1;exact⟨e',Bj hk,ha'.own h2⟩
  rename_i ej;obtain⟨e0,h1,h2⟩:=hsr j b c hj;exact⟨e0,by rw[Bl (λh=>ej h.symm)];exact h1,(h2.congr (β':=λj=>if j=k then β1 0 else β j) λhn i y hr hi=>by
   refine hne i y (λe1=>?_) hi;subst e1;rcases hno j e0 ej h1 with h3|h3
   ·rw[h3]at hn;cases hn
   rw[h3]at hr;cases hr).mono (heap ej hj) p2.fix (BeLe.refl _)⟩
 ·try simp only at hj hj'
  split at hj<;>split at hj'
  ·rename_i a b;rw[a,b]
  ·rename_i a a';exfalso;rcases old hj with⟨c2,h1⟩|h1
   ·exact a' (hinj j' k b c' c2 hj' h1)
   have:=hlt hj';omega
  ·rename_i a a';exfalso;rcases old hj' with⟨c2,h1⟩|h1
   ·exact a (hinj j k b c c2 hj h1)
   have:=hlt hj;omega
  exact hinj j j' b c c' hj hj'
 ·try simp only at hj
  split at hj
  ·rename_i ej;subst ej;rw[Bj hk]at h2;cases h2;exact p6 0 b c i e' hj rfl h3
  rename_i ej;rw[Bl (λh=>ej h.symm)]at h2;rcases p2.im b i h3 with h4|h4|⟨j',c',h4⟩
  ·exact hfz j b c i e0 hj h2 h4
  ·have:=hlt hj;omega
  exact absurd (hinj j k b c c' hj (o0 h4).2) ej
 ·grind
 refine zDt (λj y hj=>?_) x v p8;grind
theorem zL3{I:Im}{w:World}{β β':Be}:∀{us vs:List Value},RelT I w β (us.map .val) vs->RelT I w β' (us.map .val) vs
 |[],vs,h=>by simpa only[List.map_nil,RelT]using h
 |u::us,vs,h=>by
  simp only[BP,RelT,Rel]at h⊢;obtain⟨v,vs',h1,h2,h3⟩:=h;exact⟨v,vs',h1,h2,zL3 h3⟩
theorem zP9{k off n m:Nat}{wh:Bool}(us:List Value)(I:Im)(w:World)(β:Be)(vs:List Value)(h:RelT I w β (.osl k off n m wh::us.map .val) vs):RelT I w (only β k) (.osl 0 off n m wh::us.map .val) vs:=by
 grind [only,RelT,zL3,Rel]
theorem zCk{k off:Nat}(us:List Value)(I:Im)(w:World)(β:Be)(vs:List Value)(h:RelT I w β (.own k off::us.map .val) vs):RelT I w (only β k) (.own 0 off::us.map .val) vs:=by
 grind [only,RelT,zL3,Rel]
theorem Bk.free_arr{e:Bk}(ha:e.arr=Ab)(hk:e.kd= .plain):e.free:= .inl (by unfold Bk.nob;rw[ha,hk];rfl)
end
section
open Go.RowKit
attribute [local irreducible] seqW awp zAf zAn zAd Weak updS zAx retL Pure Acts rP setP setQ cP nP fr
set_option maxRecDepth 4096
def relR(rows:List Rw):List Rw:=uq (if srtB rows then rows else zNc rows)
theorem zHu(rows:List Rw):(relR rows).length<=rows.length:=by
 unfold relR;refine AR (zWb _) ?_;split
 ·exact Aw _
 rw[(zCq rows).length_eq];exact Aw _
abbrev relB(a b:D):Bk:=⟨[a,b],85,0,Ad,Ad, .plain⟩
def Tb:Par:=⟨λf=>f==124||f==123||f==125||f==91,λ_ _=>AG,λk=>decide (k<1),λ_=>Ad,λ_=>Ad⟩
theorem Tb_ok:zA7 Am Tb:=by intro t n f h;cases h
theorem keepB{st:List Bk}(h:st.length=1):∀k,k<st.length->Tb.keep k=true:=λk hk=>by
 show decide (k<1)=Ab;rw[decide_eq_true_eq];omega
theorem zXs:∀k,1<=k->Tb.keep k=false:=λk hk=>by
 show decide (k<1)=Ad;rw[decide_eq_false_iff_not];omega
theorem zJq{k n m:Nat}{g:FuncId}{wh:Bool}(I:Im)(w:World)(β:Be)(vs:List Value)(h:RelT I w β [.osl k 0 n m wh, .clo (.func g) [] []] vs):RelT I w (only β k) [.osl 0 0 n m wh, .clo (.func g) [] []] vs:=by
 grind [only,RelT,Rel]
theorem zQa{k n m:Nat}{z:Int}{wh:Bool}(I:Im)(w:World)(β:Be)(vs:List Value)(h:RelT I w β [iD z, .osl k 0 n m wh] vs):RelT I w (only β k) [iD z, .osl 0 0 n m wh] vs:=by
 grind [only,RelT,Rel]
theorem zWm(L:List Rw)(t:List D)(i:Nat)(h:i<L.length):(L.map rowV++t).set i (rowV (L.getD i []))=L.map rowV++t:=by
 grind [List.map_set,BD,List.set_getElem_self]
theorem zN4(L:List Rw)(t:List D)(i:Nat)(h:i<L.length):((L.map rowV++t).drop i).headD .unk=rowV (L.getD i []):=by
 rw[List.drop_append_of_le_length (by simp;omega)];simp_all
abbrev q4_:=Ak [iD 0,nl] 85 0 Ad Ad Ao
set_option maxHeartbeats 2000000 in
theorem build_a(ar:Int)(rows:List Rw)(n:Nat)(hn:rows.length=n)(hb:n<=2000000)(hU65:(relR rows).length<=65536)(hl:∀r∈rows,r.length<=2000000):∃t:List D,Acts Am 91 [iD ar, .osl 0 0 n n Ab] [rwB (rows.map rowV)] [] (.tup [.agg [iD ar, .osl 0 0 (relR rows).length (relR rows).length Ab],iD 0]) [rwB ((relR rows).map rowV++t)]:=by
 obtain⟨S,hS⟩:∃S,S=if srtB rows then rows else zNc rows:=⟨_,rfl⟩
 have hSl:S.length=n:=by
  rw[hS];split
  ·exact hn
  rw[(zCq rows).length_eq,hn]
 have hSm:∀r∈S,r.length<=2000000:=λr hr=>by
  grind [zCq]
 obtain⟨t,hc⟩:=zS1 S n hSl (by omega) hSm;refine⟨t,?_⟩;have hu:=zWb S;have hum:∀r∈uq S,r.length<=2000000:=λr hr=>hSm r (zZ6 hr);have hrel:relR rows=uq S:=by rw[hS];rfl
 rw[hrel]at hU65⊢;have hs:=zN3 rows n hn (by omega) hl;have a1:=hs.atG (st:=[rwB (rows.map rowV),relB (iD 0) nl]) 0 rfl (Bk.free_arr rfl rfl) (Bk.free_arr rfl rfl) zJq;have a3:=hc.atG (st:=[rwB (S.map rowV),relB (iD 0) nl]) 0 rfl (Bk.free_arr rfl rfl) (Bk.free_arr rfl rfl) zJq;generalize hU:uq S=U at*;have key:Acts Am 91 [iD ar, .osl 0 0 n n Ab] [rwB (rows.map rowV)] [] (.tup [.agg [iD ar, .osl 0 0 U.length U.length Ab],iD 0]) [rwB (U.map rowV++t),relB (iD ar) (.osl 0 0 U.length U.length Ab)]:=by
  cases hsb:srtB rows with
  | true=>
   rw[hsb]at hS a1;rw[if_pos rfl]at hS;subst hS;refine zN Tb_ok mixed BQ rfl (keepB rfl) ?_;focus
    refine vAu<|zA<|vA<|vrT 1<|vnt [rwB<|Ag rowV S,q4_] ?_;refine zY [] [] [Ai 0 0 n n Ab,AF (Fn.func 120) [] []] [Ai 0 0 n n Ab,AF (Fn.func 120) [] []] (Az _) (by exact a1) ?_;refine v0s<|veT<|vf<|vK<|vA<|vrT 1<|vnt [Ak (Ag rowV S) 54 1 Ab Ad Ao,q4_] ?_;refine zY [] [] [Ai 0 0 n n Ab,AF (Fn.func 99) [] []] [Ai 0 0 n n Ab,AF (Fn.func 99) [] []] (Az _) (by exact a3) ?_;refine v0s<|veT<|zA<|vAe<|vF ((Aa U:Int)>(65536:Int))<|vK<|zA<|vAe ?_;refine zH ?_;rotate_left
   refine zK (λ(i:Nat)=>fr 35 [(0,iD ar),(1,Ai 0 0 (Aa U) (Aa U) Ab),(4,Af 1 0),(5,iD 0),(19,iD<|Aa U),(20,iD i)]) (λ(i:Nat)=>[rwB (U.map rowV++t),relB (iD 0) nl]) (λ(i:Nat)=>U.length-i) (λ(i:Nat)=>i<=U.length) 0 ?_ ?_ ?_
   ·omega
   ·refine vk 2 ?_;grind [zXs]
   rintro i h1;rcases AB i U.length with h2|h2
   ·have hx:=zN4 U t i h2;have hst:=zWm U t i h2;have hlr:=hum _ (zCp U [] i h2);have hlc:i<(U.map rowV++t).length:=by simp;omega
    have hcl:=zGc (zJ (U.getD i [])) (U.getD i []).length (zA0 _) (by omega);focus
     refine vAu<|zA<|vT ((i:Int)<↑(Aa U))<|vKB<|vAe ?_;refine zB rfl<|vr 5 ((0:Int)<=(i:Int)/\(i:Int)<↑(Aa U))<|vo 27 0 i<|vr 1 (0<Aa (Ah i<|Ap<|rwB (Ag rowV U++t)))<|vsh 28 hx<|vc hcl<|vr 1 ((0:Int)<=(i:Int)/\(i:Int)<↑(Aa U))<|vo 30 0 i<|vr 1 (AW (rwB (Ag rowV U++t))=Ad/\Ab=Ab/\1=1/\i+1<=Aa (Ap<|rwB (Ag rowV U++t))/\¬0∈[])<|vb 0 (Ak (setAt (Ap<|rwB (Ag rowV U++t)) i<|cellsOf<|AA (zJ<|AC U i [])<|Aa<|AC U i []) (Bk.ty<|rwB (Ag rowV U++t)) (Bk.sz<|rwB (Ag rowV U++t)) Ab Ad<|AX<|rwB (Ag rowV U++t)) (Ak (Ag rowV U++t) (54:TypeId) 1 Ab Ad Ao) (by simp(disch:=omega) only[cellsOf,setAt,hst])<|vnil<|zD<|vN ?_;refine zB rfl<|vr 2 (i6 (↑i+1))<|vnil<|zC ?_;rotate_left
    refine⟨i+1,by omega,by omega,?_⟩;refine vk 2 ?_;grind [zXs]
   focus
    refine vAu<|zA<|vF ((i:Int)<↑(Aa U))<|vZ2<|vA ?_;refine ve (((1=1/\1<=2/\1=1/\2<=2/\True)/\Ab=Ab)/\Ad=Ad/\Ab=Ab/\2=2/\2<=2)<|zE ?_;refine zM (2<=2) [An [Aj<|AN AK ar,Ai 0 0 (Aa U) (Aa U) Ab],q2_] (.inr rfl) ?_ (hc:=by omega);rotate_left
   exact⟨by kernel_rfl,by kernel_rfl⟩
  | false=>
   rw[hsb]at hS a1;rw[if_neg (by decide)]at hS;have hpos:0<n:=by
    rcases BU n with h|h
    ·subst hn;rw[List.length_eq_zero_iff.1 h]at hsb;cases hsb
    exact h
   have a2:=(sortR_a rows n hn (by omega) hpos hl).atG (st:=[rwB (rows.map rowV),relB (iD 0) nl]) 0 rfl (Bk.free_arr rfl rfl) (Bk.free_arr rfl rfl) zJq;rw[<-hS]at a2;refine zN Tb_ok mixed BQ rfl (keepB rfl) ?_;focus
    refine vAu<|zA<|vA<|vrT 1<|vnt [rwB<|Ag rowV rows,q4_] ?_;refine zY [] [] [Ai 0 0 n n Ab,AF (Fn.func 120) [] []] [Ai 0 0 n n Ab,AF (Fn.func 120) [] []] (Az _) (by exact a1) ?_;refine v0s<|veT<|vt<|zB rfl<|vrT 1<|vnt [Ak (Ag rowV rows) 54 1 Ab Ad Ao,q4_] ?_;refine zY [] [] [Ai 0 0 n n Ab,AF (Fn.func 120) [] []] [Ai 0 0 n n Ab,AF (Fn.func 120) [] []] (Az _) (by exact a2) ?_;refine v0s<|veT<|vA<|vrT 1<|vnt [Ak (Ag rowV S) 54 1 Ab Ad Ao,q4_] ?_;refine zY [] [] [Ai 0 0 n n Ab,AF (Fn.func 99) [] []] [Ai 0 0 n n Ab,AF (Fn.func 99) [] []] (Az _) (by exact a3) ?_;refine v0s<|veT<|zA<|vAe<|vF ((Aa U:Int)>(65536:Int))<|vK<|zA<|vAe ?_;refine zH ?_;rotate_left
   refine zK (λ(i:Nat)=>fr 35 [(0,iD ar),(1,Ai 0 0 (Aa U) (Aa U) Ab),(4,Af 1 0),(5,iD 0),(19,iD<|Aa U),(20,iD i)]) (λ(i:Nat)=>[rwB (U.map rowV++t),relB (iD 0) nl]) (λ(i:Nat)=>U.length-i) (λ(i:Nat)=>i<=U.length) 0 ?_ ?_ ?_
   ·omega
   ·refine vk 2 ?_;grind [zXs]
   rintro i h1;rcases AB i U.length with h2|h2
   ·have hx:=zN4 U t i h2;have hst:=zWm U t i h2;have hlr:=hum _ (zCp U [] i h2);have hlc:i<(U.map rowV++t).length:=by simp;omega
    have hcl:=zGc (zJ (U.getD i [])) (U.getD i []).length (zA0 _) (by omega);focus
     refine vAu<|zA<|vT ((i:Int)<↑(Aa U))<|vKB<|vAe ?_;refine zB rfl<|vr 5 ((0:Int)<=(i:Int)/\(i:Int)<↑(Aa U))<|vo 27 0 i<|vr 1 (0<Aa (Ah i<|Ap<|rwB (Ag rowV U++t)))<|vsh 28 hx<|vc hcl<|vr 1 ((0:Int)<=(i:Int)/\(i:Int)<↑(Aa U))<|vo 30 0 i<|vr 1 (AW (rwB (Ag rowV U++t))=Ad/\Ab=Ab/\1=1/\i+1<=Aa (Ap<|rwB (Ag rowV U++t))/\¬0∈[])<|vb 0 (Ak (setAt (Ap<|rwB (Ag rowV U++t)) i<|cellsOf<|AA (zJ<|AC U i [])<|Aa<|AC U i []) (Bk.ty<|rwB (Ag rowV U++t)) (Bk.sz<|rwB (Ag rowV U++t)) Ab Ad<|AX<|rwB (Ag rowV U++t)) (Ak (Ag rowV U++t) (54:TypeId) 1 Ab Ad Ao) (by simp(disch:=omega) only[cellsOf,setAt,hst])<|vnil<|zD<|vN ?_;refine zB rfl<|vr 2 (i6 (↑i+1))<|vnil<|zC ?_;rotate_left
    refine⟨i+1,by omega,by omega,?_⟩;refine vk 2 ?_;grind [zXs]
   focus
    refine vAu<|zA<|vF ((i:Int)<↑(Aa U))<|vZ2<|vA ?_;refine ve (((1=1/\1<=2/\1=1/\2<=2/\True)/\Ab=Ab)/\Ad=Ad/\Ab=Ab/\2=2/\2<=2)<|zE ?_;refine zM (2<=2) [An [Aj<|AN AK ar,Ai 0 0 (Aa U) (Aa U) Ab],q2_] (.inr rfl) ?_ (hc:=by omega);rotate_left
   exact⟨by kernel_rfl,by kernel_rfl⟩
 exact key.cut 1 (by simp) rfl
set_option maxHeartbeats 2000000 in
theorem buildF_a(ar:Int)(rows:List Rw)(n:Nat)(hn:rows.length=n)(hb:n<=2000000)(hU65:65536<(relR rows).length)(hl:∀r∈rows,r.length<=2000000):∃t:List D,Acts Am 91 [iD ar, .osl 0 0 n n Ab] [rwB (rows.map rowV)] [] (.tup [.agg [iD 0,nl],iD 11]) [rwB ((relR rows).map rowV++t)]:=by
 obtain⟨S,hS⟩:∃S,S=if srtB rows then rows else zNc rows:=⟨_,rfl⟩
 have hSl:S.length=n:=by
  rw[hS];split
  ·exact hn
  rw[(zCq rows).length_eq,hn]
 have hSm:∀r∈S,r.length<=2000000:=λr hr=>by
  grind [zCq]
 obtain⟨t,hc⟩:=zS1 S n hSl (by omega) hSm;refine⟨t,?_⟩;have hu:=zWb S;have hum:∀r∈uq S,r.length<=2000000:=λr hr=>hSm r (zZ6 hr);have hrel:relR rows=uq S:=by rw[hS];rfl
 rw[hrel]at hU65⊢;have hs:=zN3 rows n hn (by omega) hl;have a1:=hs.atG (st:=[rwB (rows.map rowV),relB (iD 0) nl]) 0 rfl (Bk.free_arr rfl rfl) (Bk.free_arr rfl rfl) zJq;have a3:=hc.atG (st:=[rwB (S.map rowV),relB (iD 0) nl]) 0 rfl (Bk.free_arr rfl rfl) (Bk.free_arr rfl rfl) zJq;generalize hU:uq S=U at*;have key:Acts Am 91 [iD ar, .osl 0 0 n n Ab] [rwB (rows.map rowV)] [] (.tup [.agg [iD 0,nl],iD 11]) [rwB (U.map rowV++t),relB (iD 0) nl]:=by
  cases hsb:srtB rows with
  | true=>
   rw[hsb]at hS a1;rw[if_pos rfl]at hS;subst hS;refine zN Tb_ok mixed BQ rfl (keepB rfl) ?_;focus
    refine vAu<|zA<|vA<|vrT 1<|vnt [rwB<|Ag rowV S,q4_] ?_;refine zY [] [] [Ai 0 0 n n Ab,AF (Fn.func 120) [] []] [Ai 0 0 n n Ab,AF (Fn.func 120) [] []] (Az _) (by exact a1) ?_;refine v0s<|veT<|vf<|vK<|vA<|vrT 1<|vnt [Ak (Ag rowV S) 54 1 Ab Ad Ao,q4_] ?_;refine zY [] [] [Ai 0 0 n n Ab,AF (Fn.func 99) [] []] [Ai 0 0 n n Ab,AF (Fn.func 99) [] []] (Az _) (by exact a3) ?_;refine v0s<|veT<|zA<|vAe<|vT ((Aa U:Int)>(65536:Int))<|vA<|ve ((True/\Ab=Ab)/\Ad=Ad/\Ab=Ab/\2=2/\2<=2)<|zE<|zG ?_;refine zM (2<=2) [An [q2_,nl],Aj<|AN AK 11] (.inr rfl) ?_ (hc:=by omega);rotate_left
   exact⟨by kernel_rfl,by kernel_rfl⟩
  | false=>
   rw[hsb]at hS a1;rw[if_neg (by decide)]at hS;have hpos:0<n:=by
    grind
   have a2:=(sortR_a rows n hn (by omega) hpos hl).atG (st:=[rwB (rows.map rowV),relB (iD 0) nl]) 0 rfl (Bk.free_arr rfl rfl) (Bk.free_arr rfl rfl) zJq;rw[<-hS]at a2;refine zN Tb_ok mixed BQ rfl (keepB rfl) ?_;focus
    refine vAu<|zA<|vA<|vrT 1<|vnt [rwB<|Ag rowV rows,q4_] ?_;refine zY [] [] [Ai 0 0 n n Ab,AF (Fn.func 120) [] []] [Ai 0 0 n n Ab,AF (Fn.func 120) [] []] (Az _) (by exact a1) ?_;refine v0s<|veT<|vt<|zB rfl<|vrT 1<|vnt [Ak (Ag rowV rows) 54 1 Ab Ad Ao,q4_] ?_;refine zY [] [] [Ai 0 0 n n Ab,AF (Fn.func 120) [] []] [Ai 0 0 n n Ab,AF (Fn.func 120) [] []] (Az _) (by exact a2) ?_;refine v0s<|veT<|vA<|vrT 1<|vnt [Ak (Ag rowV S) 54 1 Ab Ad Ao,q4_] ?_;refine zY [] [] [Ai 0 0 n n Ab,AF (Fn.func 99) [] []] [Ai 0 0 n n Ab,AF (Fn.func 99) [] []] (Az _) (by exact a3) ?_;refine v0s<|veT<|zA<|vAe<|vT ((Aa U:Int)>(65536:Int))<|vA<|ve ((True/\Ab=Ab)/\Ad=Ad/\Ab=Ab/\2=2/\2<=2)<|zE<|zG ?_;refine zM (2<=2) [An [q2_,nl],Aj<|AN AK 11] (.inr rfl) ?_ (hc:=by omega);rotate_left
   exact⟨by kernel_rfl,by kernel_rfl⟩
 exact key.cut 1 (by simp) rfl
end
section
open Go.RowKit
section
variable {α : Type} {g : α → List D} {c : Nat}
theorem zDj(hg:∀a,(g a).length=c)(l:List α):(l.flatMap g).length=l.length*c:=by
 induction l<;>grind
theorem fl_drop(hg:∀a,(g a).length=c)(l:List α)(i:Nat):(l.flatMap g).drop (i*c)=(l.drop i).flatMap g:=by
 induction l generalizing i with
 |nil=>simp
 |cons a l ih=>
  cases i<;>grind [Bb,Nat.add_comm,List.drop_drop,List.drop_left]
theorem fl_take(hg:∀a,(g a).length=c)(l:List α)(i:Nat):(l.flatMap g).take (i*c)=(l.take i).flatMap g:=by
 induction l generalizing i with
 |nil=>simp
 |cons a l ih=>
  cases i<;>grind [Bb,Nat.add_comm,List.take_append,AT]
theorem zMo[Inhabited α](hg:∀a,(g a).length=c)(l:List α)(i:Nat)(h:i<l.length):(l.flatMap g).drop (i*c)=g (l.getD i Ae)++(l.drop (i+1)).flatMap g:=by
 grind [fl_drop,Cg,BD]
theorem zCz[Inhabited α](hg:∀a,(g a).length=c)(l:List α)(i:Nat)(h:i<l.length):((l.flatMap g).drop (i*c)).take c=g (l.getD i Ae):=by
 grind [zMo,AT]
theorem zDe(hg:∀a,(g a).length=c)(hc:0<c)(l:List α)(h:0<l.length):l.flatMap g≠[]:=λe=>by
 have:=zDj hg l
 rw[e]at this;have h2:0<l.length*c:=Nat.mul_pos h hc;simp only[Bm]at this;omega
theorem zEv[Inhabited α](hg:∀a,(g a).length=c)(l:List α)(i:Nat)(h:i<l.length):c<=((l.flatMap g).drop (i*c)).length:=by
 grind [zMo,AD]
theorem zX4(l:List α)(a:α):l.flatMap g++g a=(l++[a]).flatMap g:=by simp
theorem zN7(hg:∀a,(g a).length=c)(l:List α)(n:Nat)(h:l.length=n):(l.flatMap g).take (n*c)=l.flatMap g:=by grind [AT,zDj]
theorem zEj[Inhabited α](l:List α)(i:Nat)(h:i<l.length):l.take (i+1)=l.take i++[l.getD i Ae]:=by
 simp_all
end
def To:Par:=⟨λf=>f==91,λ_ _=>AG,λ_=>Ad,λ_=>Ad,λ_=>Ad⟩
theorem zBb:zA7 Am To:=by intro t n f h;cases h
theorem zJ0(cols:List Nat)(i:Nat)(h:i<cols.length):((cols.map λc=>iD (c:Nat)).drop i).headD .unk=iD (cols.getD i 0:Nat):=by simp_all
end
section
open Go.RowKit
attribute [local irreducible] seqW awp zAf zAn zAd Weak updS zAx retL Pure Acts rP setP setQ cP nP fr
set_option maxRecDepth 4096
abbrev relD(ar:Int)(L:List Rw):D:= .agg [iD ar, .row (L.map rowV) L.length]
abbrev relZ:D:= .agg [iD 0, .row [] 0]
theorem zP2(ar:Int)(L:List D)(n:Nat):Pure Am 49 [.agg [iD ar, .row L n]] [] (iD ar):=by
 refine zF zBb mixed Tryz.func49 rfl ?_;refine vAu<|vA<|ve (True/\0<2)<|zE<|vret (True)<|.inr rfl
theorem zKe(ar:Int)(L:List D)(n:Nat):Pure Am 33 [.agg [iD ar, .row L n]] [] (iD (n:Nat)):=by
 refine zF zBb mixed Tryz.func33 rfl ?_;refine vAu<|vA<|ve (True/\0<1)<|zE<|vret (True)<|.inr rfl
theorem new_c(ar:Int)(h0:0<=ar)(h1:ar<=32):Pure Am 89 [iD ar] [] (.tup [.agg [iD ar, .row [] 0],iD 0]):=by
 refine zF zBb mixed Tryz.func89 rfl ?_;focus
  refine vAu<|zA<|vA<|vew [] [(2,Ad)] (decide (ar<0)=Ad)<|vF (ar>(32:Int))<|vK<|vA ?_;refine ve (((1=1/\1<=2/\True)/\Ab=Ab)/\Ad=Ad/\Ab=Ab/\2=2/\2<=2)<|zE<|vret (2<=2)<|.inr rfl
theorem newBad_c(ar:Int)(h:ar<0\/32<ar):Pure Am 89 [iD ar] [] (.tup [relZ,iD 3]):=by
 by_cases h0:ar<0
 ·refine zF zBb mixed Tryz.func89 rfl ?_;focus
   refine vAu<|zA<|vA<|vew [] [(2,Ab)] (decide (ar<0)=Ab)<|vt<|vA<|ve ((True/\Ab=Ab)/\Ad=Ad/\Ab=Ab/\2=2/\2<=2)<|zE<|zG ?_;refine vret (2<=2)<|.inr rfl
 have h1:32<ar:=by omega
 refine zF zBb mixed Tryz.func89 rfl ?_;focus
  refine vAu<|zA<|vA<|vew [] [(2,Ad)] (decide (ar<0)=Ad)<|vT (ar>(32:Int))<|vA<|ve ((True/\Ab=Ab)/\Ad=Ad/\Ab=Ab/\2=2/\2<=2)<|zE<|zG ?_;refine vret (2<=2)<|.inr rfl
def accE(ar:Int)(x:Rw):Int:=if(x.length:Int)≠ar then 6 else if x.all vok then 0 else 4
theorem accepts_c(ar:Int)(x:Rw)(hx:x.length<=2000000):Pure Am 90 [.agg [iD ar, .row [] 0],rowV x] [] (iD (accE ar x)):=by
 have hv:=rvalid_c x _ rfl (by omega);unfold accE;by_cases h:(x.length:Int)=ar
 ·subst h;rw[if_neg (λk=>k rfl)];cases hb:x.all vok
  ·rw[hb]at hv;refine zF zBb mixed Tryz.func90 rfl ?_;focus
    refine vAu<|zA<|vA<|ve (True/\0<2/\True)<|zFs (t:=(Aa x:Int)!=(Aa x:Int)) (by kernel_rfl) (by simp)<|vK<|zA<|zA ?_;refine zB rfl<|vrT 1<|vc hv<|veT<|vt<|vAe<|zE<|zG<|vret (True)<|.inr rfl
  rw[hb]at hv;refine zF zBb mixed Tryz.func90 rfl ?_;focus
   refine vAu<|zA<|vA<|ve (True/\0<2/\True)<|zFs (t:=(Aa x:Int)!=(Aa x:Int)) (by kernel_rfl) (by simp)<|vK<|zA<|zA ?_;refine zB rfl<|vrT 1<|vc hv<|veT<|vf<|vK<|vAe<|zE<|vret (True)<|.inr rfl
 rw[if_pos h];refine zF zBb mixed Tryz.func90 rfl ?_;focus
  refine vAu<|zA<|vA<|ve (True/\0<2/\True)<|zGb (t:=(Aa x:Int)!=ar) (by kernel_rfl) (by simpa using by omega)<|vAe<|zE<|zG ?_;refine vret (True)<|.inr rfl
def accL(ar:Int):List Rw->Int
 |[]=>0
 |x::l=>if accE ar x≠0 then accE ar x else accL ar l
theorem accL_at{ar:Int}:∀{L:List Rw}{i:Nat},(∀j,j<i->accE ar (L.getD j [])=0)->i<L.length->accE ar (L.getD i [])≠0->accL ar L=accE ar (L.getD i [])
 |x::l,0,_,_,h=>by
  grind [accE,only,accL]
 |x::l,i+1,h,hi,he=>by
  have h0:accE ar x=0:=h 0 (by omega);simp only[accL];rw[if_neg (by rw[h0];exact λk=>k rfl)]
  have:=accL_at (ar:=ar) (L:=l) (i:=i) (λj hj=>by have:=h (j+1) (by omega);simpa using this) (by simpa using hi) (by simpa using he)
  rw[this];simp
theorem accL_0{ar:Int}:∀{L:List Rw},(∀j,j<L.length->accE ar (L.getD j [])=0)->accL ar L=0
 |[],_=>rfl
 |x::l,h=>by
  have h0:accE ar x=0:=h 0 (by simp);simp only[accL];rw[if_neg (by rw[h0];exact λk=>k rfl)];exact accL_0 λj hj=>by have:=h (j+1) (by simpa using hj);simpa using this
def rofE(ar:Int)(rows:List Rw):Int:=if accL ar rows≠0 then accL ar rows else if 65536<(relR rows).length then 11 else 0
set_option maxHeartbeats 2000000 in
theorem zWw(ar:Int)(rows:List Rw)(n:Nat)(h0:0<=ar)(h32:ar<=32)(hn:rows.length=n)(hb:n<=2000000)(hl:∀r∈rows,r.length<=2000000):Pure Am 48 [iD ar, .row (rows.map rowV) n] [] (if rofE ar rows=0 then .tup [relD ar (relR rows),iD 0]else .tup [relZ,iD (rofE ar rows)]):=by
 subst hn;have hnew:=new_c ar h0 h32;have hcl:=zVo (rows.map rowV) rows.length (by simp) (by omega);rw[AM]at hcl;refine zF zBb mixed Tryz.func48 rfl ?_;focus
  refine vAu<|vA<|vrT 1<|vc hnew<|ve (0<2/\1<2/\Ad=Ad/\Ab=Ab/\2=2/\2<=2)<|zA<|vAe<|vf ?_;refine vK<|zA<|vAe<|zH ?_;rotate_left
 refine zK (λ(i:Nat)=>fr 41 [(0,iD ar),(1,AA (Ag rowV rows)<|Aa rows),(4,Af 0 0),(6,Af 1 0),(20,iD<|Aa rows),(21,iD i)]) (λ(i:Nat)=>[relB (iD 0) nl,relB (iD ar)<|.row [] 0]) (λ(i:Nat)=>rows.length-i) (λ(i:Nat)=>i<=rows.length/\∀j,j<i->accE ar (rows.getD j [])=0) 0 ?_ ?_ ?_
 ·grind
 ·refine vk 2
 rintro i ⟨h1,h2⟩;rcases AB i rows.length with h3|h3
 ·have hx:=zB1 rows i h3;have hne:rows.map rowV≠[]:=zAm (by omega);have hlr:=hl _ (zCp rows [] i h3);have hac:=accepts_c ar (rows.getD i []) hlr;have hat:=accL_at h2 h3;by_cases he:accE ar (rows.getD i [])=0
  ·rw[he]at hac;focus
    refine vAu<|zA<|vT ((i:Int)<↑(Aa rows))<|vKB<|vAe ?_;refine zA<|vd [1,2,3,0,4,5,6]<|vr 3 (ix ↑i ↑(Aa rows) (Ag rowV rows≠[]))<|vp 27 i (Ag rowV rows)<|vr 2 (2<=2/\0<Aa (Ah i<|Ag rowV rows))<|vsh 28 hx<|vc hac<|veT<|vAe<|vf<|zQ<|zD ?_;refine vN<|zB rfl<|vr 2 (i6 (↑i+1))<|vnil<|zC ?_;rotate_left
   refine⟨i+1,⟨by omega,λj hj=>?_⟩,by omega,?_⟩
   ·grind
   refine vk 2
  have hat:=hat he;have hro:rofE ar rows=accE ar (rows.getD i []):=by unfold rofE;rw[if_pos (by rw[hat];exact he),hat]
  rw[hro,if_neg he];generalize accE ar (rows.getD i [])=e at*;focus
   refine vAu<|zA<|vT ((i:Int)<↑(Aa rows))<|vKB<|vAe ?_;refine zA<|vd [1,2,3,0,4,5,6]<|vr 3 (ix ↑i ↑(Aa rows) (Ag rowV rows≠[]))<|vp 27 i (Ag rowV rows)<|vr 2 (2<=2/\0<Aa (Ah i<|Ag rowV rows))<|vsh 28 hx<|vc hac<|veT<|vAe<|zGb (t:=e !=(0:Int)) (by kernel_rfl) (by simpa using by omega)<|vA ?_;refine ve ((True/\Ab=Ab)/\Ad=Ad/\Ab=Ab/\2=2/\2<=2)<|zE<|zL<|zG<|zG<|zL<|zG<|vret (2<=2)<|.inr rfl
 have ha0:accL ar rows=0:=accL_0 λj hj=>h2 j (by omega);by_cases hU:(relR rows).length<=65536
 ·have hro:rofE ar rows=0:=by unfold rofE;rw[if_neg (by rw[ha0];exact λk=>k rfl),if_neg (by omega)]
  obtain⟨t,hbu⟩:=build_a ar rows _ rfl hb hU hl;have hbk:∀(b0 b1:Bk),Acts Am 91 [iD ar, .osl 2 0 rows.length rows.length Ab] [b0,b1,rwB (rows.map rowV)] [] (.tup [.agg [iD ar, .osl 2 0 (relR rows).length (relR rows).length Ab],iD 0]) [b0,b1,rwB ((relR rows).map rowV++t)]:=λb0 b1=>
   hbu.atG (st:=[b0,b1,rwB (rows.map rowV)]) 2 rfl (Bk.free_arr rfl rfl) (Bk.free_arr rfl rfl) zQa
  have htk:((relR rows).map rowV++t).take (relR rows).length=(relR rows).map rowV:=BE (by simp);rw[hro,if_pos rfl];focus
   refine vAu<|zA<|vF ((i:Int)<↑(Aa rows))<|vZ2<|vA ?_;refine vrT 2<|vn hcl<|vnt [relB (iD 0) nl,relB (iD ar)<|AA [] 0,Ak (Ag rowV rows) (54:TypeId) 1 Ab Ad Ao] ?_;refine zY [] [] [iD ar,Ai 2 0 (Aa rows) (Aa rows) Ab] [iD ar,Ai 2 0 (Aa rows) (Aa rows) Ab] (Az _) (by exact hbk _ _) ?_;refine v0s<|ve (0<2/\1<2/\Ad=Ad/\Ab=Ab/\2=2/\2<=2)<|zE ?_;refine zCf (2<=2) (D.tup [An [iD ar,AA (Ay (Aa<|relR rows)<|Ah 0 (Ag rowV (relR rows)++t))<|Aa<|relR rows],iD 0]) (D.tup [An [Aj<|AN AK ar,AA (Ag rowV<|relR rows)<|Aa<|relR rows],Aj<|AN AK 0]) (.inr rfl) (by omega) (by simp(disch:=omega) only[AY,htk]) rfl
 have hro:rofE ar rows=11:=by unfold rofE;rw[if_neg (by rw[ha0];exact λk=>k rfl),if_pos (by omega)]
 obtain⟨t,hbu⟩:=buildF_a ar rows _ rfl hb (by omega) hl;have hbk:∀(b0 b1:Bk),Acts Am 91 [iD ar, .osl 2 0 rows.length rows.length Ab] [b0,b1,rwB (rows.map rowV)] [] (.tup [.agg [iD 0,nl],iD 11]) [b0,b1,rwB ((relR rows).map rowV++t)]:=λb0 b1=>
  hbu.atG (st:=[b0,b1,rwB (rows.map rowV)]) 2 rfl (Bk.free_arr rfl rfl) (Bk.free_arr rfl rfl) zQa
 rw[hro,if_neg (by decide)];focus
  refine vAu<|zA<|vF ((i:Int)<↑(Aa rows))<|vZ2<|vA ?_;refine vrT 2<|vn hcl<|vnt [relB (iD 0) nl,relB (iD ar)<|AA [] 0,Ak (Ag rowV rows) (54:TypeId) 1 Ab Ad Ao] ?_;refine zY [] [] [iD ar,Ai 2 0 (Aa rows) (Aa rows) Ab] [iD ar,Ai 2 0 (Aa rows) (Aa rows) Ab] (Az _) (by exact hbk _ _) ?_;refine v0s<|ve (0<2/\1<2/\Ad=Ad/\Ab=Ab/\2=2/\2<=2)<|zE<|vret (2<=2)<|.inr rfl
 trace_state
theorem relOf_c(ar:Int)(rows:List Rw)(n:Nat)(h0:0<=ar)(h32:ar<=32)(hn:rows.length=n)(hb:n<=65536)(hl:∀r∈rows,r.length<=2000000):Pure Am 48 [iD ar, .row (rows.map rowV) n] [] (if accL ar rows=0 then .tup [relD ar (relR rows),iD 0]else .tup [relZ,iD (accL ar rows)]):=by
 grind [zWw,zHu,rofE,accL]
def zC4(L:List Rw)(n:Nat):List D:=L.map rowV++AH (n-L.length) (.val (.slice AG 0 0))
theorem fillR_0(n:Nat):repL n [.val (.slice AG 0 0)]=zC4 [] n:=by grind [zE9,zC4]
theorem zSr{L:List Rw}{n:Nat}(h:L.length<=n):(zC4 L n).length=n:=by simp[zC4];omega
theorem zSq(L:List Rw)(n:Nat)(r:Rw)(h:L.length<n):(zC4 L n).set L.length (rowV r)=zC4 (L++[r]) n:=by
 unfold zC4;rw[BW,if_neg (by simp)];simp only[A3,BF,B3,BP,List.map_nil,AD,AS,Bm,Bc,A9,Bn];congr 1;rw[show n-L.length=(n-(L.length+1))+1 by omega,BV,List.set_cons_zero]
theorem zSs(L:List Rw):zC4 L L.length=L.map rowV:=by simp[zC4]
theorem zZi(L:List Rw):(zC4 L L.length).take L.length=L.map rowV:=by grind [zSs,AT]
theorem zEi(L:List Rw)(i:Nat)(h:i<=L.length):(L.take i).length=i:=by grind
set_option maxHeartbeats 2000000 in
theorem zTv(ar:Int)(L:List Rw)(hb:L.length<=65536)(hl:∀r∈L,r.length<=2000000):Pure Am 96 [relD ar L] [] (.row (L.map rowV) L.length):=by
 refine zF zBb mixed Tryz.func96 rfl ?_;focus
  refine vAu<|vA<|vr 5 (True/\0<1/\(0:Int)<=(Aa L:Int)/\(Aa L:Int)<=(Aa L:Int)/\(↑(24:Nat):Int)*(Aa L:Int)<=(281474976710656:Int)/\(Aa L:Int)<=(281474976710656:Int)/\0<1/\1=1)<|vs 3 (Ai 1 0 (Ax (Aa L:Int)) (Ax (Aa L:Int)*1) Ab) (Ai 1 0 (Aa L) (Aa L) Ab) (by simp(disch:=omega) only[AI,AM])<|veT<|zA<|vAe<|zH ?_;rotate_left
 refine zK (λ(i:Nat)=>fr 25 [(1,Af 0 0),(2,nl),(3,Ai 1 0 (Aa L) (Aa L) Ab),(10,iD<|Aa L),(11,iD i)]) (λ(i:Nat)=>[relB (iD ar)<|.row (L.map rowV) L.length,rwB<|zC4 (L.take i) L.length]) (λ(i:Nat)=>L.length-i) (λ(i:Nat)=>i<=L.length) 0 ?_ ?_ ?_
 ·omega
 ·refine wkn (fr 25 [(1,Af 0 0),(2,nl),(3,Ai 1 0 (Aa L) (Aa L) Ab),(10,iD (↑(Aa L):Int)),(11,iD 0)]) [Ak [iD ar,AA (Ag rowV L) (Aa L)] 85 0 Ad Ad Ao,Ak (repL (Aa L) [nl]) 54 1 Ab Ad (kdOf Ad)] (zC8 [(1,1),(2,1),(3,1),(10,1),(11,1)] (Af 0 0=Af 0 0/\nl=nl/\Ai 1 0 (Aa L) (Aa L) Ab=Ai 1 0 (Aa L) (Aa L) Ab/\iD (↑(Aa L):Int)=iD (↑(Aa L):Int)/\iD 0=iD (↑(0:Nat):Int)) 2 [] ⟨rfl,rfl,rfl,rfl,(by kernel_rfl)⟩ (λ_ _=>rfl) (e:=by simp[updB,fillR_0,zGl]))
 rintro i h1;rcases AB i L.length with h2|h2
 ·have hx:=zB1 L i h2;have hne:L.map rowV≠[]:=zAm (by omega);have hlr:=hl _ (zCp L [] i h2);have hcl:=zGc (zJ (L.getD i [])) (L.getD i []).length (zA0 _) (by omega);have hst:=zSq (L.take i) L.length (L.getD i []) (by rw[zEi L i h1];omega);have e1:L.take (i+1)=L.take i++[L.getD i []]:=zEj L i h2;rw[zEi L i h1,<-e1]at hst;have hln:=zSr (L:=L.take i) (n:=L.length) (by rw[zEi L i h1];omega);focus
   refine vAu<|zA<|vT ((i:Int)<↑(Aa L))<|vKB<|vAe ?_;refine zB rfl<|vr 6 (True/\0<1/\ix ↑i ↑(Aa L) (Ag rowV L≠[]))<|vp 19 i (Ag rowV L)<|vr 1 (0<Aa (Ah i<|Ag rowV L))<|vsh 20 hx<|vc hcl<|vr 1 ((0:Int)<=(i:Int)/\(i:Int)<↑(Aa L))<|vo 22 1 i<|vr 1 (AW (rwB<|zC4 (Ay i L)<|Aa L)=Ad/\Ab=Ab/\1=1/\i+1<=Aa (Ap<|rwB<|zC4 (Ay i L)<|Aa L)/\¬1∈[])<|vb 1 (Ak (setAt (Ap<|rwB<|zC4 (Ay i L)<|Aa L) i<|cellsOf<|AA (zJ<|AC L i [])<|Aa<|AC L i []) (Bk.ty<|rwB<|zC4 (Ay i L)<|Aa L) (Bk.sz<|rwB<|zC4 (Ay i L)<|Aa L) Ab Ad<|AX<|rwB<|zC4 (Ay i L)<|Aa L) (Ak (zC4 (Ay (i+1) L)<|Aa L) (54:TypeId) 1 Ab Ad Ao) (by simp(disch:=omega) only[cellsOf,setAt,hst])<|vnil<|zD<|vN ?_;refine zB rfl<|vr 2 (i6 (↑i+1))<|vnil<|zC ?_;rotate_left
  refine⟨i+1,by omega,by omega,?_⟩;refine vk 2
 obtain rfl:i=L.length:=by omega
 rw[List.take_length];have ht:=zZi L;focus
  refine vAu<|zA<|vF ((Aa L:Int)<↑(Aa L))<|vZ2<|vA ?_;refine veT<|zE ?_;refine zCf (True) (AA (Ay (Aa L)<|Ah 0<|Ap<|rwB<|zC4 L<|Aa L)<|Aa L) (AA (Ag rowV L)<|Aa L) (.inr rfl) trivial (by simp(disch:=omega) only[AY,ht]) rfl
set_option maxHeartbeats 4000000 in
theorem zRs(ar:Nat)(L:List Rw)(cols:List Nat)(hb:L.length<=65536)(hc32:cols.length<=32)(hl:∀r∈L,r.length=ar)(har:ar<=1000000)(hc:∀c∈cols,c<ar):Pure Am 133 [relD (ar:Nat) L, .row (cols.map λc=>iD (c:Nat)) cols.length] [] (.tup [relD (cols.length:Nat) (relR (L.map λr=>zT r cols)),iD 0]):=by
 have hbl:∀r∈L.map λr=>zT r cols,r.length<=2000000:=λr hr=>by
  grind [only,zT,A3]
 obtain⟨t,hbu⟩:=build_a (cols.length:Nat) (L.map λr=>zT r cols) L.length (by simp) (by omega) (AR (zHu _) (by rw[A3];exact hb)) hbl;have hbk:∀(b0 b1:Bk),Acts Am 91 [iD (cols.length:Nat), .osl 2 0 L.length L.length Ab] [b0,b1,rwB ((L.map λr=>zT r cols).map rowV)] [] (.tup [.agg [iD (cols.length:Nat), .osl 2 0 (relR (L.map λr=>zT r cols)).length (relR (L.map λr=>zT r cols)).length Ab],iD 0]) [b0,b1,rwB ((relR (L.map λr=>zT r cols)).map rowV++t)]:=λb0 b1=>
  hbu.atG (st:=[b0,b1,rwB ((L.map λr=>zT r cols).map rowV)]) 2 rfl (Bk.free_arr rfl rfl) (Bk.free_arr rfl rfl) zQa
 have htk:((relR (L.map λr=>zT r cols)).map rowV++t).take (relR (L.map λr=>zT r cols)).length=(relR (L.map λr=>zT r cols)).map rowV:=BE (by simp);refine zF zBb mixed Tryz.func133 rfl ?_;focus
  refine vAu<|zA<|vAe<|vF ((Aa cols:Int)>(32:Int))<|vK<|zA<|zA ?_;refine zB rfl<|veT<|zH ?_;rotate_left
 refine zK (λ(i:Nat)=>fr 63 [(1,AA (Ag (λ(c:Nat)=>iD c) cols)<|Aa cols),(2,Af 0 0),(4,Af 1 0),(14,iD<|Aa cols),(15,iD i)]) (λ(i:Nat)=>[relB (iD (ar:Nat))<|.row (L.map rowV) L.length,relB (iD 0) nl]) (λ(i:Nat)=>cols.length-i) (λ(i:Nat)=>i<=cols.length) 0 ?_ ?_ ?_
 ·omega
 ·refine vk 2
 rintro i h1;rcases AB i cols.length with h2|h2
 ·have hx:=zJ0 cols i h2;have hne:(cols.map λc:Nat=>iD (c:Nat))≠[]:=zAm (by omega);have hca:=hc _ (zCp cols 0 i h2);generalize cols.getD i 0=c at*;focus
   refine vAu<|zA<|vT ((i:Int)<↑(Aa cols))<|vKB<|vAe ?_;refine zA<|vd [0,1,2,3,4,5,6,7,8,10,9,11,12,13]<|vr 3 (ix ↑i ↑(Aa cols) (Ag (λ(c:Nat)=>iD c) cols≠[]))<|vp 20 i (Ag (λ(c:Nat)=>iD c) cols)<|vr 1 (0<Aa (Ah i<|Ag (λ(c:Nat)=>iD c) cols))<|vsh 21 hx<|vw 5 [] [(5,Ad)] (decide ((c:Int)<0)=Ad/\ix ↑i ↑(Aa cols) (Ag (λ(c:Nat)=>iD c) cols≠[]))<|vp 26 i (Ag (λ(c:Nat)=>iD c) cols)<|vr 2 (True/\0<Aa (Ah i<|Ag (λ(c:Nat)=>iD c) cols))<|vsh 27 hx<|ve (0<2)<|vF ((c:Int)>=(ar:Int))<|zQ<|zD ?_;refine vN<|zB rfl<|vr 2 (i6 (↑i+1))<|vnil<|zC ?_;rotate_left
  refine⟨i+1,by omega,by omega,?_⟩;refine vk 2
 focus
  refine vAu<|zA<|vF ((i:Int)<↑(Aa cols))<|vZ2<|vA ?_;refine vr 5 (True/\0<1/\(0:Int)<=(Aa L:Int)/\(Aa L:Int)<=(Aa L:Int)/\(↑(24:Nat):Int)*(Aa L:Int)<=(281474976710656:Int)/\(Aa L:Int)<=(281474976710656:Int)/\0<1/\1=1)<|vs 7 (Ai 2 0 (Ax (Aa L:Int)) (Ax (Aa L:Int)*1) Ab) (Ai 2 0 (Aa L) (Aa L) Ab) (by simp(disch:=omega) only[AI,AM])<|veT<|zA<|vAe<|zH ?_;rotate_left
 refine zK (λ(i:Nat)=>fr 63 [(1,AA (Ag (λ(c:Nat)=>iD c) cols)<|Aa cols),(2,Af 0 0),(4,Af 1 0),(7,Ai 2 0 (Aa L) (Aa L) Ab),(39,iD<|Aa L),(40,iD i)]) (λ(i:Nat)=>[relB (iD (ar:Nat))<|.row (L.map rowV) L.length,relB (iD 0) nl,rwB<|zC4 ((L.map λr=>zT r cols).take i) L.length]) (λ(i:Nat)=>L.length-i) (λ(i:Nat)=>i<=L.length) 0 ?_ ?_ ?_
 ·omega
 ·refine wkn (fr 63 [(1,AA (Ag (λ(c:Nat)=>iD (↑c:Int)) cols) (Aa cols)),(2,Af 0 0),(4,Af 1 0),(7,Ai 2 0 (Aa L) (Aa L) Ab),(39,iD (↑(Aa L):Int)),(40,iD 0)]) [relB (iD (↑ar:Int)) (AA (Ag rowV L) (Aa L)),relB (iD 0) nl,Ak (repL (Aa L) [nl]) 54 1 Ab Ad (kdOf Ad)] (zC8 [(1,1),(2,1),(4,1),(7,1),(39,1),(40,1)] (AA (Ag (λ(c:Nat)=>iD (↑c:Int)) cols) (Aa cols)=AA (Ag (λ(c:Nat)=>iD (↑c:Int)) cols) (Aa cols)/\Af 0 0=Af 0 0/\Af 1 0=Af 1 0/\Ai 2 0 (Aa L) (Aa L) Ab=Ai 2 0 (Aa L) (Aa L) Ab/\iD (↑(Aa L):Int)=iD (↑(Aa L):Int)/\iD 0=iD (↑(0:Nat):Int)) 3 [] ⟨rfl,rfl,rfl,rfl,rfl,(by kernel_rfl)⟩ (λ_ _=>rfl) (e:=by simp[updB,fillR_0,zGl]))
 clear h1 h2 i;rintro i h1;have hpl:(L.map λr=>zT r cols).length=L.length:=by simp
 rcases AB i L.length with h2|h2
 ·have hx:=zB1 L i h2;have hne:L.map rowV≠[]:=zAm (by omega);have hlr:=hl _ (zCp L [] i h2);have hpj:=zY1 (L.getD i []) cols _ _ rfl rfl (by omega) (by omega) (λc h=>by rw[hlr];exact hc c h);have hst:=zSq ((L.map λr=>zT r cols).take i) L.length (zT (L.getD i []) cols) (by rw[zEi _ i (by omega)];omega);have e1:(L.map λr=>zT r cols).take (i+1)=(L.map λr=>zT r cols).take i++[zT (L.getD i []) cols]:=by
   grind [zEj,zT]
  have hpc:rowV (zT (L.getD i []) cols)= .row (zJ (zT (L.getD i []) cols)) cols.length:=by simp[zT]
  rw[zEi _ i (by omega),<-e1,hpc]at hst;have hln:=zSr (L:=(L.map λr=>zT r cols).take i) (n:=L.length) (by rw[zEi _ i (by omega)];omega);focus
   refine vAu<|zA<|vT ((i:Int)<↑(Aa L))<|vKB<|vAe ?_;refine zB rfl<|vr 6 (True/\0<1/\ix ↑i ↑(Aa L) (Ag rowV L≠[]))<|vp 49 i (Ag rowV L)<|vr 1 (0<Aa (Ah i<|Ag rowV L))<|vsh 50 hx<|vrT 1<|vc hpj<|vr 4 (0<2/\1<2/\(0:Int)<=(i:Int)/\(i:Int)<↑(Aa L))<|vo 55 2 i<|vr 1 (AW (rwB<|zC4 (Ay i<|Ag (λ(r:List Va)=>zT r cols) L)<|Aa L)=Ad/\Ab=Ab/\1=1/\i+1<=Aa (Ap<|rwB<|zC4 (Ay i<|Ag (λ(r:List Va)=>zT r cols) L)<|Aa L)/\¬2∈[])<|vb 2 (Ak (setAt (Ap<|rwB<|zC4 (Ay i<|Ag (λ(r:List Va)=>zT r cols) L)<|Aa L) i<|cellsOf<|AA (zJ<|zT (AC L i []) cols)<|Aa cols) (Bk.ty<|rwB<|zC4 (Ay i<|Ag (λ(r:List Va)=>zT r cols) L)<|Aa L) (Bk.sz<|rwB<|zC4 (Ay i<|Ag (λ(r:List Va)=>zT r cols) L)<|Aa L) Ab Ad<|AX<|rwB<|zC4 (Ay i<|Ag (λ(r:List Va)=>zT r cols) L)<|Aa L) (Ak (zC4 (Ay (i+1)<|Ag (λ(r:List Va)=>zT r cols) L)<|Aa L) (54:TypeId) 1 Ab Ad Ao) (by simp(disch:=omega) only[cellsOf,setAt,hst])<|vnil<|zD<|zC ?_;refine zAw<|zB rfl<|vr 2 (i6 (↑i+1))<|vnil<|zC ?_;rotate_left
  refine⟨i+1,by omega,by omega,?_⟩;refine vk 3
 obtain rfl:i=L.length:=by omega
 have hfa:=zSs (L.map λr=>zT r cols);rw[hpl]at hfa;rw[AT (by omega),hfa];focus
  refine vAu<|zA<|vF ((Aa L:Int)<↑(Aa L))<|vZ2<|vA ?_;refine vrT 3<|vnt [relB (iD ar)<|AA (Ag rowV L)<|Aa L,relB (iD 0) nl,rwB<|Ag rowV<|Ag (λ(r:List Va)=>zT r cols) L] ?_;refine zY [] [] [iD<|Aa cols,Ai 2 0 (Aa L) (Aa L) Ab] [iD<|Aa cols,Ai 2 0 (Aa L) (Aa L) Ab] (Az _) (by exact hbk _ _) ?_;refine v0s<|ve (0<2/\1<2/\Ad=Ad/\Ab=Ab/\2=2/\2<=2)<|zE ?_;refine zCf (2<=2) (D.tup [An [iD<|Aa cols,AA (Ay (Aa<|relR<|Ag (λ(r:List Va)=>zT r cols) L)<|Ah 0 (Ag rowV (relR<|Ag (λ(r:List Va)=>zT r cols) L)++t))<|Aa<|relR<|Ag (λ(r:List Va)=>zT r cols) L],iD 0]) (D.tup [An [Aj<|AN AK (Aa cols:Int),AA (Ag rowV<|relR<|Ag (λ(r:List Va)=>zT r cols) L)<|Aa<|relR<|Ag (λ(r:List Va)=>zT r cols) L],Aj<|AN AK 0]) (.inr rfl) (by omega) (by simp(disch:=omega) only[AY,htk]) rfl
end
section
open Go.RowKit
theorem zCl(l:List Nat)(k:Nat)(h:k<l.length):((nsD l).drop k).headD .unk=iD (l.getD k 0:Nat):=by simp_all
theorem zBv(l:List Nat)(k:Nat)(h:k<l.length):l.getD k 0∈l:=by
 grind
def zAo(m:Nat):List Nat:=(AE 32).filter λv=>m.testBit v
theorem zY9(m i:Nat)(h:i<32):((AE 32).take (i+1)).filter (λv=>m.testBit v)=((AE 32).take i).filter (λv=>m.testBit v)++if m.testBit i then[i]else[]:=by
 rw[BM (by simpa using h),B5];grind
theorem zL5(l:List Nat)(i:Nat):nsD (l++[i])=nsD l++[iD i]:=by simp
theorem zNw(l:List Nat)(n:Nat)(h:l.length=n):(nsD l).take n=nsD l:=by grind [AT]
def zBy(p:Nat->Bool)(A:List Nat):List Nat:=(AE A.length).filter λj=>p (A.getD j 0)
theorem zMw(p:Nat->Bool)(A:List Nat)(i:Nat)(h:i<A.length):((AE A.length).take (i+1)).filter (λj=>p (A.getD j 0))=((AE A.length).take i).filter (λj=>p (A.getD j 0))++if p (A.getD i 0)then[i]else[]:=by
 rw[BM (by simpa using h),B5];grind
abbrev intB(l:List D):Bk:=⟨l,3,1,Ab,Ad, .plain⟩
def fA(N:Nat)(g:Nat->D):List D:=(AE N).map g
section
variable {N : Nat} {g g' : Nat → D} {i : Nat} {x : D}
theorem zEx:(fA N g).length=N:=by simp[fA]
theorem zX6(h:i<N):(fA N g)[i]?=Al (g i):=by simp[fA,h]
theorem zD4(h:i<N):((fA N g).drop i).headD .unk=g i:=by
 grind [List.head?_drop,zX6]
theorem zCa(h:i<N):0<((fA N g).drop i).length:=by grind [B6,zEx]
theorem fA_ne(h:i<N):fA N g≠[]:=λe=>by
 have:=zEx (N:=N) (g:=g)
 rw[e]at this;simp only[Bm]at this;omega
theorem zB5(h:∀i,i<N->g i=g' i):fA N g=fA N g':=List.map_congr_left λi hi=>h i (AZ.1 hi)
theorem zEw:(fA N g).set i x=fA N λj=>if j=i then x else g j:=by
 unfold fA;apply A0;grind
theorem zX5:∀(l:List D)(o:Nat)(g:Nat->D),setAt (fA N g) o l=fA N λj=>if o<=j/\j<o+l.length then l.getD (j-o) .unk else g j
 |[],o,g=>by
  rw[setAt];exact zB5 λj _=>by rw[if_neg (by simp only[Bm];omega)]
 |d::l,o,g=>by
  rw[setAt,zEw,zX5 l (o+1)];grind
theorem zLp:∀(xs ys pre:List D),xs.length=ys.length->setAt (pre++xs) pre.length ys=pre++ys
 |[],[],pre,_=>rfl
 |x::xs,y::ys,pre,h=>by
  have e:(pre++x::xs).set pre.length y=(pre++[y])++xs:=by rw[List.set_append_right _ _ (Aw _),BF];simp
  rw[setAt,e]
  have:=zLp xs ys (pre++[y]) (by simpa using h)
  grind
theorem setAt_rep(d:D){l:List D}(h:l.length=N):setAt (AH N d) 0 l=l:=zLp _ l [] (by simp[h])
theorem fA_rep(d:D):AH N d=fA N λ_=>d:=by
 unfold fA;apply A0;grind
end
theorem fl_set{c n v:Nat}{g:Nat->List D}{xs:List D}(hg:∀a,(g a).length=c)(hx:xs.length=c)(hv:v<n):setAt ((AE n).flatMap g) (v*c) xs=(AE n).flatMap λu=>if u=v then xs else g u:=by
 have key:∀(l:List Nat)(k:Nat),k<l.length->l.Nodup->setAt (l.flatMap g) (k*c) xs=l.flatMap λu=>if u=l.getD k 0 then xs else g u:=by
  have put:∀(ys pre zs:List D),xs.length=ys.length->setAt (pre++ys++zs) pre.length xs=pre++xs++zs:=by
   clear hx hg;induction xs with
   |nil=>intro ys pre zs h;rw[setAt,Ch (l:=ys) (by simpa using h.symm)]
   | cons x xs ih=>
    intro ys pre zs h;cases ys with
    |nil=>simp at h
    | cons y ys=>
     rw[setAt];have e:(pre++y::ys++zs).set pre.length x=(pre++[x])++ys++zs:=by
      grind
     grind
  intro l k hk hn;have e1:l=l.take k++l.getD k 0::l.drop (k+1):=by
   simp_all
  generalize hm:l.getD k 0=m at e1⊢;have hlen:(l.take k).length=k:=by rw[BN];omega
  rw[e1]at hn;obtain⟨h1,h2,h3⟩:=List.nodup_append.1 hn;have no:∀L:List Nat,m∉L->(L.flatMap λu=>if u=m then xs else g u)=L.flatMap g:=λL h=>by
   induction L<;>grind
  have hm1:m∉l.take k:=λhh=>h3 m hh m (List.mem_cons_self ..) rfl;have hm2:m∉l.drop (k+1):=(B7.1 h2).1;rw[e1,B8,B8,A7,A7,no _ hm1,no _ hm2,if_pos rfl]
  have:=put (g m) ((l.take k).flatMap g) ((l.drop (k+1)).flatMap g) (by rw[hx,hg])
  grind [zDj,Bc]
 grind
theorem repL_fl(z:List D):∀n,repL n z=(AE n).flatMap λ_=>z:=λn=>by
 have key:∀(l:List Nat),l.flatMap (λ_=>z)=repL l.length z:=λl=>by
  induction l with
  |nil=>rfl
  |cons a l ih=>rw[A7,ih];rfl
 rw[key,List.length_range]
structure Bg where
 v:Nat
 k:Nat
 p:Int
 deriving Inhabited
abbrev bgC(b:Bg):List D:=[iD (b.v:Nat),u32D b.k,iD b.p]
abbrev bgS(b:Bg):Nat:=b.k|||2^b.v
def ordL(f:Nat)(P:List Nat):List Nat:=P++(AE f).reverse
def oI(m:Nat)(O:List Nat)(i u:Nat):Nat:=if u<m+i then O.getD u 0 else 0
def pI(O:List Nat)(i u:Nat):Nat:=if O.idxOf u<i then O.idxOf u else 0
def bI(b:Nat->Bg)(O:List Nat)(i v:Nat):List D:=if O.idxOf v<i then[iD ((b v).v:Nat), .val (.int .u32 ((b v).k:Nat)),iD (b v).p]else[iD 0, .val (.int .u32 0),iD 0]
theorem bI_len(b:Nat->Bg)(O:List Nat)(i v:Nat):(bI b O i v).length=3:=by unfold bI;split<;>rfl
def andm(e m:Nat):Nat:=(A4 32 ((e:Nat):Int)&&&~~~A4 32 ((m:Nat):Int)).toNat
theorem andm_32(e m:Nat):andm e m<4294967296:=BitVec.isLt _
theorem zYk{e m:Nat}(he:e<4294967296)(hm:m<4294967296)(i:Nat):(andm e m).testBit i=(e.testBit i&&!m.testBit i):=by
 unfold andm;rw[BitVec.toNat_and,BitVec.toNat_not,bv_nat he,bv_nat hm,Nat.testBit_and];rcases AB i 32 with h|h
 ·rw[show 2^32-1-m=2^32-(m+1) by omega,Nat.testBit_two_pow_sub_succ (n:=32) hm];simp[h]
 rw[Nat.testBit_lt_two_pow (Br he (Nat.pow_le_pow_right (n:=2) (by omega) h):e<2^i)];rfl
theorem bit_b0{m:Nat}(hm:m<4294967296)(v:Nat):((((A4 32 ((m>>>v:Nat):Int)&&&A4 32 1).toNat:Nat):Int)==0)=!m.testBit v:=by
 grind [bit_eq]
def nbJ(key v j:Nat)(nb:Nat->Nat)(u:Nat):Nat:=if u<j/\key.testBit u=Ab then andm (nb u|||key) (2^u|||2^v)else nb u
def parJ(key:Nat)(pl:Nat->Nat):Nat->Option Nat
 |0=>AG
 | j+1=>if key.testBit j=Ab then(match parJ key pl j with
   |none=>Al j
   |some p=>if pl j<pl p then Al j else Al p)else parJ key pl j
def pz:Option Nat->Int
 |none=>-1
 |some p=>(p:Nat)
theorem zL0{key:Nat}{pl:Nat->Nat}:∀{j p:Nat},parJ key pl j=Al p->p<j/\key.testBit p=Ab
 | j+1,p,h=>by
  rw[parJ]at h;split at h
  ·rename_i hb;cases e:parJ key pl j with
   |none=>rw[e]at h;cases h;exact⟨Nat.lt_succ_self _,hb⟩
   |some q=>
    rw[e]at h
    have:=zL0 e
    grind
  have:=zL0 h
  grind
theorem nbJ_32{key v j:Nat}{nb:Nat->Nat}(h:∀u,nb u<4294967296)(u:Nat):nbJ key v j nb u<4294967296:=by
 grind [nbJ,andm_32]
theorem nbJ_zero(key v:Nat)(nb:Nat->Nat):nbJ key v 0 nb=nb:=by grind [nbJ]
theorem nbJ_succ{key v j:Nat}{nb:Nat->Nat}(h:key.testBit j=Ab)(u:Nat):nbJ key v (j+1) nb u=if u=j then andm (nb j|||key) (2^j|||2^v)else nbJ key v j nb u:=by
 grind [nbJ]
theorem nbJ_no{key v j:Nat}{nb:Nat->Nat}(h:key.testBit j=Ad):nbJ key v (j+1) nb=nbJ key v j nb:=by grind [nbJ]
def nbT(n:Nat)(O:List Nat)(nb:Nat->Nat):Nat->Nat->Nat
 |0=>nb
 |i+1=>nbJ (nbT n O nb i (O.getD i 0)) (O.getD i 0) n (nbT n O nb i)
theorem zH0{n:Nat}{O:List Nat}{nb:Nat->Nat}(h:∀u,nb u<4294967296):∀i u,nbT n O nb i u<4294967296
 |0=>h
 |i+1=>nbJ_32 (zH0 h i)
def bagE(n:Nat)(O:List Nat)(nb:Nat->Nat)(v:Nat):Bg:=⟨v,nbT n O nb (O.idxOf v) v,pz (parJ (nbT n O nb (O.idxOf v) v) (λu=>O.idxOf u) n)⟩
section
variable {n f : Nat} {P : List Nat} (hf : P.length + f = n) (hP : ∀ v ∈ P, f ≤ v ∧ v < n) (hn : P.Nodup)
include hf in
theorem zP8:(ordL f P).length=n:=by simp[ordL];omega
include hP hf in
theorem zT1:∀v∈ordL f P,v<n:=λv hv=>by
 rcases Bs.1 hv with h|h
 ·exact(hP v h).2
 simp at h;omega
include hP hn in
theorem zT0:(ordL f P).Nodup:=by
 grind [ordL,List.nodup_append,List.reverse_perm,List.nodup_range]
end
theorem zF7:∀{n:Nat}{L:List Nat},L.Nodup->(∀v∈L,v<n)->L.length<=n
 |0,L,_,h=>by
  cases L with
  |nil=>exact Aw _
  |cons a L=>exact absurd (h a (List.mem_cons_self ..)) (Nat.not_lt_zero _)
 | n+1,L,hn,h=>by
  by_cases hm:n∈L
  ·have h1:=zF7 (n:=n) (hn.erase n) λv hv=>by
    obtain⟨h2,h3⟩:=(List.Nodup.mem_erase_iff hn).1 hv
    have:=h v h3
    omega
   rw[List.length_erase_of_mem hm]at h1;omega
  have:=zF7 (n:=n) hn λv hv=>by
   have:=h v hv
   rcases AB v n with h4|h4
   ·exact h4
   exact absurd (show n∈L by rw[show n=v by omega];exact hv) hm
  omega
theorem zGj{n:Nat}{L:List Nat}(h1:L.Nodup)(h2:L.length=n)(h3:∀v∈L,v<n)(v:Nat)(hv:v<n):v∈L:=by
 by_cases hm:v∈L
 ·exact hm
 have:=zF7 (n:=n) (L:=v::L) (B7.2 ⟨hm,h1⟩) λx hx=>by
  grind
 grind
end
section
open Go.RowKit
attribute [local irreducible] seqW awp zAf zAn zAd Weak updS zAx retL Pure Acts rP setP setQ cP nP fr
set_option maxRecDepth 4096
abbrev q5_(x0:List Nat):=AA (nsD x0) (Aa x0)
set_option maxHeartbeats 1000000 in
theorem icols_c(A:List Nat)(n:Nat)(hn:A.length=n)(hl:n<=1000)(hA:∀v∈A,v<32)(m:Nat)(hm:m<4294967296):Pure Am 95 [.row (nsD A) n,u32D m] [] (.row (nsD (zBy (λv=>m.testBit v) A)) (zBy (λv=>m.testBit v) A).length):=by
 subst hn;refine zF zBb mixed Tryz.func95 rfl ?_;focus
  refine vAu<|vAe<|zA<|vAe<|zH ?_;rotate_left
 refine zGd (λ(i:Nat)(l:List Nat)=>fr 26 [(1,u32D m),(4,nl),(5,Ai 0 0 (Aa l) (Aa l) Ab),(8,(q5_ A)),(9,iD<|Aa A),(10,iD i)]) (λi l=>[intB<|nsD l]) (λi l=>A.length-i) (λ(i:Nat)(l:List Nat)=>i<=A.length/\l=((AE A.length).take i).filter λj=>m.testBit (A.getD j 0)) 0 [] ?_ ?_ ?_
 ·grind
 ·refine vk 0
 rintro i l ⟨h1,h2⟩;rcases AB i A.length with h3|h3
 ·have h4:=zMw (λv=>m.testBit v) A i h3;rw[<-h2]at h4;have hlen:l.length<=1000:=by rw[h2];exact AR (B9 _ _) (by simp;omega)
  have h5:=hA _ (zBv A i h3);focus
   refine vAu<|zA<|vT ((i:Int)<↑(Aa A))<|vKB<|vA<|vr 2 (ix ↑i ↑(Aa A) (nsD A≠[])) ?_ ⟨(by omega),⟨(by omega),(by exact zAm (by omega))⟩⟩;refine vp 13 i (nsD A)<|vr 1 (0<Aa (Ah i<|nsD A))<|vs 14 (AO (Ah i<|nsD A) Uk) (iD ↑(AC A i 0)) (by simp(disch:=omega) only[zCl])<|veT<|vA<|vr 3 ((0:Int)<=(↑(AC A i 0):Int))<|vs 17 (Aj<|AN IntKind.u32<|Int.fdiv (m:Int) ((2:Int)^min (Ax (↑(AC A i 0):Int)) 32)) (dig (m>>>AC A i 0)) (by simp(disch:=omega) only[AI,zE4])<|vrT 1<|vs 18 (Aj<|AN IntKind.u32<|IntKind.wrap IntKind.u32 (↑(B_ (A4 32 (↑(m>>>AC A i 0):Int)&&&A4 32 (1:Int))):Int)) (dig<|B_ (A4 32 (↑(m>>>AC A i 0):Int)&&&A4 32 (1:Int))) (by simp(disch:=omega) only[zA4])<|vrT 1<|vs 19 (bD ((↑(B_ (A4 32 (↑(m>>>AC A i 0):Int)&&&A4 32 (1:Int))):Int)==(1:Int))) (bD<|Nat.testBit m<|AC A i 0) (by simp(disch:=omega) only[bit_b])<|veT ?_;refine zAa (t:=Nat.testBit m (AC A i 0)) (by kernel_rfl) (λhc=>?_)<|λhc=>?_;refine zB rfl<|vr 5 (((1=1/\1<=1/\True)/\0<1/\1=1/\1<=16777216/\1<=9223372036854775807)/\Bk.arr (intB<|nsD l)=Ab/\Aa (Ap<|intB<|nsD l)=Aa l*1/\Aa l=Aa l*1/\Bk.ty (intB<|nsD l)=3/\Bk.sz (intB<|nsD l)=1/\1=1/\0<1/\0<8/\3=3/\(Aa l+1)*8<=140737488355328/\1=1/\BC (AX<|intB<|nsD l)=Ad/\(Ad=Ad\/Kd.isSh (AX<|intB<|nsD l)=Ab))<|vs 5 (Ai 0 0 (Aa l+1) ((Aa l+1)*1) Ab) (Ai 0 0 (Aa l+1) (Aa l+1) Ab) (by simp(disch:=omega) only[AM])<|vnil<|zD<|vN<|zB rfl<|vr 2 (i6 (↑i+1))<|vnil<|zC ?_;rotate_left;refine zQ<|zD<|vN<|zB rfl<|vr 2 (i6 (↑i+1))<|vnil<|zC ?_;rotate_left
  ·have hc2:m.testBit (A.getD i 0)=true:=by assumption
   rw[hc2,if_pos rfl]at h4;refine⟨i+1,l++[i],⟨by omega,h4.symm⟩,by omega,?_⟩;rw[zL5,AD];refine vk 1
  have hc2:m.testBit (A.getD i 0)=false:=by assumption
  rw[hc2,if_neg (by decide),BY]at h4;refine⟨i+1,l,⟨by omega,h4.symm⟩,by omega,?_⟩;refine vk 1
 focus
  refine vAu<|zA<|vF ((i:Int)<↑(Aa A))<|vZ2<|vA ?_;refine veT<|zE ?_;refine zCf (True) (AA (Ay (Aa l)<|Ah 0<|Ap<|intB<|nsD l)<|Aa l) (AA (Ay (Aa l)<|nsD l)<|Aa l) (.inr rfl) trivial (by simp(disch:=omega) only[AY]) ?_;rotate_left
 have e:i=A.length:=by omega
 subst e;rw[AT (by simp)]at h2;rw[h2,zNw _ _ rfl];rfl
theorem pick_c(r:List Va)(cols:List Nat)(n m:Nat)(hn:r.length=n)(hm:cols.length=m)(ln:n<=1000000)(lm:m<=100000)(hc:∀c∈cols,c<r.length):Pure Am 98 [.row (zJ r) n, .row (nsD cols) m] [] (.row (zJ (zT r cols)) m):=by
 subst hn hm;have hci:∀i,i<cols.length->cols.getD i 0<r.length:=λi h=>hc _ (zBv cols i h);have hpl:(zT r cols).length=cols.length:=by simp[zT]
 have hcl:∀i,i<=cols.length->(zJ ((zT r cols).take i)).length=i*3:=λi h=>by rw[zA0,BN,hpl,BX h]
 refine zF zBb mixed Tryz.func98 rfl ?_;focus
  refine vAu<|vA<|ve ((0:Int)<=(0:Int)/\(0:Int)<=(Aa cols:Int)/\(↑(32:Nat):Int)*(Aa cols:Int)<=(281474976710656:Int)/\(Aa cols:Int)<=(281474976710656:Int)/\0<3/\3=3)<|zA<|vAe<|zH ?_;rotate_left
 refine zK (λ(i:Nat)=>fr 26 [(0,(q3_ r)),(4,nl),(5,Ai 0 0 i (i*3) Ab),(11,(q5_ cols)),(12,iD<|Aa cols),(13,iD i)]) (λ(i:Nat)=>[vaB<|(zT r cols).take i]) (λ(i:Nat)=>cols.length-i) (λ(i:Nat)=>i<=cols.length) 0 ?_ ?_ ?_
 ·omega
 ·refine vk 1
 intro i h1;rcases AB i cols.length with h3|h3
 ·have hi:=hci i h3;have hil:=hcl i h1;have htk:(zT r cols).take (i+1)=(zT r cols).take i++[r.getD (cols.getD i 0) Ae]:=by
   grind [BM,zT]
  focus
   refine vAu<|zA<|vT ((i:Int)<↑(Aa cols))<|vKB<|vA<|vr 1 (ix ↑i ↑(Aa cols) (nsD cols≠[])) ?_ ⟨(by omega),⟨(by omega),(by exact zAm (by omega))⟩⟩;refine vp 15 i (nsD cols)<|vr 1 (0<Aa (Ah i<|nsD cols))<|vs 16 (AO (Ah i<|nsD cols) Uk) (iD ↑(AC cols i 0)) (by simp(disch:=omega) only[zCl])<|veT<|zB rfl<|vr 5 (ix ↑(AC cols i 0) ↑(Aa r) (zJ r≠[])/\3<=Aa (Ah (AC cols i 0*3)<|zJ r)) (vs 21 (An<|Ay 3<|Ah (AC cols i 0*3)<|zJ r) (An<|vaC<|AC r (AC cols i 0) Ae) (by simp(disch:=omega) only[zDs])<|vr 3 (((3=3/\3<=3/\True)/\0<3/\3=3/\3<=16777216/\1<=9223372036854775807)/\Bk.arr (vaB<|Ay i<|zT r cols)=Ab/\Aa (Ap<|vaB<|Ay i<|zT r cols)=i*3/\i*3=i*3/\Bk.ty (vaB<|Ay i<|zT r cols)=64/\Bk.sz (vaB<|Ay i<|zT r cols)=3/\3=3/\0<3/\0<32/\64=64/\(i+1)*32<=140737488355328/\3=3/\BC (AX<|vaB<|Ay i<|zT r cols)=Ad/\(Ad=Ad\/Kd.isSh (AX<|vaB<|Ay i<|zT r cols)=Ab))<|vnil<|zD<|vN<|zB rfl<|vr 2 (i6 (↑i+1)) ?_) ⟨⟨(by omega),⟨(by omega),(by exact zHp _ (by omega))⟩⟩,(by exact zGw _ _ (by omega))⟩;refine vnil<|zC ?_;rotate_left
  refine⟨i+1,by omega,by omega,?_⟩;have hvb:vaB ((zT r cols).take (i+1))=⟨zJ ((zT r cols).take i)++vaC (r.getD (cols.getD i 0) Ae),64,3,Ab,Ad, .plain⟩:=by rw[htk];show Ak (zJ (_++[_])) _ _ _ _ _=_;rw[zJ8];simp[zJ]
  rw[hvb];refine vk 1
 obtain rfl:i=cols.length:=by omega
 rw[AT (by omega)];have ht:=zRd (zT r cols) _ hpl;focus
  refine vAu<|zA<|vF ((Aa cols:Int)<↑(Aa cols))<|vZ2<|vA ?_;refine veT<|zE ?_;refine zCf (True) (AA (Ay (Aa cols*3)<|Ah 0<|Ap<|vaB<|zT r cols)<|Aa cols) (AA (zJ<|zT r cols)<|Aa cols) (.inr rfl) trivial (by simp(disch:=omega) only[AY,ht]) rfl
end
abbrev Tri:=List (List Va×List Nat)
def szT:Tri->Nat
 |[]=>0
 |l::_=>l.1.length
def adT:List Va->Nat->Tri->Tri
 |v::x,0,l::t=>(l.1++[v],l.2++[szT t])::adT x 0 t
 |v::x,f+1,l::t=>l::adT x f t
 |_,_,t=>t
def finT:Tri->Tri
 |[]=>[]
 |l::t=>(l.1,l.2++[szT t])::finT t
def rws:Tri->Nat->Nat->List (List Va)
 |[],_,_=>[[]]
 |l::t,a,b=>(AP a (b-a)).flatMap λi=>(rws t (l.2.getD i 0) (l.2.getD (i+1) 0)).map (l.1.getD i Ae::·)
def InvT:Tri->Prop
 |[]=>True
 |l::t=>l.2.length=l.1.length/\(t≠[]->∀i,i<l.1.length->l.2.getD i 0<szT t)/\InvT t
def Goes:Tri->Tri->Prop
 |[],t'=>t'=[]
 |l::t,[]=>False
 |l::t,l'::t'=>(∃p,l'.1=l.1++p)/\(∃r,l'.2=l.2++r)/\Goes t t'
theorem zBn{α:Type}(p r:List α)(d:α)(i:Nat)(h:i<p.length):(p++r).getD i d=p.getD i d:=by
 grind
theorem zDz{β:Type}{g h:Nat->List β}(a n:Nat)(e:∀i,a<=i->i<a+n->g i=h i):(AP a n).flatMap g=(AP a n).flatMap h:=by
 induction n generalizing a with
 |zero=>rfl
 |succ n ih=>
  rw[Bo,A7,A7,e a (Aw _) (by omega),ih (a+1) λi h1 h2=>e i (by omega) (by omega)]
theorem finT_nil{t:Tri}:finT t=[]↔t=[]:=by cases t<;>simp[finT]
theorem zWo:∀(t t':Tri)(a b:Nat),InvT t->Goes t t'->b<szT t->rws (finT t') a b=rws (finT t) a b
 |[],t',a,b,hi,hg,hb=>by rw[show t'=[]from hg]
 |l::t,[],a,b,hi,hg,hb=>absurd hg (by simp[Goes])
 |l::t,l'::t',a,b,⟨h1,h2,h3⟩,⟨⟨p,hp⟩,⟨r,hr⟩,hg⟩,hb=>by
  simp only[finT,rws];simp only[szT]at hb;refine zDz a _ λi i1 i2=>?_;rw[hp,hr,Bc,zBn l.1 p _ i (by omega),zBn l.2 _ _ i (by omega),zBn l.2 _ _ (i+1) (by omega),zBn l.2 _ _ i (by omega),zBn l.2 _ _ (i+1) (by omega)];congr 1;cases t with
  |nil=>rw[show t'=[]from hg]
  |cons m t=>exact zWo _ _ _ _ h3 hg (h2 (by simp) _ (by omega))
theorem zWp:∀(t:Tri)(x:List Va)(a b:Nat),InvT t->x.length=t.length->b<=szT t->rws (finT (adT x 0 t)) a b=rws (finT t) a b
 |[],x,a,b,hi,hx,hb=>by cases x<;>rfl
 |l::t,[],a,b,hi,hx,hb=>by simp at hx
 | l::t,v::x,a,b,⟨h1,h2,h3⟩,hx,hb=>by
  simp only[adT,finT,rws];simp only[szT]at hb;refine zDz a _ λi i1 i2=>?_;rw[zBn l.1 _ _ i (by omega),zBn (l.2++[szT t]) _ _ i (by simp;omega),zBn (l.2++[szT t]) _ _ (i+1) (by simp;omega)];congr 1;cases t with
  |nil=>cases x with
   |nil=>rfl
   |cons _ _=>simp at hx
  |cons m t=>
   refine zWp _ _ _ _ h3 (by simpa using hx) ?_;grind
theorem zD7(t:Tri)(x:List Va)(hx:x.length=t.length):szT (adT x 0 t)=if t=[]then 0 else szT t+1:=by
 cases t with
 |nil=>cases x<;>rfl
 |cons l t=>cases x with
  |nil=>simp at hx
  |cons v x=>simp[adT,szT]
theorem rws_new:∀(t:Tri)(x:List Va),InvT t->x.length=t.length->rws (finT (adT x 0 t)) (szT t) (szT t+1)=[x]
 |[],x,hi,hx=>by cases x with
  |nil=>rfl
  |cons _ _=>simp at hx
 |l::t,[],hi,hx=>by simp at hx
 | l::t,v::x,⟨h1,h2,h3⟩,hx=>by
  show rws (finT ((l.1++[v],l.2++[szT t])::adT x 0 t)) l.1.length (l.1.length+1)=_;simp only[finT,rws];rw[show l.1.length+1-l.1.length=1 by omega,List.range'_one,A7,List.flatMap_nil,BY];have e1:(l.1++[v]).getD l.1.length Ae=v:=by
   grind
  have e2:(l.2++[szT t]++[szT (adT x 0 t)]).getD l.1.length 0=szT t:=by
   grind
  have e3:(l.2++[szT t]++[szT (adT x 0 t)]).getD (l.1.length+1) 0=szT (adT x 0 t):=by
   grind
  rw[e1,e2,e3];cases t with
  |nil=>cases x with
   |nil=>rfl
   |cons _ _=>simp at hx
  |cons m t=>
   rw[zD7 _ _ (by simpa using hx),if_neg (by simp),rws_new _ _ h3 (by simpa using hx)];rfl
theorem zLt(t:Tri)(a b c:Nat)(ht:t≠[])(h1:a<=b)(h2:b<=c):rws t a c=rws t a b++rws t b c:=by
 cases t with
 |nil=>exact absurd rfl ht
 |cons l t=>
  simp only[rws];rw[<-B8,show c-a=(b-a)+(c-b) by omega,<-BR,show a+(b-a)=b by omega]
theorem rws_one(l:List Va×List Nat)(t:Tri)(i:Nat):rws (l::t) i (i+1)=(rws t (l.2.getD i 0) (l.2.getD (i+1) 0)).map (l.1.getD i Ae::·):=by
 simp only[rws];simp_all
def Lst:Nat->List Va->Tri->Prop
 |0,_,_=>True
 |f+1,v::x,l::t=>0<l.1.length/\l.1.getD (l.1.length-1) Ae=v/\Lst f x t
 |_,_,_=>False
theorem zJa:∀(f:Nat)(x:List Va)(t:Tri),x.length=t.length->Goes t (adT x f t)
 |_,[],t,hx=>by
  cases t with
  |nil=>rfl
  |cons _ _=>simp at hx
 |_,v::x,[],hx=>by simp at hx
 |0,v::x,l::t,hx=>⟨⟨[v],rfl⟩,⟨[szT t],rfl⟩,zJa 0 x t (by simpa using hx)⟩
 |f+1,v::x,l::t,hx=>⟨⟨[],by simp⟩,⟨[],by simp⟩,zJa f x t (by simpa using hx)⟩
theorem zPr(f:Nat)(x:List Va)(t:Tri)(hx:x.length=t.length):szT (adT x (f+1) t)=szT t:=by
 cases t with
 |nil=>cases x<;>rfl
 |cons l t=>cases x with
  |nil=>simp at hx
  |cons v x=>rfl
theorem zTr:∀(f:Nat)(x:List Va)(t:Tri)(a:Nat),InvT t->x.length=t.length->f<x.length->Lst f x t->(a<=szT t/\(0<f->a<szT t))->rws (finT (adT x f t)) a (szT (adT x f t))=rws (finT t) a (szT t)++[x]
 |0,x,t,a,hi,hx,hf,hl,ha=>by
  have ht:t≠[]:=λe=>by subst e;rw[hx]at hf;exact absurd hf (by simp)
  rw[zD7 t x hx,if_neg ht,zLt _ a (szT t) _ (by rw[Ne,finT_nil];intro e;have:=zJa 0 x t hx;rw[e]at this;cases t<;>simp[Goes]at this;exact ht rfl) ha.1 (by omega),zWp t x a _ hi hx (Aw _),rws_new t x hi hx]
 |f+1,[],t,a,hi,hx,hf,hl,ha=>by simp at hf
 |f+1,v::x,[],a,hi,hx,hf,hl,ha=>by simp at hx
 | f+1,v::x,l::t,a,⟨h1,h2,h3⟩,hx,hf,⟨hl1,hl2,hl3⟩,ha=>by
  have hx':x.length=t.length:=by simpa using hx
  have hf':f<x.length:=by simpa using hf
  have ht:t≠[]:=λe=>by subst e;rw[hx']at hf';exact absurd hf' (by simp)
  have hz:szT (l::t)=l.1.length:=rfl;have ha':a<l.1.length:=ha.2 (by omega);have hg:=zJa (f+1) (v::x) (l::t) hx;have hzz:szT (adT (v::x) (f+1) (l::t))=l.1.length-1+1:=by rw[zPr _ _ _ hx,hz];omega
  have hzs:szT (l::t)=l.1.length-1+1:=by rw[hz];omega
  rw[hzz,hzs];rw[zLt _ a (l.1.length-1) _ (by simp[adT,finT]) (by omega) (by omega),zLt (finT (l::t)) a (l.1.length-1) _ (by simp[finT]) (by omega) (by omega),
   zWo (l::t) _ a _ ⟨h1,h2,h3⟩ hg (by rw[hz];omega),Bc]
  congr 1;simp only[adT,finT];rw[rws_one,rws_one];have g1:∀z,(l.2++[z]).getD (l.1.length-1) 0=l.2.getD (l.1.length-1) 0:=λz=>zBn _ _ _ _ (by omega);have g2:∀z,(l.2++[z]).getD (l.1.length-1+1) 0=z:=λz=>by
   grind
  have hlt:=h2 ht (l.1.length-1) (by omega);rw[g1,g1,g2,g2,hl2,zTr f x t _ h3 hx' hf' hl3 ⟨BB hlt,λ_=>hlt⟩,B3];rfl
theorem szT_le(f:Nat)(x:List Va)(t:Tri)(hx:x.length=t.length):szT t<=szT (adT x f t):=by
 cases f with
 |zero=>
  rw[zD7 t x hx];split
  ·rename_i h;subst h;exact Aw _
  omega
 |succ f=>rw[zPr f x t hx];exact Aw _
theorem adT_ne{f:Nat}{x:List Va}{t:Tri}(hx:x.length=t.length)(h:adT x f t≠[]):t≠[]:=by
 rintro rfl;cases x with
 |nil=>exact h (by cases f<;>rfl)
 |cons v x=>simp at hx
theorem zJz:∀(f:Nat)(x:List Va)(t:Tri),InvT t->x.length=t.length->InvT (adT x f t)
 |_,[],t,hi,hx=>by
  cases t with
  |nil=>exact hi
  |cons _ _=>simp at hx
 |_,v::x,[],hi,hx=>by simp at hx
 |0,v::x,l::t,⟨h1,h2,h3⟩,hx=>by
  have hx':x.length=t.length:=by simpa using hx
  refine⟨by simp[h1],λht i hi=>?_,zJz 0 x t h3 hx'⟩;have ht':=adT_ne hx' ht;rw[zD7 t x hx',if_neg ht'];grind
 |f+1,v::x,l::t,⟨h1,h2,h3⟩,hx=>by
  have hx':x.length=t.length:=by simpa using hx
  exact⟨h1,λht i hi=>Br (h2 (adT_ne hx' ht) i hi) (szT_le f x t hx'),zJz f x t h3 hx'⟩
theorem zQg:∀(f:Nat)(x:List Va)(t:Tri),x.length=t.length->Lst f x t->Lst x.length x (adT x f t)
 |_,[],t,hx,h=>trivial
 |_,v::x,[],hx,h=>by simp at hx
 |0,v::x,l::t,hx,h=>by
  have hx':x.length=t.length:=by simpa using hx
  refine⟨by simp,?_,zQg 0 x t hx' trivial⟩;grind
 |f+1,v::x,l::t,hx,⟨h1,h2,h3⟩=>⟨h1,h2,zQg f x t (by simpa using hx) h3⟩
def shr:List Va->List Va->Nat
 |a::x,b::y=>if vcmp a b=0 then shr x y+1 else 0
 |_,_=>0
theorem zPu(y:List Va):shr [] y=0:=by cases y<;>rfl
theorem lst_shr:∀(x y:List Va)(t:Tri),x.length=y.length->Lst x.length x t->Lst (shr x y) y t
 |[],y,t,hx,h=>by rw[zPu];exact trivial
 |a::x,[],t,hx,h=>by simp at hx
 |a::x,b::y,[],hx,h=>h.elim
 | a::x,b::y,l::t,hx,⟨h1,h2,h3⟩=>by
  rw[shr];split
  ·rename_i e;obtain rfl:=(zA8 a b).2.1.1 e;exact⟨h1,h2,lst_shr x y t (by simpa using hx) h3⟩
  trivial
theorem shr_lt:∀(x y:List Va),x.length=y.length->x≠y->shr x y<y.length
 |[],y,hx,h=>by
  grind
 |a::x,[],hx,h=>by simp at hx
 | a::x,b::y,hx,h=>by
  rw[shr];split
  ·rename_i e;obtain rfl:=(zA8 a b).2.1.1 e
   have:=shr_lt x y (by simpa using hx) (λe=>h (by rw[e]))
   simpa using this
  simp
def bldT:List Va->List (List Va)->Tri->Tri
 |_,[],t=>t
 |last,x::L,t=>bldT x L (adT x (shr last x) t)
def Dst:List Va->List (List Va)->Prop
 |_,[]=>True
 |last,x::L=>last≠x/\Dst x L
theorem zFp:∀(f:Nat)(x:List Va)(t:Tri),(adT x f t).length=t.length
 |0,[],t=>by rfl
 |f+1,[],t=>by rfl
 |0,v::x,[]=>rfl
 |f+1,v::x,[]=>rfl
 |0,v::x,l::t=>by simp only[adT,AS,zFp 0 x t]
 |f+1,v::x,l::t=>by simp only[adT,AS,zFp f x t]
theorem zYi(n:Nat):∀(L:List (List Va))(last:List Va)(t:Tri),InvT t->t.length=n->last.length=n->(∀x∈L,x.length=n)->Lst last.length last t->Dst last L->0<szT t->
  InvT (bldT last L t)/\(bldT last L t).length=n/\rws (finT (bldT last L t)) 0 (szT (bldT last L t))=rws (finT t) 0 (szT t)++L
 |[],last,t,hi,ht,hl,hL,hls,hd,hz=>⟨hi,ht,by simp[bldT]⟩
 |x::L,last,t,hi,ht,hl,hL,hls,⟨hd1,hd2⟩,hz=>by
  have hxn:=hL x (by simp);have hxt:x.length=t.length:=by omega
  have hs:=lst_shr last x t (by omega) hls;have h1:=zTr (shr last x) x t 0 hi hxt (shr_lt last x (by omega) hd1) hs ⟨Nat.zero_le _,λ_=>hz⟩
  have:=zYi n L x (adT x (shr last x) t) (zJz _ _ _ hi hxt) (by rw[zFp];exact ht) hxn (λy hy=>hL y (by simp[hy])) (zQg _ _ _ hxt hs) hd2 (Br hz (szT_le _ _ _ hxt))
  rw[h1,Bc]at this;exact this
def zB6(n:Nat)(L:List (List Va)):Tri:=finT (bldT [] L (AH n ([],[])))
theorem zJy:∀n,InvT (AH n ([],[]))
 |0=>trivial
 |n+1=>⟨rfl,λ_ i hi=>absurd hi (by simp),zJy n⟩
theorem zPq(n:Nat):szT (AH n ([],[]))=0:=by cases n<;>rfl
theorem szT_fin(t:Tri):szT (finT t)=szT t:=by cases t<;>rfl
theorem finT_len(t:Tri):(finT t).length=t.length:=by
 induction t with
 |nil=>rfl
 |cons l t ih=>simp only[finT,AS,ih]
theorem zK9:∀(L:List (List Va))(last:List Va)(t:Tri),(bldT last L t).length=t.length
 |[],_,_=>rfl
 |x::L,last,t=>by rw[bldT,zK9 L,zFp]
theorem zHr(n:Nat)(L:List (List Va)):(zB6 n L).length=n:=by
 rw[zB6,finT_len,zK9,Bp]
theorem trie_rows(n:Nat)(hn:0<n)(L:List (List Va))(hL:∀x∈L,x.length=n)(hd:Dst [] L):rws (zB6 n L) 0 (szT (zB6 n L))=L:=by
 rw[zB6,szT_fin];cases L with
 |nil=>
  rw[bldT,zPq];cases n with
  |zero=>omega
  |succ n=>rfl
 |cons x L=>
  have hx:x.length=(AH n (([],[]):List Va×List Nat)).length:=by rw[hL x (by simp),Bp]
  have hne:AH n (([],[]):List Va×List Nat)≠[]:=by intro e;have:=congrArg Aa e;simp at this;omega
  rw[bldT,zPu];have h1:=zTr 0 x _ 0 (zJy n) hx (by rw[hL x (by simp)];exact hn) trivial ⟨Nat.zero_le _,λh=>absurd h (by omega)⟩;have h2:=zYi n L x _ (zJz 0 x _ (zJy n) hx) (by rw[zFp,Bp]) (hL x (by simp)) (λy hy=>hL y (by simp[hy])) (zQg 0 x _ hx trivial) hd.2 (by rw[zD7 _ _ hx,if_neg hne];omega);rw[h2.2.2,h1,zPq];cases n with
  |zero=>omega
  |succ n=>rfl
section
open Go.RowKit
attribute [local irreducible] seqW awp zAf zAn zAd Weak updS zAx retL Pure Acts rP setP setQ cP nP fr
set_option maxRecDepth 4096
abbrev lvC(l:List Va×List Nat):List D:=[.row (zJ l.1) l.1.length, .row (l.2.map λc=>iD (c:Nat)) l.2.length]
theorem zFd(l:List Va×List Nat):(lvC l).length=2:=rfl
abbrev triC(t:Tri):D:= .row (t.flatMap lvC) t.length
abbrev itC(t:Tri)(l p e:Int)(ab:List D)(s:Int):List D:=triC t::iD l::iD p::iD e::(ab++[iD s])
abbrev itB(t:Tri)(l p e:Int)(ab:List D)(s:Int):Bk:=⟨itC t l p e ab s,250,0,Ad,Ad, .plain⟩
def Nor(ab:List D):Prop:=∀j,zX j ab=Ad
theorem zLv(j:Nat):∀a b:List D,zX j (a++b)=(zX j a||zX j b)
 |[],b=>by simp only[Bn,zX,Cb]
 |d::a,b=>by simp only[A9,zX,zLv j a b,Bool.or_assoc]
theorem zMg{t:Tri}{l p e s:Int}{ab:List D}(h:Nor ab):Nor (itC t l p e ab s):=λj=>by
 simp only[zX,refs,zLv,h j,A1]
theorem zBa{t:Tri}{l p e s:Int}{ab:List D}(h:Nor ab):(itB t l p e ab s).free:= .inr (zMg h)
theorem zMh{t:Tri}{l p e s:Int}{ab:List D}(h:Nor ab)(x:D)(b:Bk)(hx:refs 1 x=Ad):zEp [x] [itB t l p e ab s,b] 1 2=true:=by
 have h1:=zMg (t:=t) (l:=l) (p:=p) (e:=e) (s:=s) h 1;simp_all [only,zEp,Bt,AZ,BG,Bv,BH,zX,A1]
theorem refs_va(j:Nat)(v:Va):refs j (.agg (vaC v))=false:=by simp only[refs,zX,A1]
def Ti:Par:=⟨λf=>f==181||f==184||f==188||f==169||f==168||f==170||f==166||f==183||f==147,λ_ _=>AG,λk=>decide (k<1),λ_=>Ad,λ_=>Ad⟩
theorem zJi:zA7 Am Ti:=by intro t n f h;cases h
theorem zH9{st:List Bk}(h:st.length=1):∀k,k<st.length->Ti.keep k=true:=λk hk=>by
 show decide (k<1)=Ab;rw[decide_eq_true_eq];omega
theorem depth_c(t:Tri):Pure Am 182 [.agg [triC t]] [] (iD (t.length:Nat)):=by
 refine zF zBb mixed Tryz.func182 rfl ?_;refine vAu<|vA<|ve (True/\0<1)<|zE<|vret (True)<|.inr rfl
theorem size_c(t:Tri)(l:Nat):Pure Am 165 [.agg [triC t],iD (l:Nat)] [] (iD ((t.getD l ([],[])).1.length:Nat)):=by
 rcases AB l t.length with h|h
 ·have hg2:=zMo zFd t l h;have hne:=zDe zFd (by decide) t (by omega);have hd:t.getD l ([],[])=t.getD l default:=rfl;rw[hd];generalize t.getD l Ae=x at*;refine zF zBb mixed Tryz.func165 rfl ?_;focus
   refine vAu<|zA<|vA<|ve (True/\0<1)<|vF ((l:Int)>=(Aa t:Int))<|vK<|vA ?_;refine vr 4 (True/\0<1/\ix ↑l ↑(Aa t) (AV lvC t≠[]))<|vs 13 (D.ptr<|Ah (Ax (l:Int)*2)<|AV lvC t) (D.ptr (AA (zJ<|BI x) (Aa<|BI x)::AA (Ag (λ(c:Nat)=>iD c)<|BJ x) (Aa<|BJ x)::AV lvC (Ah (l+1) t))) (by simp(disch:=omega) only[AI,A9,Bn,hg2])<|ve (True/\0<Aa (AA (zJ<|BI x) (Aa<|BI x)::AA (Ag (λ(c:Nat)=>iD c)<|BJ x) (Aa<|BJ x)::AV lvC (Ah (l+1) t)))<|zE<|vret (True)<|.inr rfl
 rw[A8,Bq h];refine zF zBb mixed Tryz.func165 rfl ?_;focus
  refine vAu<|zA<|vA<|ve (True/\0<1)<|vT ((l:Int)>=(Aa t:Int))<|vAe<|zE<|zG ?_;refine vret (True)<|.inr rfl
section
variable (t : Tri) (l p e : Int) (ab : List D) (s : Int) (hab : ab.length = 64) (hno : Nor ab)
def onV(l p e:Int):Bool:=decide (0<l)&&decide (p<e)
theorem zEo:Acts Am 181 [.own 0 0] [itB t l p e ab s] [] (bD (onV l p e)) [itB t l p e ab s]:=by
 unfold onV;by_cases h:0<l
 ·refine zN zJi mixed Tryz.func181 rfl (zH9 rfl) ?_;focus
   refine vAu<|zA<|vd [0,1,2,3,4,5,6,7,8,9,10,11,12,13,15,16,17,18,14,19,20,21,22]<|vew [] [(9,Ab)] (True/\True/\0<Aa (Ah 1<|Ap<|itB t l p e ab s)/\decide (l>(0:Int))=Ab/\True/\True/\True/\True/\0<Aa (Ah 2<|Ap<|itB t l p e ab s)/\0<Aa (Ah 3<|Ap<|itB t l p e ab s))<|zE ?_;refine zM (True) [Aj<|AL<|decide (p<e)] (.inr rfl) ?_;rotate_left
  rw[decide_eq_true h,BK];exact⟨by kernel_rfl,by kernel_rfl⟩
 refine zN zJi mixed Tryz.func181 rfl (zH9 rfl) ?_;focus
  refine vAu<|zA<|vd [0,1,2,3,4,5,6,7,8,9,10,11,12,13,15,16,17,18,14,19,20,21,22]<|vew [] [(9,Ad)] (True/\True/\0<Aa (Ah 1<|Ap<|itB t l p e ab s)/\decide (l>(0:Int))=Ad)<|zE ?_;refine zM (True) [Aj<|AL Ad] (.inr rfl) ?_;rotate_left
 rw[decide_eq_false h,Bool.false_and];exact⟨by kernel_rfl,by kernel_rfl⟩
include hab in
theorem steps_a:Acts Am 147 [.own 0 0] [itB t l p e ab s] [] (iD s) [itB t l p e ab s]:=by
 have h1:(ab++[iD s]).drop 64=[iD s]:=List.drop_left' hab;refine zN zJi mixed Tryz.func147 rfl (zH9 rfl) ?_;focus
  refine vAu<|zA<|vAe<|vf<|vK<|vA ?_;refine vr 4 (True/\0<Aa (Ah 68<|Ap<|itB t l p e ab s))<|vs 8 (AO (Ah 68<|Ap<|itB t l p e ab s) Uk) (iD s) (by simp(disch:=omega) only[List.drop_succ_cons,List.headD_cons,h1])<|veT<|zE ?_;refine zM (True) [Aj<|AN AK s] (.inr rfl) ?_;rotate_left
 exact⟨by kernel_rfl,by kernel_rfl⟩
theorem next_a(hp:-9223372036854775808<=p/\p<9223372036854775807):Acts Am 168 [.own 0 0] [itB t l p e ab s] [] (bD (onV l p e&&onV l (p+1) e)) [itB t l (if onV l p e then p+1 else p) e ab s]:=by
 have h1:=zEo t l p e ab s;have h2:=zEo t l (p+1) e ab s;cases ho:onV l p e with
 | false=>
  rw[ho]at h1;rw[Bool.false_and,if_neg (by decide)];refine zN zJi mixed Tryz.func168 rfl (zH9 rfl) ?_;focus
   refine vAu<|zA<|vA<|vrT 1<|vnt [itB t l p e ab s] ?_;refine zY [] [] [Af 0 0] [Af 0 0] (Az _) (by exact h1) ?_;refine v0s<|veT<|vt<|vAe<|zE<|zG ?_;refine zM (True) [Aj<|AL Ad] (.inr rfl) ?_;rotate_left
  exact⟨by kernel_rfl,by kernel_rfl⟩
 | true=>
  rw[ho]at h1;rw[BK,if_pos rfl];refine zN zJi mixed Tryz.func168 rfl (zH9 rfl) ?_;focus
   refine vAu<|zA<|vA<|vrT 1<|vnt [itB t l p e ab s] ?_;refine zY [] [] [Af 0 0] [Af 0 0] (Az _) (by exact h1) ?_;refine v0s<|veT<|vf<|vK<|vA<|ve (True/\True/\0<Aa (Ah 2<|itC t l p e ab s)/\i6 (p+(1:Int))/\True/\True/\Ad=Ad/\Ab=Ab/\1=1/\3<=Aa (itC t l p e ab s))<|vA<|vrT 1<|vnt [Ak (triC t::iD l::iD (p+(1:Int))::iD e::(ab++[iD s])) 250 0 Ad Ad Ao] ?_;refine zY [] [] [Af 0 0] [Af 0 0] (Az _) (by exact h2) ?_;refine v0s<|veT<|zE ?_;refine zM (True) [Aj<|AL<|onV l (p+(1:Int)) e] (.inr rfl) ?_;rotate_left
  exact⟨by kernel_rfl,by kernel_rfl⟩
abbrev zCv(t:Tri)(k:Nat):List Va:=(t.getD k Ae).1
include hno in
theorem zZ3(k:Nat)(q:Nat)(hk:k<t.length)(hq:q<(zCv t k).length)(h1:k<=1000000):Acts Am 184 [.own 0 0,iD (q:Nat)] [itB t (k+1:Nat) p e ab s] [] (.agg (vaC ((zCv t k).getD q Ae))) [itB t (k+1:Nat) p e ab s]:=by
 have hg2:=zMo zFd t k hk;have hne:=zDe zFd (by decide) t (by omega);have hle:=zEv zFd t k hk;unfold zCv at hq⊢;generalize t.getD k Ae=x at*;obtain⟨ws,fs⟩:=x;simp only at hq⊢;have hx:=zDs ws q hq;have hnv:=zHp ws (by omega);have hlv:3<=((zJ ws).drop (q*3)).length:=zGw _ _ hq;have e1:((k+1:Nat):Int)-1=(k:Int):=by omega
 have key:Acts Am 184 [.own 0 0,iD (q:Nat)] [itB t (k+1:Nat) p e ab s] [] (.agg (vaC (ws.getD q Ae))) [itB t (k+1:Nat) p e ab s,⟨vaC (ws.getD q Ae),64,0,Ad,Ad, .plain⟩]:=by
  refine zN zJi mixed Tryz.func184 rfl (zH9 rfl) ?_;focus
   refine vAu<|zA<|vd [0,1,2,3,5,6,7,13,4,8,9,10,11,12,14,15,16]<|vr 11 (True/\True/\True/\0<Aa (Ah 0<|Ap<|itB t (↑(k+1):Int) p e ab s)/\0<Aa (Ah 1<|Ap<|itB t (↑(k+1):Int) p e ab s)/\i6 (↑(k+1)-1))<|vs 14 (iD (↑(k+1)-1)) (iD k) (by simp(disch:=omega) only[e1])<|vr 1 (ix ↑k ↑(Aa t) (AV lvC t≠[]))<|vs 15 (D.ptr<|Ah (Ax (k:Int)*2)<|AV lvC t) (D.ptr (AA (zJ ws) (Aa ws)::AA (Ag (λ(c:Nat)=>iD c) fs) (Aa fs)::AV lvC (Ah (k+1) t))) (by simp(disch:=omega) only[AI,A9,Bn,hg2])<|vr 4 (True/\0<Aa (AA (zJ ws) (Aa ws)::AA (Ag (λ(c:Nat)=>iD c) fs) (Aa fs)::AV lvC (Ah (k+1) t))/\ix ↑q ↑(Aa ws) (zJ ws≠[])/\3<=Aa (Ah (q*3)<|zJ ws))<|vs 20 (An<|Ay 3<|Ah (q*3)<|zJ ws) (An<|vaC<|AC ws q Ae) (by simp(disch:=omega) only[hx])<|ve (Ad=Ad/\Ab=Ab/\3=3/\3<=3)<|zE ?_;refine zM (3<=3) [An [Aj<|AN AK<|Ar<|AC ws q Ae,Aj<|AN AK<|As<|AC ws q Ae,Aj<|Aq<|bs<|Au<|AC ws q Ae]] (.inr rfl) ?_ (hc:=by omega);rotate_left
  exact⟨by kernel_rfl,by kernel_rfl⟩
 exact key.cut 1 (by simp) (zMh hno _ _ (refs_va _ _))
include hab hno in
theorem less_a(k:Nat)(q:Nat)(v:Va)(hk:k<t.length)(hq:q<(zCv t k).length)(h1:k<=1000000)(hs:-9223372036854775808<=s/\s<9223372036854775807):Acts Am 188 [.own 0 0,iD (q:Nat), .agg (vaC v)] [itB t (k+1:Nat) p e ab s] [] (bD (decide (vcmp ((zCv t k).getD q Ae) v<0))) [itB t (k+1:Nat) p e ab (s+1)]:=by
 have hd:(ab++[iD s]).drop 64=[iD s]:=List.drop_left' hab;have hst:(ab++[iD s]).set 64 (iD (s+1))=ab++[iD (s+1)]:=by rw[BW,if_neg (by omega),hab];rfl
 have hva:=(zZ3 t p e ab (s+1) hno k q hk hq h1).atG (args:=[.own 0 0,iD (q:Nat)]) (st:=[itB t (k+1:Nat) p e ab (s+1),⟨vaC v,64,0,Ad,Ad, .plain⟩]) 0 rfl (zBa hno) (zBa hno) (zCk [.int .i64 (q:Nat)]);have hcm:=zDp ((zCv t k).getD q Ae) v;generalize (zCv t k).getD q Ae=u at*;have key:Acts Am 188 [.own 0 0,iD (q:Nat), .agg (vaC v)] [itB t (k+1:Nat) p e ab s] [] (bD (decide (vcmp u v<0))) [itB t (k+1:Nat) p e ab (s+1),⟨vaC v,64,0,Ad,Ad, .plain⟩]:=by
  refine zN zJi mixed Tryz.func188 rfl (zH9 rfl) ?_;focus
   refine vAu<|vA<|vr 4 (True/\0<Aa (Ah 68<|Ap<|itB t (↑(k+1):Int) p e ab s))<|vs 10 (AO (Ah 68<|Ap<|itB t (↑(k+1):Int) p e ab s) Uk) (iD s) (by simp(disch:=omega) only[List.drop_succ_cons,List.headD_cons,hd])<|vr 4 (i6 (s+(1:Int))/\True/\AW (itB t (↑(k+1):Int) p e ab s)=Ad/\Ab=Ab/\1=1/\69<=Aa (Ap<|itB t (↑(k+1):Int) p e ab s))<|vb 0 (Ak (setAt (Ap<|itB t (↑(k+1):Int) p e ab s) 68<|cellsOf<|iD (s+(1:Int))) (Bk.ty<|itB t (↑(k+1):Int) p e ab s) (Bk.sz<|itB t (↑(k+1):Int) p e ab s) Ad Ad<|AX<|itB t (↑(k+1):Int) p e ab s) (Ak (triC t::iD ↑(k+1)::iD p::iD e::(ab++[iD (s+(1:Int))])) (250:TypeId) 0 Ad Ad Ao) (by simp(disch:=omega) only[cellsOf,setAt,List.set_cons_succ,hst])<|veT<|zA ?_;refine zA6 [0,1,3] [(2,[(3,100000)],[4,5,6])] rfl ?_;refine vr 3 (3<=3)<|vnil<|zBz rfl rfl<|vnt [Ak (triC t::iD ↑(k+1)::iD p::iD e::(ab++[iD (s+(1:Int))])) (250:TypeId) 0 Ad Ad Ao,Ak [iD<|Ar v,iD<|As v,Aj<|Aq<|bs<|Au v] 64 0 Ad Ad Ao] ?_;refine zY [] [] [Af 0 0,iD q] [Af 0 0,iD q] (Az _) (by exact hva) ?_;refine vnil ?_;refine zEd (C:=3<=3/\Al (An [iD (Ar v),iD (As v),Aj (Aq (bs (Au v)))])=Al (An (Ay 3 [iD (Ar v),iD (As v),Aj (Aq (bs (Au v)))]))) ⟨(by omega),(by kernel_rfl)⟩ ?_;refine v0s<|vc hcm<|vrT 2<|vnil<|zBu<|vN<|zE ?_;refine zM (True) [Aj<|AL<|decide (vcmp u v<0)] (.inr rfl) ?_;rotate_left
  exact⟨by kernel_rfl,by kernel_rfl⟩
 exact key.cut 1 (by simp) (zMh hno _ _ (by simp only[refs]))
abbrev q7_:=Aj (Aq (ByteArray.mk #[]))
abbrev q6_:=Ak [iD 0,iD 0,q7_] 64 0 Ad Ad Ao
include hno in
theorem key_a(k:Nat)(q:Nat)(hk:k<t.length)(hq:q<(zCv t k).length)(h1:k<=1000000)(hqe:(q:Int)<e):Acts Am 169 [.own 0 0] [itB t (k+1:Nat) (q:Nat) e ab s] [] (.tup [.agg (vaC ((zCv t k).getD q Ae)),bD Ab]) [itB t (k+1:Nat) (q:Nat) e ab s]:=by
 have ho:onV (k+1:Nat) (q:Nat) e=true:=by
  grind [onV]
 have h2:=(zEo t (k+1:Nat) (q:Nat) e ab s).atG (args:=[.own 0 0]) (st:=[itB t (k+1:Nat) (q:Nat) e ab s,⟨vaC ⟨0,0,[]⟩,64,0,Ad,Ad, .plain⟩]) 0 rfl (zBa hno) (zBa hno) (zCk []);rw[ho]at h2;have h3:=(zZ3 t (q:Nat) e ab s hno k q hk hq h1).atG (args:=[.own 0 0,iD (q:Nat)]) (st:=[itB t (k+1:Nat) (q:Nat) e ab s,⟨vaC ⟨0,0,[]⟩,64,0,Ad,Ad, .plain⟩]) 0 rfl (zBa hno) (zBa hno) (zCk [.int .i64 (q:Nat)]);generalize (zCv t k).getD q Ae=u at*;have key:Acts Am 169 [.own 0 0] [itB t (k+1:Nat) (q:Nat) e ab s] [] (.tup [.agg (vaC u),bD Ab]) [itB t (k+1:Nat) (q:Nat) e ab s,⟨vaC u,64,0,Ad,Ad, .plain⟩]:=by
  refine zN zJi mixed Tryz.func169 rfl (zH9 rfl) ?_;focus
   refine vAu<|zA<|vA<|vrT 1<|vnt [itB t (↑(k+1):Int) (q:Int) e ab s,q6_] ?_;refine zY [] [] [Af 0 0] [Af 0 0] (Az _) (by exact h2) ?_;refine v0s<|veT<|vf<|vK<|vA<|vr 6 (True/\True/\0<Aa (Ah 2<|itC t (↑(k+1):Int) (q:Int) e ab s))<|vnt [Ak (itC t (↑(k+1):Int) (q:Int) e ab s) 250 0 Ad Ad Ao,Ak [iD<|Ar<|Va.mk (0:Int) (0:Int) [],iD<|As<|Va.mk (0:Int) (0:Int) [],Aj<|Aq<|bs<|Au<|Va.mk (0:Int) (0:Int) []] 64 0 Ad Ad Ao] ?_;refine zY [] [] [Af 0 0,iD q] [Af 0 0,iD q] (Az _) (by exact h3) ?_;refine v0s<|ve (Ad=Ad/\Ab=Ab/\3=3/\3<=3)<|zE ?_;refine zM (3<=3) [An [Aj<|AN AK<|Ar u,Aj<|AN AK<|As u,Aj<|Aq<|bs<|Au u],Aj<|AL Ab] (.inr rfl) ?_ (hc:=by omega);rotate_left
  exact⟨by kernel_rfl,by kernel_rfl⟩
 exact key.cut 1 (by simp) (zMh hno _ _ (by simp only[refs,zX,A1]))
include hno in
theorem keyNo_a(l:Int)(ho:onV l p e=Ad):Acts Am 169 [.own 0 0] [itB t l p e ab s] [] (.tup [.agg (vaC ⟨0,0,[]⟩),bD Ad]) [itB t l p e ab s]:=by
 have h2:=(zEo t l p e ab s).atG (args:=[.own 0 0]) (st:=[itB t l p e ab s,⟨vaC ⟨0,0,[]⟩,64,0,Ad,Ad, .plain⟩]) 0 rfl (zBa hno) (zBa hno) (zCk []);rw[ho]at h2;have key:Acts Am 169 [.own 0 0] [itB t l p e ab s] [] (.tup [.agg (vaC ⟨0,0,[]⟩),bD Ad]) [itB t l p e ab s,⟨vaC ⟨0,0,[]⟩,64,0,Ad,Ad, .plain⟩]:=by
  refine zN zJi mixed Tryz.func169 rfl (zH9 rfl) ?_;focus
   refine vAu<|zA<|vA<|vrT 1<|vnt [itB t l p e ab s,q6_] ?_;refine zY [] [] [Af 0 0] [Af 0 0] (Az _) (by exact h2) ?_;refine v0s<|veT<|vt<|vA<|ve ((True/\Ab=Ab)/\Ad=Ad/\Ab=Ab/\3=3/\3<=3)<|zE<|zG ?_;refine zM (3<=3) [An [q2_,q2_,q7_],Aj<|AL Ad] (.inr rfl) ?_ (hc:=by omega);rotate_left
  exact⟨by kernel_rfl,by kernel_rfl⟩
 exact key.cut 1 (by simp) (zMh hno _ _ (by simp only[refs,zX,A1]))
abbrev frC(fr:List (Int×Int)):List D:=fr.flatMap λx=>[iD x.1,iD x.2]
theorem zBg(fr:List (Int×Int)):Nor (frC fr):=λj=>by
 induction fr with
 |nil=>simp[zX]
 |cons x fr ih=>simp only[frC,A7,zLv,zX,refs,A1,Cb]at ih⊢;exact ih
theorem zMn(fr:List (Int×Int)):(frC fr).length=fr.length*2:=zDj (c:=2) (λ_=>rfl) fr
theorem fr_len(fr:List (Int×Int))(x a b c d:D)(k:Nat)(hk:k<fr.length):2<=(Ah (4+k*2) (a::b::c::d::(frC fr++[x]))).length:=by
 grind [zMn,fr,B6,only,AS,AD,Bm]
theorem fr_read(fr:List (Int×Int))(x a b c d:D)(k:Nat)(hk:k<fr.length):(Ah (4+k*2) (a::b::c::d::(frC fr++[x]))).take 2=[iD (fr.getD k (0,0)).1,iD (fr.getD k (0,0)).2]:=by
 have hg:=zCz (g:=λx:Int×Int=>[iD x.1,iD x.2]) (c:=2) (λ_=>rfl) fr k hk;have hl:=zMn fr;grind
theorem up_a(fr:List (Int×Int))(hf:fr.length=32)(k:Nat)(hk:k<32):Acts Am 170 [.own 0 0] [itB t (k+1:Nat) p e (frC fr) s] [] (bD Ab) [itB t (k:Nat) (fr.getD k (0,0)).1 (fr.getD k (0,0)).2 (frC fr) s]:=by
 have e1:((k+1:Nat):Int)-1=(k:Int):=by omega
 have hrd:=λa b c d=>fr_read fr (iD s) a b c d k (by omega);have hln:=λa b c d=>fr_len fr (iD s) a b c d k (by omega);refine zN zJi mixed Tryz.func170 rfl (zH9 rfl) ?_;focus
  refine vAu<|zA<|vA<|ve (True/\True/\0<Aa (Ah 1<|Ap<|itB t (↑(k+1):Int) p e (frC fr) s)/\True)<|vEf ((↑(k+1):Int)) ((0:Int))<|vK<|vA ?_;refine vr 5 (True/\0<Aa (Ah 1<|Ap<|itB t (↑(k+1):Int) p e (frC fr) s)/\i6 (↑(k+1)-1))<|vs 16 (iD (↑(k+1)-1)) (iD k) (by simp(disch:=omega) only[e1])<|ve (True/\AW (itB t (↑(k+1):Int) p e (frC fr) s)=Ad/\Ab=Ab/\1=1/\2<=Aa (Ap<|itB t (↑(k+1):Int) p e (frC fr) s))<|zA<|vd [0,1,2,3,4,6,7,5,8,9,10,11,12]<|vr 10 (True/\True/\0<Aa (Ah 1 (triC t::iD ↑k::iD p::iD e::(frC fr++[iD s])))/\((0:Int)<=(k:Int)/\(k:Int)<↑(32:Nat))/\2<=Aa (Ah (4+k*2) (triC t::iD ↑k::iD p::iD e::(frC fr++[iD s])))) (vs 28 (An<|Ay 2<|Ah (4+k*2) (triC t::iD ↑k::iD p::iD e::(frC fr++[iD s]))) (An [iD<|BI<|AC fr k ((0:Int),(0:Int)),iD<|BJ<|AC fr k ((0:Int),(0:Int))]) (by simp(disch:=omega) only[hrd])<|ve (True/\Ad=Ad/\Ab=Ab/\2=2/\4<=Aa (triC t::iD ↑k::iD p::iD e::(frC fr++[iD s])))<|vAe<|zE ?_) ⟨trivial,trivial,(lb (by kernel_rfl)),(by omega),(by exact hln _ _ _ _)⟩;refine zM (True) [Aj<|AL Ab] (.inr rfl) ?_;rotate_left
 exact⟨by kernel_rfl,by kernel_rfl⟩
end
theorem frC_set(tl:List D)(p e:Int):∀(fr:List (Int×Int))(k:Nat),k<fr.length->((frC fr++tl).set (k*2) (iD p)).set (k*2+1) (iD e)=frC (fr.set k (p,e))++tl
 |[],k,h=>by simp at h
 |x::fr,0,_=>rfl
 |x::fr,k+1,h=>by
  have ih:=frC_set tl p e fr k (by simpa using h);grind
theorem fr_set(fr:List (Int×Int))(x a b c d:D)(p e:Int)(k:Nat)(hk:k<fr.length):setAt (a::b::c::d::(frC fr++[x])) (4+k*2) [iD p,iD e]=a::b::c::d::(frC (fr.set k (p,e))++[x]):=by
 have h:=frC_set [x] p e fr k hk;show((a::b::c::d::(frC fr++[x])).set (4+k*2) (iD p)).set (4+k*2+1) (iD e)=_;grind
section
variable (t : Tri) (p e s : Int)
theorem open0_a(fr:List (Int×Int))(hf:fr.length=32)(ht:0<t.length)(hn:0<(zCv t 0).length):Acts Am 166 [.own 0 0] [itB t 0 p e (frC fr) s] [] (bD Ab) [itB t 1 0 ((zCv t 0).length:Nat) (frC (fr.set 0 (p,e))) s]:=by
 have hd:=depth_c t;have hs:Pure Am 165 [.agg [triC t],iD (0:Nat)] [] (iD ((zCv t 0).length:Nat)):=size_c t 0;generalize (zCv t 0).length=n at*;obtain⟨x,fr,rfl⟩:∃x f,fr=x::f:=by cases fr with|nil=>simp at hf|cons x f=>exact⟨x,f,rfl⟩
 have key:Acts Am 166 [.own 0 0] [itB t 0 p e (frC (x::fr)) s] [] (bD Ab) [itB t 1 0 (n:Nat) (frC ((p,e)::fr)) s,⟨[iD 0,iD (n:Nat)],247,0,Ad,Ad, .plain⟩]:=by
  refine zN zJi mixed Tryz.func166 rfl (zH9 rfl) ?_;focus
   refine vAu<|zA<|zA<|vd [0,1,2,3,4,5,6,7,8,9,10,11,12,13,14,15,16,17,19,20,21,18,22,23,24,25]<|vr 23 (True/\True/\0<Aa (Ah 1<|Ap<|itB t (0:Int) p e (frC (x::fr)) s)/\True/\True/\0<Aa (Ah 1<|Ap<|itB t (0:Int) p e (frC (x::fr)) s)/\1<=Aa (Ah 0<|Ap<|itB t (0:Int) p e (frC (x::fr)) s))<|vc hd<|veT<|vF ((0:Int)>=(Aa t:Int))<|vK ?_;refine vA<|vr 4 (True/\1<=Aa (Ah 0<|Ap<|itB t (0:Int) p e (frC (x::fr)) s))<|vc hs<|ve (((1=1/\1<=2/\1=1/\2<=2/\True)/\Ab=Ab)/\Ad=Ad/\Ab=Ab/\2=2/\2<=2)<|zA<|vA<|ve (True/\0<Aa (Ah 1<|Ap<|itB t (0:Int) p e (frC (x::fr)) s))<|vf<|vK<|zA ?_;refine vA<|ve (True/\0<2/\True/\0<1/\True)<|vEf ((0:Int)) ((n:Int))<|vK<|zA<|vd [0,1,2,3,5,6,7,9,10,4,8,11,12]<|ve (True/\True/\True/\0<Aa (Ah 1<|Ap<|itB t (0:Int) p e (frC (x::fr)) s)/\2<=Aa (Ah 2<|Ap<|itB t (0:Int) p e (frC (x::fr)) s)/\((0:Int)<=(0:Int)/\(0:Int)<(↑(32:Nat):Int))/\AW (itB t (0:Int) p e (frC (x::fr)) s)=Ad/\Ab=Ab/\2=2/\6<=Aa (Ap<|itB t (0:Int) p e (frC (x::fr)) s))<|vA<|ve (2<=2/\True/\Ad=Ad/\Ab=Ab/\2=2/\4<=Aa (triC t::iD 0::iD p::iD e::AU (AU (frC (x::fr)++[iD s]) 0<|iD p) 1 (iD e)))<|zA ?_;refine zB rfl<|ve (True/\0<Aa (Ah 1 (triC t::iD 0::iD 0::iD ↑n::AU (AU (frC (x::fr)++[iD s]) 0<|iD p) 1 (iD e)))/\i6 ((0:Int)+(1:Int))/\True/\Ad=Ad/\Ab=Ab/\1=1/\2<=Aa (triC t::iD 0::iD 0::iD ↑n::AU (AU (frC (x::fr)++[iD s]) 0<|iD p) 1 (iD e)))<|vAe<|zE ?_;refine zM (True) [Aj<|AL Ab] (.inr rfl) ?_;rotate_left
  exact⟨by kernel_rfl,by kernel_rfl⟩
 exact key.cut 1 (by simp) (zMh (zBg _) _ _ (by simp only[refs]))
theorem open_a(fr:List (Int×Int))(hf:fr.length=32)(k q:Nat)(hk:k+1<t.length)(hk2:k+1<32)(hq:q+1<(t.getD k Ae).2.length)(hqe:(q:Int)<e)(hb:∀c∈(t.getD k Ae).2,c<=1000000000)(hl:(t.getD k Ae).2.length<=1000000000)(hne:(t.getD k Ae).2.getD q 0≠(t.getD k Ae).2.getD (q+1) 0):Acts Am 166 [.own 0 0] [itB t (k+1:Nat) (q:Nat) e (frC fr) s] [] (bD Ab) [itB t (k+1+1:Nat) ((t.getD k Ae).2.getD q 0:Nat) ((t.getD k Ae).2.getD (q+1) 0:Nat) (frC (fr.set (k+1) ((q:Nat),e))) s]:=by
 have hd:=depth_c t;obtain⟨n0,hs⟩:∃n0:Nat,Pure Am 165 [.agg [triC t],iD (0:Nat)] [] (iD (n0:Nat)):=⟨_,size_c t 0⟩;have hov:=zEo t (k+1:Nat) (q:Nat) e (frC fr) s;have ho:onV (k+1:Nat) (q:Nat) e=true:=by
  grind [onV]
 rw[ho]at hov;have hset:=λa b c d=>fr_set fr (iD s) a b c d (q:Nat) e (k+1) (by omega);have hg2:=zMo zFd t k (by omega);have hnt:=zDe zFd (by decide) t (by omega);have hle:=zEv zFd t k (by omega);generalize t.getD k Ae=x at*;obtain⟨ws,fs⟩:=x;simp only at hq hb hl hne⊢;have ha:=zJ0 fs q (by omega);have hc:=zJ0 fs (q+1) (by omega);have hnf:(fs.map λc=>iD (c:Nat))≠[]:=zAm (by omega);have e1:((k+1:Nat):Int)-1=(k:Int):=by omega
 have e2:((q:Nat):Int)+1=((q+1:Nat):Int):=by omega
 have e3:((k+1:Nat):Int)+1=((k+1+1:Nat):Int):=by omega
 have hln:4+(k+1)*2+2<=(itC t (k+1:Nat) (q:Nat) e (frC fr) s).length:=by
  grind [zMn,fr,only,AS,AD,Bm]
 generalize hA:fs.getD q 0=A at*;generalize hC:fs.getD (q+1) 0=C at*;have key:Acts Am 166 [.own 0 0] [itB t (k+1:Nat) (q:Nat) e (frC fr) s] [] (bD Ab) [itB t (k+1+1:Nat) (A:Nat) (C:Nat) (frC (fr.set (k+1) ((q:Nat),e))) s,⟨[iD (A:Nat),iD (C:Nat)],247,0,Ad,Ad, .plain⟩]:=by
  refine zN zJi mixed Tryz.func166 rfl (zH9 rfl) ?_;focus
   refine vAu<|zA<|zA<|vd [0,1,2,3,4,5,6,7,8,9,10,11,12,13,14,15,16,17,19,20,21,18,22,23,24,25]<|vw 10 [] [(8,Ab)] (True/\True/\0<Aa (Ah 1<|Ap<|itB t (↑(k+1):Int) (q:Int) e (frC fr) s)/\decide ((↑(k+1):Int)>(0:Int))=Ab)<|vnt [itB t (↑(k+1):Int) (q:Int) e (frC fr) s] ?_;refine zY [] [] [Af 0 0] [Af 0 0] (Az _) (by exact hov) ?_;refine v0s<|vr 12 (True/\True/\0<Aa (Ah 1<|itC t (↑(k+1):Int) (q:Int) e (frC fr) s)/\1<=Aa (Ah 0<|itC t (↑(k+1):Int) (q:Int) e (frC fr) s))<|vc hd<|veT<|vF ((↑(k+1):Int)>=(Aa t:Int))<|vK<|vA<|vr 4 (True/\1<=Aa (Ah 0<|itC t (↑(k+1):Int) (q:Int) e (frC fr) s))<|vc hs<|ve (((1=1/\1<=2/\1=1/\2<=2/\True)/\Ab=Ab)/\Ad=Ad/\Ab=Ab/\2=2/\2<=2)<|zA ?_;refine vA<|ve (True/\0<Aa (Ah 1<|itC t (↑(k+1):Int) (q:Int) e (frC fr) s))<|vT ((↑(k+1):Int)>(0:Int))<|zA<|vd [0,1,2,3,5,6,7,4,8,9,10,11,12,13]<|vr 10 (True/\True/\True/\0<Aa (Ah 0<|itC t (↑(k+1):Int) (q:Int) e (frC fr) s)/\0<Aa (Ah 1<|itC t (↑(k+1):Int) (q:Int) e (frC fr) s)/\i6 (↑(k+1)-1))<|vs 51 (iD (↑(k+1)-1)) (iD k) (by simp(disch:=omega) only[e1])<|vr 1 (ix ↑k ↑(Aa t) (AV lvC t≠[]))<|vs 52 (D.ptr<|Ah (Ax (k:Int)*2)<|AV lvC t) (D.ptr (AA (zJ ws) (Aa ws)::AA (Ag (λ(c:Nat)=>iD c) fs) (Aa fs)::AV lvC (Ah (k+1) t))) (by simp(disch:=omega) only[AI,A9,Bn,hg2])<|ve (True/\0<Aa (AA (Ag (λ(c:Nat)=>iD c) fs) (Aa fs)::AV lvC (Ah (k+1) t)))<|vd [0,1,2,3,4,8,9,10,11,12,5,6,7,13,14,15,16,17,18]<|vr 12 (True/\True/\True/\True/\0<Aa (Ah 2<|itC t (↑(k+1):Int) (q:Int) e (frC fr) s)/\ix ↑q ↑(Aa fs) (Ag (λ(c:Nat)=>iD c) fs≠[]))<|vp 61 q (Ag (λ(c:Nat)=>iD c) fs) ?_;refine vr 1 (0<Aa (Ah q<|Ag (λ(c:Nat)=>iD c) fs))<|vsh 62 ha<|vr 3 (0<Aa (Ah 2<|itC t (↑(k+1):Int) (q:Int) e (frC fr) s)/\i6 (↑q+1)/\ix ↑(q+1) ↑(Aa fs) (Ag (λ(c:Nat)=>iD c) fs≠[]))<|vp 70 (q+1) (Ag (λ(c:Nat)=>iD c) fs)<|vr 1 (0<Aa (Ah (q+1)<|Ag (λ(c:Nat)=>iD c) fs))<|vsh 71 hc<|ve (((1=1/\1<=2/\1=1/\2<=2/\True)/\Ab=Ab)/\Ad=Ad/\Ab=Ab/\2=2/\2<=2)<|zA<|vA<|ve (True/\0<2/\True/\0<1/\True)<|vEf ((A:Int)) ((C:Int))<|zQ<|zC ?_;refine zAw<|zA<|vd [0,1,2,3,5,6,7,9,10,4,8,11,12]<|vr 13 (True/\True/\True/\0<Aa (Ah 1<|itC t (↑(k+1):Int) (q:Int) e (frC fr) s)/\2<=Aa (Ah 2<|itC t (↑(k+1):Int) (q:Int) e (frC fr) s)/\((0:Int)<=(↑(k+1):Int)/\(↑(k+1):Int)<(↑(32:Nat):Int))/\Ad=Ad/\Ab=Ab/\2=2/\4+(k+1)*2+2<=Aa (itC t (↑(k+1):Int) (q:Int) e (frC fr) s))<|vb 0 (Ak (setAt (itC t (↑(k+1):Int) (q:Int) e (frC fr) s) (4+(k+1)*2)<|cellsOf<|An [iD q,iD e]) 250 0 Ad Ad Ao) (Ak (triC t::iD ↑(k+1)::iD ↑q::iD e::(frC (AU fr (k+1) ((q:Int),e))++[iD s])) 250 0 Ad Ad Ao) (by simp(disch:=omega) only[cellsOf,hset])<|veT<|vA<|ve (2<=2/\True/\Ad=Ad/\Ab=Ab/\2=2/\4<=Aa (triC t::iD ↑(k+1)::iD ↑q::iD e::(frC (AU fr (k+1) ((q:Int),e))++[iD s])))<|vA<|ve (True/\0<Aa (Ah 1 (triC t::iD ↑(k+1)::iD ↑A::iD ↑C::(frC (AU fr (k+1) ((q:Int),e))++[iD s])))/\i6 (↑(k+1)+1)/\True/\Ad=Ad/\Ab=Ab/\1=1/\2<=Aa (triC t::iD ↑(k+1)::iD ↑A::iD ↑C::(frC (AU fr (k+1) ((q:Int),e))++[iD s]))) ?_;refine vAe<|zE ?_;refine zM (True) [Aj<|AL Ab] (.inr rfl) ?_;rotate_left
  exact⟨by kernel_rfl,by kernel_rfl⟩
 exact key.cut 1 (by simp) (zMh (zBg _) _ _ (by simp only[refs]))
end
end
def gal(L:Nat->Bool)(e:Nat):Nat->Nat->Nat->Nat->Nat×Nat×Nat
 |0,low,step,s=>(low,step,s)
 |n+1,low,step,s=>if low+step<e then(if L (low+step)then gal L e n (low+step) (step*2) (s+1)else(low,step,s+1))else(low,step,s)
def bis(L:Nat->Bool):Nat->Nat->Nat->Nat->Nat×Nat
 |0,_,high,s=>(high,s)
 |n+1,low,high,s=>if 1<high-low then(if L (low+(high-low)/2)then bis L n (low+(high-low)/2) high (s+1)else bis L n low (low+(high-low)/2) (s+1))else(high,s)
def sek(L:Nat->Bool)(q e s:Nat):Nat×Nat:=
 if L q then
  let g:=gal L e e q 1 (s+1)
  let h:=min (g.1+g.2.1) e
  bis L e g.1 h g.2.2
 else(q,s+1)
def Mon(L:Nat->Bool)(q e:Nat):Prop:=∀i j,q<=i->i<=j->j<e->L j=Ab->L i=Ab
def Fst(L:Nat->Bool)(q e h:Nat):Prop:=q<=h/\h<=e/\(∀i,q<=i->i<h->L i=Ab)/\(h<e->L h=Ad)
theorem zX1{L:Nat->Bool}{q e:Nat}(hm:Mon L q e):∀n low step s,q<=low->low<e->1<=step->e-low<=n->L low=Ab->
  q<=(gal L e n low step s).1/\(gal L e n low step s).1<e/\1<=(gal L e n low step s).2.1/\L (gal L e n low step s).1=Ab/\((gal L e n low step s).1+(gal L e n low step s).2.1<e->L ((gal L e n low step s).1+(gal L e n low step s).2.1)=Ad)
   /\s<=(gal L e n low step s).2.2/\(gal L e n low step s).2.2+(e-(gal L e n low step s).1)<=s+(e-low)+1
 |0,low,step,s,h1,h2,h3,h4,h5=>by omega
 | n+1,low,step,s,h1,h2,h3,h4,h5=>by
  unfold gal;by_cases hc:low+step<e
  ·rw[if_pos hc];cases hl:L (low+step)with
   |true=>
    rw[if_pos rfl]
    have:=zX1 hm n (low+step) (step*2) (s+1) (by omega) hc (by omega) (by omega) hl
    refine⟨this.1,this.2.1,this.2.2.1,this.2.2.2.1,this.2.2.2.2.1,?_,?_⟩<;>omega
   |false=>
    rw[if_neg (by decide)];exact⟨h1,h2,h3,h5,λ_=>hl,by show s<=s+1;omega,by show s+1+(e-low)<=_;omega⟩
  rw[if_neg hc];exact⟨h1,h2,h3,h5,λh=>absurd h hc,Aw _,by show s+(e-low)<=_;omega⟩
theorem zQx{L:Nat->Bool}{q e:Nat}(hm:Mon L q e):∀n low high s,q<=low->low<high->high<=e->high-low<=n+1->L low=Ab->(high<e->L high=Ad)->
  Fst L q e (bis L n low high s).1/\s<=(bis L n low high s).2/\(bis L n low high s).2<=s+(high-low)
 |0,low,high,s,h1,h2,h3,h4,h5,h6=>by
  obtain rfl:high=low+1:=by omega
  exact⟨⟨by show q<=low+1;omega,h3,λi hi hj=>hm i low hi (by have:i<low+1:=hj;omega) (by omega) h5,h6⟩,Aw _,by show s<=_;omega⟩
 | n+1,low,high,s,h1,h2,h3,h4,h5,h6=>by
  unfold bis;by_cases hc:1<high-low
  ·rw[if_pos hc];have hlt:(high-low)/2<high-low:=Cc (by omega) (by omega);have hgt:1<=(high-low)/2:=by omega
   cases hl:L (low+(high-low)/2)with
   |true=>
    rw[if_pos rfl]
    have:=zQx hm n (low+(high-low)/2) high (s+1) (by omega) (by omega) h3 (by omega) hl h6
    refine⟨this.1,?_,?_⟩<;>omega
   |false=>
    rw[if_neg (by decide)]
    have:=zQx hm n low (low+(high-low)/2) (s+1) h1 (by omega) (by omega) (by omega) h5 (λ_=>hl)
    refine⟨this.1,?_,?_⟩<;>omega
  rw[if_neg hc];obtain rfl:high=low+1:=by omega
  exact⟨⟨by show q<=low+1;omega,h3,λi hi hj=>hm i low hi (by have:i<low+1:=hj;omega) (by omega) h5,h6⟩,Aw _,by show s<=_;omega⟩
theorem zWn{L:Nat->Bool}{q e s:Nat}(hm:Mon L q e)(hq:q<e):Fst L q e (sek L q e s).1/\s<=(sek L q e s).2/\(sek L q e s).2<=s+(e-q)+2:=by
 unfold sek;cases hl:L q with
 |false=>
  rw[if_neg (by decide)];exact⟨⟨Aw _,by show q<=e;omega,λi h1 h2=>by have:i<q:=h2;omega,λ_=>hl⟩,by show s<=s+1;omega,by show s+1<=_;omega⟩
 | true=>
  rw[if_pos rfl];obtain⟨g1,g2,g3,g4,g5,g6,g7⟩:=zX1 hm e q 1 (s+1) (Aw _) hq (Aw _) (by omega) hl;simp only;generalize gal L e e q 1 (s+1)=g at*
  have:=zQx hm e g.1 (min (g.1+g.2.1) e) g.2.2 g1 (by omega) (by omega) (by omega) g4 (λh=>by
   have e1:min (g.1+g.2.1) e=g.1+g.2.1:=by omega
   rw[e1]at h⊢;exact g5 h)
  refine⟨this.1,?_,?_⟩<;>omega
section
open Go.RowKit
attribute [local irreducible] seqW awp zAf zAn zAd Weak updS zAx retL Pure Acts rP setP setQ cP nP fr
set_option maxRecDepth 4096
theorem only_va{k off:Nat}(i:Int)(v:Va)(I:Im)(w:World)(β:Be)(vs:List Value)(h:RelT I w β [.own k off,iD i, .agg (vaC v)] vs):RelT I w (only β k) [.own 0 off,iD i, .agg (vaC v)] vs:=by
 simp_all [only,RelT,Rel,RelL,vaC]
theorem zKl:∀k:Nat,2<=k->Ti.keep k=false:=λk hk=>decide_eq_false (by omega)
section
variable (t : Tri) (ab : List D) (hab : ab.length = 64) (hno : Nor ab)
abbrev vlB(v:Va):Bk:=⟨vaC v,64,0,Ad,Ad, .plain⟩
abbrev lsV(t:Tri)(k:Nat)(v:Va)(i:Nat):Bool:=decide (vcmp ((zCv t k).getD i Ae) v<0)
include hab hno in
theorem seek_k(k q e s:Nat)(v:Va)(hk:k<t.length)(hq:q<e)(he:e<=(zCv t k).length)(he2:e<=1000000)(h1:k<=1000000)(hs:s<=100000000000000000)(hm:Mon (lsV t k v) q e):Acts Am 183 [.own 0 0, .agg (vaC v)] [itB t (k+1:Nat) (q:Nat) (e:Nat) ab (s:Nat)] [] (bD (decide ((sek (lsV t k v) q e s).1<e))) [itB t (k+1:Nat) ((sek (lsV t k v) q e s).1:Nat) (e:Nat) ab ((sek (lsV t k v) q e s).2:Nat),vlB v]:=by
 have hL:∀i:Nat,i<e->∀s':Nat,s'<=2000000000000000000->Acts Am 188 [.own 0 0,iD (i:Nat), .agg (vaC v)] [itB t (k+1:Nat) (q:Nat) (e:Nat) ab (s':Nat),vlB v] [] (bD (lsV t k v i)) [itB t (k+1:Nat) (q:Nat) (e:Nat) ab (s'+1:Nat),vlB v]:=λi hi s' h=>by
  have h2:=(less_a t (q:Nat) (e:Nat) ab (s':Nat) hab hno k i v hk (by omega) h1 (by omega)).atG (args:=[.own 0 0,iD (i:Nat), .agg (vaC v)]) (st:=[itB t (k+1:Nat) (q:Nat) (e:Nat) ab (s':Nat),vlB v]) 0 rfl (zBa hno) (zBa hno) (only_va i v);rw[zM3]at h2;exact h2
 have hov:=λ(p:Nat)(s':Nat)=>(zEo t (k+1:Nat) (p:Nat) (e:Nat) ab (s':Nat)).atG (args:=[.own 0 0]) (st:=[itB t (k+1:Nat) (p:Nat) (e:Nat) ab (s':Nat),vlB v]) 0 rfl (zBa hno) (zBa hno) (zCk []);have ho:∀p:Nat,onV (k+1:Nat) (p:Nat) (e:Nat)=decide (p<e):=λp=>by
  simp_all [onV,BK]
 simp only[ho]at hov;have hov0:=hov q s;rw[decide_eq_true hq]at hov0;have hl0:=hL q hq s (by omega);generalize hLL:lsV t k v=L at*;unfold sek;cases hb:L q with
 | false=>
  rw[hb]at hl0;rw[if_neg (by decide)];simp only;rw[decide_eq_true hq];refine zN zJi mixed Tryz.func183 rfl (zH9 rfl) ?_;focus
   refine vAu<|zA<|vA<|vrT 1<|vnt [itB t (↑(k+1):Int) (q:Int) (e:Int) ab (s:Int),Ak [iD<|Ar v,iD<|As v,Aj<|Aq<|bs<|Au v] 64 0 Ad Ad Ao] ?_;refine zY [] [] [Af 0 0] [Af 0 0] (Az _) (by exact hov0) ?_;refine v0s<|veT<|vf<|vK<|zA<|zA<|vd [0,1,2,3,4,5,6,7,8]<|vr 7 (True/\True/\0<Aa (Ah 2<|itC t (↑(k+1):Int) (q:Int) (e:Int) ab (s:Int))/\3<=3)<|vnt [Ak (itC t (↑(k+1):Int) (q:Int) (e:Int) ab (s:Int)) 250 0 Ad Ad Ao,Ak [iD<|Ar v,iD<|As v,Aj<|Aq<|bs<|Au v] 64 0 Ad Ad Ao] ?_;refine zY [] [] [Af 0 0,iD q,An [iD<|Ar v,iD<|As v,Aj<|Aq<|bs<|Au v]] [Af 0 0,iD q,An [iD<|Ar v,iD<|As v,Aj<|Aq<|bs<|Au v]] (Az _) (by exact hl0) ?_;refine v0s<|veT<|vt<|vAe<|zE<|zG ?_;refine zM (True) [Aj<|AL Ab] (.inr rfl) ?_;rotate_left
  exact⟨by kernel_rfl,by kernel_rfl⟩
 | true=>
  rw[hb]at hl0;rw[if_pos rfl];simp only;generalize hG:gal L e e q 1 (s+1)=G;generalize hB:bis L e G.1 (min (G.1+G.2.1) e) G.2.2=B;refine zN zJi mixed Tryz.func183 rfl (zH9 rfl) ?_;focus
   refine vAu<|zA<|vA<|vrT 1<|vnt [itB t (↑(k+1):Int) (q:Int) (e:Int) ab (s:Int),Ak [iD<|Ar v,iD<|As v,Aj<|Aq<|bs<|Au v] 64 0 Ad Ad Ao] ?_;refine zY [] [] [Af 0 0] [Af 0 0] (Az _) (by exact hov0) ?_;refine v0s<|veT<|vf<|vK<|zA<|zA<|vd [0,1,2,3,4,5,6,7,8]<|vr 7 (True/\True/\0<Aa (Ah 2<|itC t (↑(k+1):Int) (q:Int) (e:Int) ab (s:Int))/\3<=3)<|vnt [Ak (itC t (↑(k+1):Int) (q:Int) (e:Int) ab (s:Int)) 250 0 Ad Ad Ao,Ak [iD<|Ar v,iD<|As v,Aj<|Aq<|bs<|Au v] 64 0 Ad Ad Ao] ?_;refine zY [] [] [Af 0 0,iD q,An [iD<|Ar v,iD<|As v,Aj<|Aq<|bs<|Au v]] [Af 0 0,iD q,An [iD<|Ar v,iD<|As v,Aj<|Aq<|bs<|Au v]] (Az _) (by exact hl0) ?_;refine v0s<|veT<|vf<|vK<|vA<|ve (True/\True/\0<Aa (Ah 2<|itC t (↑(k+1):Int) (q:Int) (e:Int) ab (↑(s+1):Int)))<|vB ?_;rotate_left
  refine zC0 (λ(low:Nat)(step:Nat)(s':Nat)=>fr 80 [(0,Af 0 0),(3,Af 1 0),(4,bD Ad),(5,iD low),(6,iD step)]) (λ(low step s':Nat)=>[itB t (k+1:Nat) (q:Nat) (e:Nat) ab (s':Nat),vlB v]) (λ(low step s':Nat)=>e-low) (λ(low step s':Nat)=>q<=low/\low<e/\1<=step/\step<=low+1/\s'+(e-low)<=s+1+(e-q)/\∃n,e-low<=n/\gal L e n low step s'=G) q 1 (s+1) ?_ ?_ ?_
  ·grind
  ·refine vk 2 ?_;exact zKl
  rintro low step s' ⟨c1,c2,c3,c4,c5,n,c6,c7⟩;obtain⟨n,rfl⟩:∃m,n=m+1:=⟨n-1,by omega⟩;unfold gal at c7;have e1:(low:Int)+(step:Nat)=((low+step:Nat):Int):=by omega
  have e2:(step:Int)*2=((step*2:Nat):Int):=by omega
  rcases AB (low+step) e with d1|d1
  ·rw [if_pos d1]at c7;have hl1:=hL (low+step) d1 s' (by omega);cases hb1:L (low+step)with
   | true=>
    rw[hb1]at hl1;rw[hb1,if_pos rfl]at c7;focus
     refine zA<|vAs<|vw 15 [] [(9,Ab)] (i6 ((low:Int)+(step:Int))/\True/\True/\0<Aa (Ah 3<|Ap<|itB t (↑(k+1):Int) (q:Int) (e:Int) ab (s':Int))/\decide ((↑(low+step):Int)<(e:Int))=Ab/\i6 ((low:Int)+(step:Int))/\3<=3)<|vnt [itB t (↑(k+1):Int) (q:Int) (e:Int) ab (s':Int),vlB v] ?_;refine zY [] [] [Af 0 0,iD ↑(low+step),An [iD<|Ar v,iD<|As v,Aj<|Aq<|bs<|Au v]] [Af 0 0,iD ↑(low+step),An [iD<|Ar v,iD<|As v,Aj<|Aq<|bs<|Au v]] (Az _) (by exact hl1) ?_;refine v0s<|veT<|vt<|vK<|zH<|vA<|ve (i6 ((low:Int)+(step:Int)))<|zB rfl<|vr 3 (i6 ((step:Int)*(2:Int)))<|vnil<|zD ?_;refine zC ?_;rotate_left
    refine⟨low+step,step*2,s'+1,⟨by omega,d1,by omega,by omega,by omega,n,by omega,c7⟩,by omega,?_⟩;refine vk 2 ?_;exact zKl
   | false=>
    rw[hb1]at hl1;rw[hb1,if_neg (by decide)]at c7;subst c7;simp only at hB;have emin:(if((e:Nat):Int)<((low+step:Nat):Int)then((e:Nat):Int)else((low+step:Nat):Int))=((min (low+step) e:Nat):Int):=by
     omega
    focus
     refine zA<|vAs<|vw 15 [] [(9,Ab)] (i6 ((low:Int)+(step:Int))/\True/\True/\0<Aa (Ah 3<|Ap<|itB t (↑(k+1):Int) (q:Int) (e:Int) ab (s':Int))/\decide ((↑(low+step):Int)<(e:Int))=Ab/\i6 ((low:Int)+(step:Int))/\3<=3)<|vnt [itB t (↑(k+1):Int) (q:Int) (e:Int) ab (s':Int),vlB v] ?_;refine zY [] [] [Af 0 0,iD ↑(low+step),An [iD<|Ar v,iD<|As v,Aj<|Aq<|bs<|Au v]] [Af 0 0,iD ↑(low+step),An [iD<|Ar v,iD<|As v,Aj<|Aq<|bs<|Au v]] (Az _) (by exact hl1) ?_;refine v0s<|veT<|vf<|vZ2<|vA<|vr 9 (i6 ((low:Int)+(step:Int))/\True/\True/\0<Aa (Ah 3<|itC t (↑(k+1):Int) (q:Int) (e:Int) ab (↑(s'+1):Int)))<|vs 56 (iD (if(e:Int)<↑(low+step)then(e:Int)else(↑(low+step):Int))) (iD (↑(min (low+step) e):Int)) (by simp(disch:=omega) only[emin])<|veT ?_;refine vB ?_;rotate_left
    refine zC0 (λ(low:Nat)(high:Nat)(s':Nat)=>fr 80 [(0,Af 0 0),(3,Af 1 0),(4,bD Ad),(5,iD low),(7,iD high)]) (λ(low high s':Nat)=>[itB t (k+1:Nat) (q:Nat) (e:Nat) ab (s':Nat),vlB v]) (λ(low high s':Nat)=>high-low) (λ(low high s':Nat)=>q<=low/\low<high/\high<=e/\s'+(high-low)<=s+2+(e-q)/\∃n,high-low<=n+1/\bis L n low high s'=B) low (min (low+step) e) (s'+1) ?_ ?_ ?_
    ·grind
    ·refine vk 2 ?_;exact zKl
    clear hB c1 c2 c3 c4 c5 c6 emin e1 e2;rintro low high s' ⟨c1,c2,c3,c4,n,c5,c6⟩;have e3:(high:Int)-(low:Nat)=((high-low:Nat):Int):=by omega
    rcases AB 1 (high-low)with d2|d2
    ·obtain⟨n,rfl⟩:∃m,n=m+1:=⟨n-1,by omega⟩;unfold bis at c6;rw[if_pos d2]at c6;have hlt:(high-low)/2<high-low:=Cc (by omega) (by omega);have hgt:1<=(high-low)/2:=by omega
     have hl1:=hL (low+(high-low)/2) (by omega) s' (by omega);have e4:((high-low:Nat):Int).tdiv 2=(((high-low)/2:Nat):Int):=(Int.ofNat_tdiv _ _).symm;have e5:(low:Int)+(((high-low)/2:Nat):Int)=((low+(high-low)/2:Nat):Int):=by omega
     have hin:inK .i64 (((high-low:Nat):Int).tdiv 2):=by
      rw[e4];exact⟨by show(-9223372036854775808:Int)<=_;omega,by show _<=(9223372036854775807:Int);omega⟩
     generalize (high-low)/2=dd at*;cases hb2:L (low+dd)with
     | true=>
      rw[hb2]at hl1;rw[hb2,if_pos rfl]at c6;focus
       refine zA<|vAs<|vr 3 (i6 ((high:Int)-(low:Int)))<|vs 59 (iD ((high:Int)-(low:Int))) (iD ↑(high-low)) (by simp(disch:=omega) only[e3])<|veT<|vT ((↑(high-low):Int)>(1:Int))<|vK<|zH<|vA ?_;refine vr 4 (i6 ((high:Int)-(low:Int)))<|vs 64 (iD ((high:Int)-(low:Int))) (iD ↑(high-low)) (by simp(disch:=omega) only[e3])<|vr 1 ((2:Int)≠(0:Int)/\inK AK (Bf (↑(high-low):Int) (2:Int)))<|vs 65 (iD<|Bf (↑(high-low):Int) (2:Int)) (iD dd) (by simp(disch:=omega) only[e4])<|ve (i6 ((low:Int)+(dd:Int)))<|vA<|vr 3 (3<=3)<|vnt [itB t (↑(k+1):Int) (q:Int) (e:Int) ab (s':Int),vlB v] ?_;refine zY [] [] [Af 0 0,iD ↑(low+dd),An [iD<|Ar v,iD<|As v,Aj<|Aq<|bs<|Au v]] [Af 0 0,iD ↑(low+dd),An [iD<|Ar v,iD<|As v,Aj<|Aq<|bs<|Au v]] (Az _) (by exact hl1) ?_;refine v0s<|veT<|vt<|zB rfl<|vrT 2<|vnil<|zD<|zC ?_;rotate_left
      refine⟨low+dd,high,s'+1,⟨by omega,by omega,by omega,by omega,n,by omega,c6⟩,by omega,?_⟩;refine vk 2 ?_;exact zKl
     | false=>
      rw[hb2]at hl1;rw[hb2,if_neg (by decide)]at c6;focus
       refine zA<|vAs<|vr 3 (i6 ((high:Int)-(low:Int)))<|vs 59 (iD ((high:Int)-(low:Int))) (iD ↑(high-low)) (by simp(disch:=omega) only[e3])<|veT<|vT ((↑(high-low):Int)>(1:Int))<|vK<|zH<|vA ?_;refine vr 4 (i6 ((high:Int)-(low:Int)))<|vs 64 (iD ((high:Int)-(low:Int))) (iD ↑(high-low)) (by simp(disch:=omega) only[e3])<|vr 1 ((2:Int)≠(0:Int)/\inK AK (Bf (↑(high-low):Int) (2:Int)))<|vs 65 (iD<|Bf (↑(high-low):Int) (2:Int)) (iD dd) (by simp(disch:=omega) only[e4])<|ve (i6 ((low:Int)+(dd:Int)))<|vA<|vr 3 (3<=3)<|vnt [itB t (↑(k+1):Int) (q:Int) (e:Int) ab (s':Int),vlB v] ?_;refine zY [] [] [Af 0 0,iD ↑(low+dd),An [iD<|Ar v,iD<|As v,Aj<|Aq<|bs<|Au v]] [Af 0 0,iD ↑(low+dd),An [iD<|Ar v,iD<|As v,Aj<|Aq<|bs<|Au v]] (Az _) (by exact hl1) ?_;refine v0s<|veT<|vf<|zB rfl<|vrT 2<|vnil<|zD<|zC ?_;rotate_left
      refine⟨low,low+dd,s'+1,⟨by omega,by omega,by omega,by omega,n,by omega,c6⟩,by omega,?_⟩;refine vk 2 ?_;exact zKl
    have c7:bis L n low high s'=(high,s'):=by
     cases n<;>grind [bis]
    rw[c7]at c6;subst c6;have hv:=hov high s';focus
     refine zA<|vAs<|vr 3 (i6 ((high:Int)-(low:Int)))<|vs 59 (iD ((high:Int)-(low:Int))) (iD ↑(high-low)) (by simp(disch:=omega) only[e3])<|veT<|vF ((↑(high-low):Int)>(1:Int))<|vZ2 ?_;refine vA<|ve (True/\True/\AW (itB t (↑(k+1):Int) (q:Int) (e:Int) ab (s':Int))=Ad/\Ab=Ab/\1=1/\3<=Aa (Ap<|itB t (↑(k+1):Int) (q:Int) (e:Int) ab (s':Int)))<|vA<|vrT 1<|vnt [Ak (triC t::iD ↑(k+1)::iD ↑high::iD ↑e::(ab++[iD s'])) (250:TypeId) 0 Ad Ad Ao,vlB v] ?_;refine zY [] [] [Af 0 0] [Af 0 0] (Az _) (by exact hv) ?_;refine v0s<|veT<|zE ?_;refine zM (True) [Aj<|AL<|decide (high<e)] (.inr rfl) ?_;rotate_left
    exact⟨by kernel_rfl,by kernel_rfl⟩
  rw [if_neg (by omega)]at c7;subst c7;simp only at hB;have emin:(if((e:Nat):Int)<((low+step:Nat):Int)then((e:Nat):Int)else((low+step:Nat):Int))=((min (low+step) e:Nat):Int):=by
   omega
  focus
   refine zA<|vAs<|vew [] [(9,Ad)] (i6 ((low:Int)+(step:Int))/\True/\True/\0<Aa (Ah 3<|Ap<|itB t (↑(k+1):Int) (q:Int) (e:Int) ab (s':Int))/\decide ((↑(low+step):Int)<(e:Int))=Ad)<|vf<|vZ2<|vA ?_;refine vr 9 (i6 ((low:Int)+(step:Int))/\True/\True/\0<Aa (Ah 3<|Ap<|itB t (↑(k+1):Int) (q:Int) (e:Int) ab (s':Int)))<|vs 56 (iD (if(e:Int)<↑(low+step)then(e:Int)else(↑(low+step):Int))) (iD (↑(min (low+step) e):Int)) (by simp(disch:=omega) only[emin])<|veT<|vB ?_;rotate_left
  refine zC0 (λ(low:Nat)(high:Nat)(s':Nat)=>fr 80 [(0,Af 0 0),(3,Af 1 0),(4,bD Ad),(5,iD low),(7,iD high)]) (λ(low high s':Nat)=>[itB t (k+1:Nat) (q:Nat) (e:Nat) ab (s':Nat),vlB v]) (λ(low high s':Nat)=>high-low) (λ(low high s':Nat)=>q<=low/\low<high/\high<=e/\s'+(high-low)<=s+2+(e-q)/\∃n,high-low<=n+1/\bis L n low high s'=B) low (min (low+step) e) s' ?_ ?_ ?_
  ·grind
  ·refine vk 2 ?_;exact zKl
  clear hB c1 c2 c3 c4 c5 c6 emin e1 e2;rintro low high s' ⟨c1,c2,c3,c4,n,c5,c6⟩;have e3:(high:Int)-(low:Nat)=((high-low:Nat):Int):=by omega
  rcases AB 1 (high-low)with d2|d2
  ·obtain⟨n,rfl⟩:∃m,n=m+1:=⟨n-1,by omega⟩;unfold bis at c6;rw[if_pos d2]at c6;have hlt:(high-low)/2<high-low:=Cc (by omega) (by omega);have hgt:1<=(high-low)/2:=by omega
   have hl1:=hL (low+(high-low)/2) (by omega) s' (by omega);have e4:((high-low:Nat):Int).tdiv 2=(((high-low)/2:Nat):Int):=(Int.ofNat_tdiv _ _).symm;have e5:(low:Int)+(((high-low)/2:Nat):Int)=((low+(high-low)/2:Nat):Int):=by omega
   have hin:inK .i64 (((high-low:Nat):Int).tdiv 2):=by
    rw[e4];exact⟨by show(-9223372036854775808:Int)<=_;omega,by show _<=(9223372036854775807:Int);omega⟩
   generalize (high-low)/2=dd at*;cases hb2:L (low+dd)with
   | true=>
    rw[hb2]at hl1;rw[hb2,if_pos rfl]at c6;focus
     refine zA<|vAs<|vr 3 (i6 ((high:Int)-(low:Int)))<|vs 59 (iD ((high:Int)-(low:Int))) (iD ↑(high-low)) (by simp(disch:=omega) only[e3])<|veT<|vT ((↑(high-low):Int)>(1:Int))<|vK<|zH<|vA ?_;refine vr 4 (i6 ((high:Int)-(low:Int)))<|vs 64 (iD ((high:Int)-(low:Int))) (iD ↑(high-low)) (by simp(disch:=omega) only[e3])<|vr 1 ((2:Int)≠(0:Int)/\inK AK (Bf (↑(high-low):Int) (2:Int)))<|vs 65 (iD<|Bf (↑(high-low):Int) (2:Int)) (iD dd) (by simp(disch:=omega) only[e4])<|ve (i6 ((low:Int)+(dd:Int)))<|vA<|vr 3 (3<=3)<|vnt [itB t (↑(k+1):Int) (q:Int) (e:Int) ab (s':Int),vlB v] ?_;refine zY [] [] [Af 0 0,iD ↑(low+dd),An [iD<|Ar v,iD<|As v,Aj<|Aq<|bs<|Au v]] [Af 0 0,iD ↑(low+dd),An [iD<|Ar v,iD<|As v,Aj<|Aq<|bs<|Au v]] (Az _) (by exact hl1) ?_;refine v0s<|veT<|vt<|zB rfl<|vrT 2<|vnil<|zD<|zC ?_;rotate_left
    refine⟨low+dd,high,s'+1,⟨by omega,by omega,by omega,by omega,n,by omega,c6⟩,by omega,?_⟩;refine vk 2 ?_;exact zKl
   | false=>
    rw[hb2]at hl1;rw[hb2,if_neg (by decide)]at c6;focus
     refine zA<|vAs<|vr 3 (i6 ((high:Int)-(low:Int)))<|vs 59 (iD ((high:Int)-(low:Int))) (iD ↑(high-low)) (by simp(disch:=omega) only[e3])<|veT<|vT ((↑(high-low):Int)>(1:Int))<|vK<|zH<|vA ?_;refine vr 4 (i6 ((high:Int)-(low:Int)))<|vs 64 (iD ((high:Int)-(low:Int))) (iD ↑(high-low)) (by simp(disch:=omega) only[e3])<|vr 1 ((2:Int)≠(0:Int)/\inK AK (Bf (↑(high-low):Int) (2:Int)))<|vs 65 (iD<|Bf (↑(high-low):Int) (2:Int)) (iD dd) (by simp(disch:=omega) only[e4])<|ve (i6 ((low:Int)+(dd:Int)))<|vA<|vr 3 (3<=3)<|vnt [itB t (↑(k+1):Int) (q:Int) (e:Int) ab (s':Int),vlB v] ?_;refine zY [] [] [Af 0 0,iD ↑(low+dd),An [iD<|Ar v,iD<|As v,Aj<|Aq<|bs<|Au v]] [Af 0 0,iD ↑(low+dd),An [iD<|Ar v,iD<|As v,Aj<|Aq<|bs<|Au v]] (Az _) (by exact hl1) ?_;refine v0s<|veT<|vf<|zB rfl<|vrT 2<|vnil<|zD<|zC ?_;rotate_left
    refine⟨low,low+dd,s'+1,⟨by omega,by omega,by omega,by omega,n,by omega,c6⟩,by omega,?_⟩;refine vk 2 ?_;exact zKl
  have c7:bis L n low high s'=(high,s'):=by
   cases n<;>grind [bis]
  rw[c7]at c6;subst c6;have hv:=hov high s';focus
   refine zA<|vAs<|vr 3 (i6 ((high:Int)-(low:Int)))<|vs 59 (iD ((high:Int)-(low:Int))) (iD ↑(high-low)) (by simp(disch:=omega) only[e3])<|veT<|vF ((↑(high-low):Int)>(1:Int))<|vZ2 ?_;refine vA<|ve (True/\True/\AW (itB t (↑(k+1):Int) (q:Int) (e:Int) ab (s':Int))=Ad/\Ab=Ab/\1=1/\3<=Aa (Ap<|itB t (↑(k+1):Int) (q:Int) (e:Int) ab (s':Int)))<|vA<|vrT 1<|vnt [Ak (triC t::iD ↑(k+1)::iD ↑high::iD ↑e::(ab++[iD s'])) (250:TypeId) 0 Ad Ad Ao,vlB v] ?_;refine zY [] [] [Af 0 0] [Af 0 0] (Az _) (by exact hv) ?_;refine v0s<|veT<|zE ?_;refine zM (True) [Aj<|AL<|decide (high<e)] (.inr rfl) ?_;rotate_left
  exact⟨by kernel_rfl,by kernel_rfl⟩
include hab hno in
theorem seek_a(k q e s:Nat)(v:Va)(hk:k<t.length)(hq:q<e)(he:e<=(zCv t k).length)(he2:e<=1000000)(h1:k<=1000000)(hs:s<=100000000000000000)(hm:Mon (lsV t k v) q e):Acts Am 183 [.own 0 0, .agg (vaC v)] [itB t (k+1:Nat) (q:Nat) (e:Nat) ab (s:Nat)] [] (bD (decide ((sek (lsV t k v) q e s).1<e))) [itB t (k+1:Nat) ((sek (lsV t k v) q e s).1:Nat) (e:Nat) ab ((sek (lsV t k v) q e s).2:Nat)]:=
 (seek_k t ab hab hno k q e s v hk hq he he2 h1 hs hm).cut 1 (by simp) (zMh hno _ _ (by simp only[refs]))
end
abbrev fr0:List (Int×Int):=AH 32 (0,0)
theorem iter_a(t:Tri):Acts Am 145 [.agg [triC t]] [] [] (.own 1 0) [⟨[triC t],222,0,Ad,Ad, .plain⟩,itB t 0 0 0 (frC fr0) 0]:=by
 refine zN zBb mixed Tryz.func145 rfl (by intro k hk;cases hk) ?_;focus
  refine vAu<|vA<|ve (1<=1/\(1=1/\1<=69/\True)/\Ab=Ab)<|zE ?_;refine zM (True) [Af 1 0] (.inr rfl) ?_;rotate_left
 exact⟨by kernel_rfl,by kernel_rfl⟩
theorem zSx(x:Rw)(n:Nat)(h:n<x.length):x.drop n=x.getD n Ae::x.drop (n+1):=by
 simp_all
theorem shared_c(x y:Rw)(h:x.length<=y.length)(hb:y.length<=1000000):Pure Am 164 [rowV x,rowV y] [] (iD (shr x y:Nat)):=by
 have hxl:x.length<=1000000:=by omega
 refine zF zBb mixed Tryz.func164 rfl ?_;focus
  refine vAu<|vAe<|vB ?_;rotate_left
 refine zK (λ(n:Nat)=>fr 25 [(0,rowV x),(1,rowV y),(4,iD 0),(5,iD n)]) (λ(n:Nat)=>[]) (λ(n:Nat)=>x.length-n) (λ(n:Nat)=>n<=x.length/\shr (x.drop n) (y.drop n)+n=shr x y) 0 ?_ ?_ ?_
 ·grind
 ·refine vk 0
 rintro n ⟨c1,c2⟩;rcases AB n x.length with d|d
 ·have hx:=zDs x n d;have hnx:=zHp x (by omega);have hlx:3<=((zJ x).drop (n*3)).length:=zGw _ _ d;have hy:=zDs y n (by omega);have hny:=zHp y (by omega);have hly:3<=((zJ y).drop (n*3)).length:=zGw _ _ (by omega);have hc:=zDp (x.getD n Ae) (y.getD n Ae);rw[zSx x n d,zSx y n (by omega),shr]at c2;rcases Int.decEq (vcmp (x.getD n Ae) (y.getD n Ae)) 0 with e|e
  ·rw[if_neg e]at c2;generalize x.getD n Ae=u at*;generalize y.getD n Ae=v at*;obtain rfl:n=shr x y:=by omega
   focus
    refine zA<|zA<|vd [0,1,2,3,4,5,6,7,9,10,11,8,12,13,14,15]<|v0s<|vw 12 [] [(4,Ab)] (decide ((↑(shr x y):Int)<(Aa x:Int))=Ab/\ix ↑(shr x y) ↑(Aa x) (zJ x≠[])/\ix ↑(shr x y) ↑(Aa y) (zJ y≠[])/\3<=Aa (Ah (shr x y*3)<|zJ x))<|vs 14 (An<|Ay 3<|Ah (shr x y*3)<|zJ x) (An<|vaC u) (by simp(disch:=omega) only[hx])<|vr 1 (3<=Aa (Ah (shr x y*3)<|zJ y))<|vs 18 (An<|Ay 3<|Ah (shr x y*3)<|zJ y) (An<|vaC v) (by simp(disch:=omega) only[hy])<|vc hc<|veT<|vEf (vcmp u v) ((0:Int))<|vX2 ?_;refine zM5 rfl<|vN<|vAe<|zE<|vret (True)<|.inr rfl
  rw[if_pos e]at c2;rw[e]at hc;generalize x.getD n Ae=u at*;generalize y.getD n Ae=v at*;focus
   refine zA<|zA<|vd [0,1,2,3,4,5,6,7,9,10,11,8,12,13,14,15]<|v0s<|vw 12 [] [(4,Ab)] (decide ((n:Int)<↑(Aa x))=Ab/\ix ↑n ↑(Aa x) (zJ x≠[])/\ix ↑n ↑(Aa y) (zJ y≠[])/\3<=Aa (Ah (n*3)<|zJ x))<|vs 14 (An<|Ay 3<|Ah (n*3)<|zJ x) (An<|vaC u) (by simp(disch:=omega) only[hx])<|vr 1 (3<=Aa (Ah (n*3)<|zJ y))<|vs 18 (An<|Ay 3<|Ah (n*3)<|zJ y) (An<|vaC v) (by simp(disch:=omega) only[hy])<|vc hc<|veT<|vt<|vK ?_;refine zH<|zB rfl<|vr 3 (i6 (↑n+1))<|vnil<|zD<|zC ?_;rotate_left
  refine⟨n+1,⟨by omega,by omega⟩,by omega,?_⟩;refine vk 0
 obtain rfl:n=x.length:=by omega
 have c3:shr x y=x.length:=by
  grind [List.drop_length,shr]
 focus
  refine zA<|zA<|vd [0,1,2,3,4,5,6,7,9,10,11,8,12,13,14,15]<|v0s<|vew [] [(4,Ad)] (decide ((Aa x:Int)<(Aa x:Int))=Ad)<|vf<|vZ2<|vA ?_;refine veT<|zE ?_;refine vre (True) (Aj<|AN AK (Aa x:Int)) (.inr rfl) ?_;rotate_left
 rw[c3]
end
def Sib:Tri->Nat->Nat->Prop
 |[],_,_=>True
 |l::t,a,b=>a<b/\b<=l.1.length/\b<l.2.length/\(∀i j,a<=i->i<j->j<b->vcmp (l.1.getD i Ae) (l.1.getD j Ae)<0)/\∀i,a<=i->i<b->Sib t (l.2.getD i 0) (l.2.getD (i+1) 0)
theorem zWk:∀(t t':Tri)(a b:Nat),InvT t->Goes t t'->b<szT t->Sib (finT t) a b->Sib (finT t') a b
 |[],t',a,b,hi,hg,hb,hs=>by rw[show t'=[]from hg];trivial
 |l::t,[],a,b,hi,hg,hb,hs=>absurd hg (by simp[Goes])
 | l::t,l'::t',a,b,⟨h1,h2,h3⟩,⟨⟨p,hp⟩,⟨r,hr⟩,hg⟩,hb,⟨s1,s2,s3,s4,s5⟩=>by
  simp only[szT]at hb;simp only[finT]at s1 s2 s3 s4 s5⊢;refine⟨s1,by simp only[hp,AD];omega,by simp only[hr,AD,AS,Bm]at s3⊢;omega,λi j i1 i2 i3=>?_,λi i1 i2=>?_⟩
  ·grind
  have:=s5 i i1 i2
  rw[zBn l.2 _ _ i (by omega),zBn l.2 _ _ (i+1) (by omega)]at this;rw[hr,Bc,zBn l.2 _ _ i (by omega),zBn l.2 _ _ (i+1) (by omega)];cases t with
  |nil=>rw[show t'=[]from hg];trivial
  |cons m t=>exact zWk _ _ _ _ h3 hg (h2 (by simp) _ (by omega)) this
theorem zWl:∀(t:Tri)(x:List Va)(a b:Nat),InvT t->x.length=t.length->b<=szT t->Sib (finT t) a b->Sib (finT (adT x 0 t)) a b
 |[],x,a,b,hi,hx,hb,hs=>by cases x<;>trivial
 |l::t,[],a,b,hi,hx,hb,hs=>by simp at hx
 | l ::t,v::x,a,b,⟨h1,h2,h3⟩,hx,hb,⟨s1,s2,s3,s4,s5⟩=>by
  simp only[szT]at hb;simp only[finT]at s1 s2 s3 s4 s5;simp only[adT,finT];refine⟨s1,by simp;omega,by simp;omega,λi j i1 i2 i3=>?_,λi i1 i2=>?_⟩
  ·grind
  have:=s5 i i1 i2
  rw[zBn (l.2++[szT t]) _ _ i (by simp;omega),zBn (l.2++[szT t]) _ _ (i+1) (by simp;omega)];cases t with
  |nil=>cases x with
   |nil=>trivial
   |cons _ _=>simp at hx
  | cons m t=>
   refine zWl _ _ _ _ h3 (by simpa using hx) ?_ this;rcases AB (i+1) l.1.length with h|h
   ·grind
   rw[show i+1=l.2.length by omega,A8,Ci (Aw _),BF];exact Aw _
theorem zTp:∀(t:Tri)(x:List Va),InvT t->x.length=t.length->Sib (finT (adT x 0 t)) (szT t) (szT t+1)
 |[],x,hi,hx=>by cases x<;>trivial
 |l::t,[],hi,hx=>by simp at hx
 | l::t,v::x,⟨h1,h2,h3⟩,hx=>by
  show Sib (finT ((l.1++[v],l.2++[szT t])::adT x 0 t)) l.1.length (l.1.length+1);simp only[finT];refine⟨by omega,by simp,by simp;omega,λi j i1 i2 i3=>by omega,λi i1 i2=>?_⟩;obtain rfl:i=l.1.length:=by omega
  have e2:(l.2++[szT t]++[szT (adT x 0 t)]).getD l.1.length 0=szT t:=by
   grind
  have e3:(l.2++[szT t]++[szT (adT x 0 t)]).getD (l.1.length+1) 0=szT (adT x 0 t):=by
   grind
  rw[e2,e3];cases t with
  |nil=>cases x with
   |nil=>trivial
   |cons _ _=>simp at hx
  |cons m t=>
   rw[zD7 _ _ (by simpa using hx),if_neg (by simp)];exact zTp _ _ h3 (by simpa using hx)
def Nxt:Nat->List Va->Tri->Nat->Prop
 |0,v::x,l::t,a=>a<=l.1.length/\(a<l.1.length->vcmp (l.1.getD (l.1.length-1) Ae) v<0)
 |f+1,v::x,l::t,a=>a<l.1.length/\l.1.getD (l.1.length-1) Ae=v/\Nxt f x t (l.2.getD (l.1.length-1) 0)
 |_,_,_,_=>False
theorem sib_snoc{l:List Va×List Nat}{t:Tri}{a b:Nat}(h:a<b)(h1:Sib (l::t) a b)(h2:Sib (l::t) b (b+1))(hv:vcmp (l.1.getD (b-1) Ae) (l.1.getD b Ae)<0):Sib (l::t) a (b+1):=by
 obtain⟨s1,s2,s3,s4,s5⟩:=h1;obtain⟨r1,r2,r3,r4,r5⟩:=h2;refine⟨by omega,r2,r3,λi j i1 i2 i3=>?_,λi i1 i2=>?_⟩
 ·rcases AB j b with hj|hj
  ·exact s4 i j i1 i2 hj
  obtain rfl:j=b:=by omega
  rcases AB i (j-1)with hi|hi
  ·exact zLe _ _ _ (s4 i (j-1) i1 hi (by omega)) hv
  obtain rfl:i=j-1:=by omega
  exact hv
 grind
theorem sib_add:∀(f:Nat)(x:List Va)(t:Tri)(a:Nat),InvT t->x.length=t.length->Nxt f x t a->(a<szT t->Sib (finT t) a (szT t))->Sib (finT (adT x f t)) a (szT (adT x f t))
 |0,[],t,a,hi,hx,hn,hs=>hn.elim
 |f+1,[],t,a,hi,hx,hn,hs=>hn.elim
 |0,v::x,[],a,hi,hx,hn,hs=>hn.elim
 |f+1,v::x,[],a,hi,hx,hn,hs=>hn.elim
 | 0,v::x,l::t,a,hi,hx,⟨n1,n2⟩,hs=>by
  have hnw:=zTp (l::t) (v::x) hi hx;rw[zD7 _ _ hx,if_neg (by simp)];have hz:szT (l::t)=l.1.length:=rfl;rcases AB a l.1.length with h|h
  ·have h0:=zWl (l::t) (v::x) a _ hi hx (Aw _) (hs h);rw[hz]at hnw h0⊢;simp only[adT,finT]at hnw h0⊢;refine sib_snoc h h0 hnw ?_;grind
  grind
 | f+1,v::x,l::t,a,⟨h1,h2,h3⟩,hx,⟨n1,n2,n3⟩,hs=>by
  have hx':x.length=t.length:=by simpa using hx
  have ht:t≠[]:=λe=>by
   subst e;cases x with
   |nil=>cases f<;>exact n3.elim
   |cons _ _=>simp at hx'
  have hz:szT (l::t)=l.1.length:=rfl;have h0:=hs n1;have hlt:=h2 ht (l.1.length-1) (by omega);have g1:∀z,(l.2++[z]).getD (l.1.length-1) 0=l.2.getD (l.1.length-1) 0:=λz=>zBn _ _ _ _ (by omega);have g2:∀z,(l.2++[z]).getD (l.1.length-1+1) 0=z:=λz=>by
   grind
  have hg:=zJa f x t hx';rw[zPr _ _ _ hx,hz];rw[hz]at h0;simp only[adT,finT]at h0⊢;obtain⟨s1,s2,s3,s4,s5⟩:=h0;have sl:=s5 (l.1.length-1) (by omega) (by omega);rw[g1,g2]at sl;refine⟨s1,s2,by simp;omega,s4,λi i1 i2=>?_⟩;rcases AB (i+1) l.1.length with hc|hc
  ·have:=s5 i i1 i2
   rw[zBn _ _ _ i (by omega),zBn _ _ _ (i+1) (by omega)]at this⊢;exact zWk t _ _ _ h3 hg (h2 ht _ hc) this
  obtain rfl:i=l.1.length-1:=by omega
  rw[g1,g2];exact sib_add f x t _ h3 hx' n3 λ_=>sl
def Pth:List Va->Tri->Nat->Prop
 |[],[],_=>True
 |v::x,l::t,a=>a<l.1.length/\l.1.getD (l.1.length-1) Ae=v/\Pth x t (l.2.getD (l.1.length-1) 0)
 |_,_,_=>False
theorem nxt_of:∀(x y:List Va)(t:Tri)(a:Nat),x.length=y.length->rcmp x y<0->Pth x t a->Nxt (shr x y) y t a
 |[],[],t,a,hl,hc,hp=>by simp[rcmp]at hc
 |[],_::_,t,a,hl,hc,hp=>by simp at hl
 |_::_,[],t,a,hl,hc,hp=>by simp at hl
 |u::x,v::y,[],a,hl,hc,hp=>hp.elim
 | u::x,v::y,l::t,a,hl,hc,⟨p1,p2,p3⟩=>by
  rw[rcmp]at hc;rw[shr];split at hc
  ·rename_i e;rw[if_pos e];obtain rfl:=(zA8 u v).2.1.1 e;exact⟨p1,p2,nxt_of x y t _ (by simpa using hl) hc p3⟩
  rename_i e;rw[if_neg e];exact⟨BB p1,λ_=>p2▸hc⟩
theorem zTx:∀(x:List Va)(t:Tri),InvT t->x.length=t.length->Pth x (adT x 0 t) (szT t)
 |[],[],_,_=>trivial
 |[],_::_,_,h=>by simp at h
 |_::_,[],_,h=>by simp at h
 | v::x,l::t,⟨h1,h2,h3⟩,hx=>by
  refine⟨by simp[szT],?_,?_⟩
  ·grind
  have e:(l.2++[szT t]).getD ((l.1++[v]).length-1) 0=szT t:=by
   grind
  rw[e];exact zTx x t h3 (by simpa using hx)
theorem pth_add:∀(f:Nat)(x:List Va)(t:Tri)(a:Nat),InvT t->x.length=t.length->Nxt f x t a->Pth x (adT x f t) a
 |0,[],t,a,hi,hx,hn=>hn.elim
 |f+1,[],t,a,hi,hx,hn=>hn.elim
 |0,v::x,[],a,hi,hx,hn=>hn.elim
 |f+1,v::x,[],a,hi,hx,hn=>hn.elim
 |0,v::x,l::t,a,hi,hx,⟨n1,n2⟩=>by
  obtain⟨p1,p2,p3⟩:=zTx (v::x) (l::t) hi hx;exact⟨Nat.lt_of_le_of_lt n1 p1,p2,p3⟩
 |f+1,v::x,l::t,a,⟨h1,h2,h3⟩,hx,⟨n1,n2,n3⟩=>⟨n1,n2,pth_add f x t _ h3 (by simpa using hx) n3⟩
def Rsc(L:List (List Va)):Prop:=L.Pairwise λx y=>rcmp x y<0
theorem sib_bld(n:Nat):∀(L:List (List Va))(last:List Va)(t:Tri),InvT t->t.length=n->last.length=n->(∀x∈L,x.length=n)->Rsc (last::L)->Pth last t 0->Sib (finT t) 0 (szT t)->Sib (finT (bldT last L t)) 0 (szT (bldT last L t))
 |[],last,t,hi,ht,hl,hL,hd,hp,hs=>hs
 |x::L,last,t,hi,ht,hl,hL,hd,hp,hs=>by
  have hxn:=hL x (by simp);have hxt:x.length=t.length:=by omega
  have hd1:=(Bh.1 hd).1 x (by simp);have hn:=nxt_of last x t 0 (by omega) hd1 hp;exact sib_bld n L x _ (zJz _ _ _ hi hxt) (by rw[zFp];exact ht) hxn (λy hy=>hL y (by simp[hy])) (Bh.1 hd).2 (pth_add _ _ _ _ hi hxt hn) (sib_add _ _ _ _ hi hxt hn λ_=>hs)
theorem trie_sib(n:Nat)(hn:0<n)(L:List (List Va))(hL:∀x∈L,x.length=n)(hd:Rsc L)(hne:L≠[]):Sib (zB6 n L) 0 (szT (zB6 n L)):=by
 cases L with
 |nil=>exact absurd rfl hne
 | cons x L=>
  have hx:x.length=(AH n (([],[]):List Va×List Nat)).length:=by rw[hL x (by simp),Bp]
  have hz:szT (adT x 0 (AH n (([],[]):List Va×List Nat)))=1:=by
   grind [zD7,zPq,Aa]
  have h1:=zTp _ x (zJy n) hx;have h2:=zTx x _ (zJy n) hx;simp_all [zPq,zB6,bldT,zPu,szT_fin,sib_bld,zJz,zJy,zFp]
theorem dst_of{L:List (List Va)}{n:Nat}(hn:0<n)(hL:∀x∈L,x.length=n)(hd:Rsc L):Dst [] L:=by
 have key:∀(L:List (List Va))(last:List Va),Rsc (last::L)->Dst last L:=by
  intro L;induction L with
  |nil=>intro last _;trivial
  |cons x L ih=>
   intro last h;refine⟨λe=>?_,ih x (Bh.1 h).2⟩
   have:=(Bh.1 h).1 x (by simp)
   grind [zBk]
 cases L with
 |nil=>trivial
 |cons x L=>
  refine⟨λe=>?_,key L x hd⟩;simp_all
structure It where
 t:Tri
 l:Nat
 p:Nat
 e:Nat
 fr:List (Int×Int)
 s:Nat
 deriving Inhabited
abbrev vls(t:Tri)(k:Nat):List Va:=(t.getD k Ae).1
abbrev fst'(t:Tri)(k:Nat):List Nat:=(t.getD k Ae).2
def onI(it:It):Bool:=decide (0<it.l)&&decide (it.p<it.e)
def opI(it:It):It:=match it.l with
 |0=>{it with l:=1,p:=0,e:=szT it.t,fr:=it.fr.set 0 ((it.p:Nat),(it.e:Nat))}
 |k+1=>{it with l:=k+2,p:=(fst' it.t k).getD it.p 0,e:=(fst' it.t k).getD (it.p+1) 0,fr:=it.fr.set (k+1) ((it.p:Nat),(it.e:Nat))}
def upI(it:It):It:={it with l:=it.l-1,p:=(it.fr.getD (it.l-1) (0,0)).1.toNat,e:=(it.fr.getD (it.l-1) (0,0)).2.toNat}
def keyI(it:It):Va:=(vls it.t (it.l-1)).getD it.p Ae
def lsI(v:Va)(it:It)(i:Nat):Bool:=decide (vcmp ((vls it.t (it.l-1)).getD i Ae) v<0)
def skI(v:Va)(it:It):It:={it with p:=(sek (lsI v it) it.p it.e it.s).1,s:=(sek (lsI v it) it.p it.e it.s).2}
def nxI(it:It):It:={it with p:=it.p+1}
def zCd(ix:List Nat)(its:List It):List It:=ix.foldl (λits i=>its.set i (opI (its.getD i Ae))) its
def zGu(ix:List Nat)(its:List It):List It:=ix.foldl (λits i=>its.set i (upI (its.getD i Ae))) its
def mtL(ix:List Nat):Nat->List It->Va->Nat->Nat->Nat->List It×Nat×Bool
 |0,its,key,same,k,s=>(its,s,Ab)
 | f+1,its,key,same,k,s=>if same<ix.length then
   if onI (skI key (its.getD (ix.getD (k%ix.length) 0) Ae))then
    if vcmp (keyI (skI key (its.getD (ix.getD (k%ix.length) 0) Ae))) key=0 then mtL ix f (its.set (ix.getD (k%ix.length) 0) (skI key (its.getD (ix.getD (k%ix.length) 0) Ae))) key (same+1) (k+1) (s+1)
    else mtL ix f (its.set (ix.getD (k%ix.length) 0) (skI key (its.getD (ix.getD (k%ix.length) 0) Ae))) (keyI (skI key (its.getD (ix.getD (k%ix.length) 0) Ae))) 1 (k+1) (s+1)
   else(its.set (ix.getD (k%ix.length) 0) (skI key (its.getD (ix.getD (k%ix.length) 0) Ae)),s,Ad)
  else(its,s,Ab)
def gtI(v:Va)(it:It):Nat:=((AP it.p (it.e-it.p)).filter λj=>decide (vcmp v ((vls it.t (it.l-1)).getD j Ae)<0)).length
def gtA(ix:List Nat)(its:List It)(v:Va):Nat:=(ix.map λi=>gtI v (its.getD i Ae)).sum
def msr(ix:List Nat)(its:List It)(key:Va)(same:Nat):Nat:=gtA ix its key*(ix.length+1)+(ix.length-same)
def metJ(ix:List Nat)(its:List It)(s:Nat):List It×Nat×Bool:=
 if onI (its.getD (ix.getD 0 0) Ae)then mtL ix (msr ix its (keyI (its.getD (ix.getD 0 0) Ae)) 1) its (keyI (its.getD (ix.getD 0 0) Ae)) 1 1 s else(its,s,Ad)
structure Js where
 its:List It
 row:List Va
 s:Nat
 ys:List (List Va)
def lpJ(rec:Js->Js)(ix:List Nat)(v:Nat):Nat->Bool->Js->Js
 |f+1,Ab,S=>
  let S1:=rec {S with row:=S.row.set v (keyI (S.its.getD (ix.getD 0 0) Ae))}
  let it:=nxI (S1.its.getD (ix.getD 0 0) Ae)
  let its2:=S1.its.set (ix.getD 0 0) it
  if onI it then lpJ rec ix v f (metJ ix its2 S1.s).2.2 {S1 with its:=(metJ ix its2 S1.s).1,s:=(metJ ix its2 S1.s).2.1}else{S1 with its:=its2}
 |_,_,S=>S
def extJ(ats:Nat->List Nat):Nat->Nat->Js->Js
 |0,v,S=>{S with s:=S.s+1,ys:=S.ys++[S.row]}
 |m+1,v,S=>
  let its1:=zCd (ats v) S.its
  let r:=metJ (ats v) its1 S.s
  let S2:=lpJ (extJ ats m (v+1)) (ats v) v ((its1.getD ((ats v).getD 0 0) Ae).e) r.2.2 {S with its:=r.1,s:=r.2.1}
  {S2 with its:=zGu (ats v) S2.its}
structure LvI(it:It):Prop where
 l1:1<=it.l
 l2:it.l<=it.t.length
 pe:it.p<=it.e
 sib:it.p<it.e->Sib (it.t.drop (it.l-1)) it.p it.e
theorem zQu{t:Tri}{l:Nat}(h1:1<=l)(h2:l<=t.length):t.drop (l-1)=t.getD (l-1) Ae::t.drop l:=by
 grind [Cg,BD]
theorem LvI.asc{it:It}(h:LvI it){i j:Nat}(h1:it.p<=i)(h2:i<j)(h3:j<it.e):vcmp ((vls it.t (it.l-1)).getD i Ae) ((vls it.t (it.l-1)).getD j Ae)<0:=by
 have:=h.sib (by omega)
 rw[zQu h.l1 h.l2]at this;exact this.2.2.2.1 i j h1 h2 h3
theorem LvI.len{it:It}(h:LvI it)(hp:it.p<it.e):it.e<=(vls it.t (it.l-1)).length/\it.e<(fst' it.t (it.l-1)).length:=by
 have:=h.sib hp
 rw[zQu h.l1 h.l2]at this;exact⟨this.2.1,this.2.2.1⟩
theorem sib_sub{t:Tri}{a a' b:Nat}(h:Sib t a b)(h1:a<=a')(h2:a'<b):Sib t a' b:=by
 cases t with
 |nil=>trivial
 |cons l t=>
  obtain⟨s1,s2,s3,s4,s5⟩:=h;exact⟨h2,s2,s3,λi j i1=>s4 i j (by omega),λi i1=>s5 i (by omega)⟩
theorem zHn(a:Va):¬vcmp a a<0:=by grind [zA8]
theorem zZ2{a b:Va}(h:vcmp a b<0):¬vcmp b a<0:=by grind [zA8]
def has(it:It)(d:Va):Prop:=∃j,it.p<=j/\j<it.e/\(vls it.t (it.l-1)).getD j Ae=d
theorem LvI.mon{it:It}(h:LvI it)(v:Va):Mon (lsI v it) it.p it.e:=λi j h1 h2 h3 h4=>by
 unfold lsI at h4⊢;rw[decide_eq_true_eq]at h4⊢;rcases AB i j with h5|h5
 ·exact zLe _ _ _ (h.asc h1 h5 h3) h4
 obtain rfl:i=j:=by omega
 exact h4
theorem zG4{it:It}(h:LvI it)(hp:it.p<it.e)(v:Va):LvI (skI v it)/\it.p<=(skI v it).p/\(∀j,it.p<=j->j<(skI v it).p->vcmp ((vls it.t (it.l-1)).getD j Ae) v<0)/\((skI v it).p<it.e->¬vcmp (keyI (skI v it)) v<0):=by
 obtain⟨⟨f1,f2,f3,f4⟩,_⟩:=zWn (s:=it.s) (h.mon v) hp;refine⟨⟨h.l1,h.l2,f2,λhlt=>sib_sub (h.sib hp) f1 hlt⟩,f1,λj j1 j2=>?_,λhlt=>?_⟩
 ·have:=f3 j j1 j2
  grind [lsI]
 have:=f4 hlt
 unfold lsI at this;rwa[decide_eq_false_iff_not]at this
theorem has_sk{it:It}(h:LvI it)(hp:it.p<it.e){v d:Va}(hd:¬vcmp d v<0):has it d↔has (skI v it) d:=by
 obtain⟨s1,s2,s3,s4⟩:=zG4 h hp v;constructor
 ·rintro⟨j,j1,j2,j3⟩;refine⟨j,?_,j2,j3⟩;grind
 rintro⟨j,j1,j2,j3⟩;exact⟨j,AR s2 j1,j2,j3⟩
theorem has_ge{it:It}(h:LvI it){d:Va}(hd:has it d):¬vcmp d (keyI it)<0:=by
 obtain⟨j,j1,j2,rfl⟩:=hd;rcases AB it.p j with hj|hj
 ·exact zZ2 (h.asc (Aw _) hj j2)
 obtain rfl:j=it.p:=by omega
 exact zHn _
theorem zNu{it:It}(h:LvI it):onI it=decide (it.p<it.e):=by
 unfold onI;rw[decide_eq_true (show 0<it.l from h.l1),BK]
theorem zVg{α:Type}(p q:α->Bool):∀(l:List α),(∀x∈l,p x=Ab->q x=Ab)->(l.filter p).length<=(l.filter q).length
 |[],_=>Aw _
 |a::l,h=>by
  have ih:=zVg p q l λx hx=>h x (BS _ hx);grind
theorem filt_lt{α:Type}(p q:α->Bool):∀(l:List α),(∀x∈l,p x=Ab->q x=Ab)->(∃x∈l,p x=Ad/\q x=Ab)->(l.filter p).length<(l.filter q).length
 |[],_,⟨x,hx,_⟩=>by simp at hx
 | a::l,h,⟨x,hx,h1,h2⟩=>by
  have le:=zVg p q l λx hx=>h x (BS _ hx);rw[List.filter_cons,List.filter_cons];rcases Bi.1 hx with rfl|hx
  ·grind
  have ih:=filt_lt p q l (λx hx=>h x (BS _ hx)) ⟨x,hx,h1,h2⟩;grind
theorem gt_sk{it:It}(h:LvI it)(hp:it.p<it.e)(v u:Va):gtI u (skI v it)<=gtI u it:=by
 obtain⟨s1,s2,s3,s4⟩:=zG4 h hp v;unfold gtI;have e:AP it.p (it.e-it.p)=AP it.p ((skI v it).p-it.p)++AP (skI v it).p ((skI v it).e-(skI v it).p):=by
  have:=s1.pe
  rw[show it.e-it.p=((skI v it).p-it.p)+((skI v it).e-(skI v it).p) by show _=_+(it.e-_);have:(skI v it).p<=it.e:=s1.pe;omega,<-BR,show it.p+((skI v it).p-it.p)=(skI v it).p by omega]
 rw[e,B5,AD];exact Nat.le_add_left _ _
theorem gt_key{it:It}{key nx:Va}(h:vcmp key nx<0):gtI nx it<=gtI key it:=by
 unfold gtI;refine zVg _ _ _ λj _ hj=>?_;grind [zLe]
theorem gt_lt{it:It}{key:Va}(hp:it.p<it.e)(h:vcmp key (keyI it)<0):gtI (keyI it) it<gtI key it:=by
 unfold gtI;refine filt_lt _ _ _ (λj _ hj=>?_) ⟨it.p,by simp;omega,?_,?_⟩
 ·grind [zLe]
 ·rw[decide_eq_false_iff_not];exact zHn _
 rw[decide_eq_true_eq];exact h
theorem zJl(ix:List Nat)(its:List It)(i:Nat)(x:It)(u w:Va)(hi:i<its.length)(h:∀j∈ix,j≠i->gtI w (its.getD j Ae)<=gtI u (its.getD j Ae))(hx:gtI w x<=gtI u (its.getD i Ae)):gtA ix (its.set i x) w<=gtA ix its u:=by
 unfold gtA;induction ix<;>grind
theorem zNn(ix:List Nat)(its:List It)(i:Nat)(x:It)(u w:Va)(hi:i<its.length)(him:i∈ix)(h:∀j∈ix,j≠i->gtI w (its.getD j Ae)<=gtI u (its.getD j Ae))(hx:gtI w x<gtI u (its.getD i Ae)):gtA ix (its.set i x) w<gtA ix its u:=by
 induction ix with
 |nil=>simp at him
 |cons j ix ih=>
  have le:=zJl ix its i x u w hi (λk hk=>h k (BS _ hk)) (BB hx);show gtI w ((its.set i x).getD j Ae)+gtA ix (its.set i x) w<gtI u (its.getD j Ae)+gtA ix its u;grind
structure Adv(a b:It):Prop where
 t:b.t=a.t
 l:b.l=a.l
 e:b.e=a.e
 fr:b.fr=a.fr
 p:a.p<=b.p
theorem Adv.refl(a:It):Adv a a:=⟨rfl,rfl,rfl,rfl,Aw _⟩
theorem Adv.trans{a b c:It}(h:Adv a b)(k:Adv b c):Adv a c:=⟨k.t.trans h.t,k.l.trans h.l,k.e.trans h.e,k.fr.trans h.fr,AR h.p k.p⟩
theorem Adv.has{a b:It}(h:Adv a b){d:Va}(k:has b d):has a d:=by
 obtain⟨j,j1,j2,j3⟩:=k;exact⟨j,AR h.p j1,h.e▸j2,by rw[<-j3,h.t,h.l]⟩
theorem zZ{its:List It}{i:Nat}{x:It}(h:i<its.length):(its.set i x).getD i Ae=x:=by
 grind
theorem zBh{its:List It}{i j:Nat}{x:It}(h:j≠i):(its.set i x).getD j Ae=its.getD j default:=by
 grind
def zJf(ix:List Nat)(its:List It)(d:Va):Prop:=∀i∈ix,has (its.getD i Ae) d
structure Met(ix:List Nat)(its:List It)(r:List It×Nat×Bool):Prop where
 len:r.1.length=its.length
 out:∀i,i∉ix->r.1.getD i Ae=its.getD i Ae
 adv:∀i∈ix,Adv (its.getD i Ae) (r.1.getD i Ae)
 lv:∀i∈ix,LvI (r.1.getD i Ae)
 com:∀d,zJf ix its d↔r.2.2=Ab/\zJf ix r.1 d
 key:r.2.2=Ab->∃c,∀i∈ix,(r.1.getD i Ae).p<(r.1.getD i Ae).e/\keyI (r.1.getD i Ae)=c
theorem idx_cover{L k same q:Nat}(h1:L<=same)(h2:same<=k)(hq:q<L):∃m,1<=m/\m<=same/\m<=k/\(k-m)%L=q:=by
 have hr:=Cd k L;have hlt:=Bw k (show 0<L by omega);generalize hR:k%L=r at*;generalize hD:k/L=d at*;rcases AB q r with h|h
 ·refine⟨r-q,by omega,by omega,by omega,?_⟩;rw[show k-(r-q)=q+L*d by omega,Cj,Nat.mod_eq_of_lt hq]
 have hd:1<=d:=by
  grind
 obtain⟨d,rfl⟩:∃d',d=d'+1:=⟨d-1,by omega⟩;rw[Nat.mul_succ]at hr;refine⟨r+L-q,by omega,by omega,by omega,?_⟩;rw[show k-(r+L-q)=q+L*d by omega,Cj,Nat.mod_eq_of_lt hq]
theorem idx_ne{L k m:Nat}(h1:1<=m)(h2:m<L)(h3:m<=k):(k-m)%L≠k%L:=by
 intro h;have hr:=Cd k L;have hr2:=Cd (k-m) L;rw[h]at hr2;have e:L*(k/L)=L*((k-m)/L)+m:=by omega
 have:L∣m:=by
  refine⟨k/L-(k-m)/L,?_⟩;rw[Nat.mul_sub];omega
 have:=Nat.le_of_dvd (by omega) this
 omega
theorem zAy{ix:List Nat}{q:Nat}(h:q<ix.length):ix.getD q 0∈ix:=by
 grind
theorem zZh{ix:List Nat}(hn:ix.Nodup){q r:Nat}(hq:q<ix.length)(hr:r<ix.length)(h:q≠r):ix.getD q 0≠ix.getD r 0:=by
 simp only[A8,BD hq,BD hr,Option.getD_some];grind [List.getElem_inj]
theorem mtL_spec(ix:List Nat)(hn:ix.Nodup)(h0:0<ix.length):∀(f:Nat)(its:List It)(key:Va)(same k s:Nat),(∀i∈ix,i<its.length/\LvI (its.getD i Ae)/\(its.getD i Ae).p<(its.getD i Ae).e)->1<=same->same<=ix.length->same<=k->(∀m,1<=m->m<=same->keyI (its.getD (ix.getD ((k-m)%ix.length) 0) Ae)=key)->msr ix its key same<=f->Met ix its (mtL ix f its key same k s):=by
 have fin:∀(its:List It)(key:Va)(same k s:Nat),(∀i∈ix,i<its.length/\LvI (its.getD i Ae)/\(its.getD i Ae).p<(its.getD i Ae).e)->ix.length<=same->same<=k->(∀m,1<=m->m<=same->keyI (its.getD (ix.getD ((k-m)%ix.length) 0) Ae)=key)->Met ix its (its,s,Ab):=by
  intro its key same k s hl hs hk hkey;refine⟨rfl,λ_ _=>rfl,λi _=>Adv.refl _,λi hi=>(hl i hi).2.1,λd=>⟨λh=>⟨rfl,h⟩,λh=>h.2⟩,λ_=>⟨key,λi hi=>⟨(hl i hi).2.2,?_⟩⟩⟩;obtain⟨q,hq,rfl⟩:=List.getElem_of_mem hi;obtain⟨m,m1,m2,m3,m4⟩:=idx_cover hs hk hq;grind
 intro f;induction f with
 |zero=>
  intro its key same k s hl s1 s2 hk hkey hm;have:ix.length<=same:=by unfold msr at hm;omega
  exact fin its key same k s hl this hk hkey
 | succ f ih=>
  intro its key same k s hl s1 s2 hk hkey hm;unfold mtL;by_cases hs:same<ix.length
  ·rw [if_pos hs];have hq:k%ix.length<ix.length:=Bw _ h0;have hi:=zAy hq;generalize hI:ix.getD (k%ix.length) 0=i at*;obtain⟨hil,hlv,hpe⟩:=hl i hi;obtain⟨sk1,sk2,sk3,sk4⟩:=zG4 hlv hpe key;have hgt:=λu=>gt_sk hlv hpe key u;have hhas:=λd hd=>has_sk (d:=d) hlv hpe (v:=key) hd;have hadv:Adv (its.getD i Ae) (skI key (its.getD i Ae)):=⟨rfl,rfl,rfl,rfl,sk2⟩;have hcom:∀d,zJf ix its d->¬vcmp d key<0:=λd hd=>by
    have hq1:(k-1)%ix.length<ix.length:=Bw _ h0;have h1:=hkey 1 (Aw _) s1;have h2:=hl _ (zAy hq1);have h3:=has_ge h2.2.1 (hd _ (zAy hq1));rw[h1]at h3;exact h3
   have hon:=zNu sk1;generalize hX:skI key (its.getD i Ae)=X at*;have hall:∀d,zJf ix its d↔zJf ix (its.set i X) d:=λd=>by
    constructor
    ·intro h j hj;by_cases e:j=i
     ·subst e;rw[zZ hil];exact(hhas d (hcom d h)).1 (h j hj)
     rw[zBh e];exact h j hj
    intro h j hj
    have:=h j hj
    by_cases e:j=i
    ·subst e;rw[zZ hil]at this;exact hadv.has this
    grind
   have hXe:X.e=(its.getD i Ae).e:=hadv.e;have hkeep:∀m,1<=m->m<=same->keyI ((its.set i X).getD (ix.getD ((k-m)%ix.length) 0) Ae)=key:=λm m1 m2=>by
    have hne:ix.getD ((k-m)%ix.length) 0≠i:=by
     rw[<-hI];exact zZh hn (Bw _ h0) hq (idx_ne m1 (by omega) (by omega))
    grind
   have rest:∀r,Met ix (its.set i X) r->Met ix its r:=λr h=>by
    refine⟨by rw[h.len,AQ],λj hj=>by rw[h.out j hj,zBh (λe:j=i=>hj (by rw[e];exact hi))],λj hj=>?_,h.lv,λd=>(hall d).trans (h.com d),h.key⟩
    have:=h.adv j hj
    by_cases e:j=i
    ·subst e;rw[zZ hil]at this;exact hadv.trans this
    grind
   by_cases hp:X.p<X.e
   ·rw [hon,decide_eq_true hp,if_pos rfl];have hl2:∀j∈ix,j<(its.set i X).length/\LvI ((its.set i X).getD j Ae)/\((its.set i X).getD j Ae).p<((its.set i X).getD j Ae).e:=λj hj=>by
     grind
    by_cases he:vcmp (keyI X) key=0
    ·rw[if_pos he];refine rest _ (ih _ _ _ _ _ hl2 (by omega) (by omega) (by omega) (λm m1 m2=>?_) ?_)
     ·rcases AB 1 m with hm1|hm1
      ·have:=hkeep (m-1) (by omega) (by omega)
       rw[show k+1-m=k-(m-1) by omega];exact this
      obtain rfl:m=1:=by omega
      grind [A_,zZ,zA8]
     have:=zJl ix its i X key key hil (λ_ _ _=>Aw _) (hgt key)
     have:=Bx (ix.length+1) this
     unfold msr at hm⊢;omega
    rw[if_neg he];have hlt:vcmp key (keyI X)<0:=by
     grind [zA8,keyI]
    refine rest _ (ih _ _ _ _ _ hl2 (by omega) (by omega) (by omega) (λm m1 m2=>?_) ?_)
    ·obtain rfl:m=1:=by omega
     grind
    have:=zNn ix its i X key (keyI X) hil hi (λj _ _=>gt_key hlt) (Br (gt_lt hp hlt) (hgt key))
    have:=Bx (ix.length+1) (Nat.succ_le_of_lt this)
    grind [Bb,msr]
   rw[hon,decide_eq_false hp,if_neg (by decide)];refine rest _ ⟨rfl,λ_ _=>rfl,λj hj=>Adv.refl _,λj hj=>?_,λd=>⟨λh=>?_,λh=>absurd h.1 BL⟩,λh=>absurd h BL⟩
   ·grind
   obtain⟨j,j1,j2,_⟩:=h i hi;grind
  rw[if_neg hs];exact fin its key same k s hl (by omega) hk hkey
theorem zDv(ix:List Nat)(hn:ix.Nodup)(h0:0<ix.length)(its:List It)(s:Nat)(hl:∀i∈ix,i<its.length/\LvI (its.getD i Ae))(hp:∀i∈ix,i≠ix.getD 0 0->(its.getD i Ae).p<(its.getD i Ae).e):Met ix its (metJ ix its s):=by
 have hm:=zAy h0;have hon:=zNu (hl _ hm).2;unfold metJ;by_cases h:(its.getD (ix.getD 0 0) Ae).p<(its.getD (ix.getD 0 0) Ae).e
 ·rw[hon,decide_eq_true h,if_pos rfl];refine mtL_spec ix hn h0 _ _ _ _ _ _ (λi hi=>⟨(hl i hi).1,(hl i hi).2,?_⟩) (Aw _) (by omega) (Aw _) (λm m1 m2=>?_) (Aw _)
  ·grind
  simp_all
 rw[hon,decide_eq_false h,if_neg (by decide)];refine⟨rfl,λ_ _=>rfl,λj hj=>Adv.refl _,λj hj=>(hl j hj).2,λd=>⟨λh'=>?_,λh=>absurd h.1 BL⟩,λh=>absurd h BL⟩;obtain⟨j,j1,j2,_⟩:=h' _ hm;omega
def RSr(it:It):List (List Va):=rws (it.t.drop (it.l-1)) it.p it.e
def RS(it:It):List (List Va):=match it.l with
 |0=>rws it.t 0 (szT it.t)
 |k+1=>rws (it.t.drop (k+1)) ((fst' it.t k).getD it.p 0) ((fst' it.t k).getD (it.p+1) 0)
theorem zJt{it:It}(h1:1<=it.l)(h2:it.l<=it.t.length)(d:Va)(z:List Va):d::z∈RSr it↔∃j,it.p<=j/\j<it.e/\(vls it.t (it.l-1)).getD j Ae=d/\z∈rws (it.t.drop it.l) ((fst' it.t (it.l-1)).getD j 0) ((fst' it.t (it.l-1)).getD (j+1) 0):=by
 unfold RSr;rw[zQu h1 h2];simp only[rws,List.mem_flatMap,List.mem_range'_1,List.mem_map,List.cons.injEq];grind
structure Res(a b:It):Prop where
 t:b.t=a.t
 l:b.l=a.l
 p:b.p=a.p
 e:b.e=a.e
 fl:b.fr.length=a.fr.length
 fr:∀j,j<a.l->b.fr.getD j (0,0)=a.fr.getD j (0,0)
theorem Res.refl(a:It):Res a a:=⟨rfl,rfl,rfl,rfl,rfl,λ_ _=>rfl⟩
theorem Res.RS{a b:It}(h:Res a b):RS b=RS a:=by
 unfold Go.Proofs.YtjcofbkhoeockaaGreatDoor.RS;rw[h.l,h.t,h.p]
theorem Res.RSr{a b:It}(h:Res a b):RSr b=RSr a:=by
 unfold Go.Proofs.YtjcofbkhoeockaaGreatDoor.RSr;rw[h.l,h.t,h.p,h.e]
theorem Res.lv{a b:It}(h:Res a b)(k:LvI a):LvI b:=⟨by rw[h.l];exact k.l1,by rw[h.l,h.t];exact k.l2,by rw[h.p,h.e];exact k.pe,by rw[h.l,h.t,h.p,h.e];exact k.sib⟩
structure AtI(d l:Nat)(it:It):Prop where
 tl:it.t.length=d
 ll:it.l=l
 fl:it.fr.length=32
 d32:d<=32
 root:d≠0->Sib it.t 0 (szT it.t)
 lv:0<l->LvI it/\it.p<it.e
structure InI(d l:Nat)(it:It):Prop where
 tl:it.t.length=d
 ll:it.l=l
 fl:it.fr.length=32
 d32:d<=32
 root:d≠0->Sib it.t 0 (szT it.t)
 lv:LvI it
theorem InI.at{d l:Nat}{it:It}(h:InI d l it)(hp:it.p<it.e):AtI d l it:=⟨h.tl,h.ll,h.fl,h.d32,h.root,λ_=>⟨h.lv,hp⟩⟩
theorem AtI.res{d l:Nat}{a b:It}(h:AtI d l a)(r:Res a b):AtI d l b:=⟨by rw[r.t];exact h.tl,by rw[r.l];exact h.ll,by rw[r.fl];exact h.fl,h.d32,by rw[r.t];exact h.root,λhl=>⟨r.lv (h.lv hl).1,by rw[r.p,r.e];exact(h.lv hl).2⟩⟩
theorem zL1{d l:Nat}{it:It}(h:AtI d l it)(hl:l<d):InI d (l+1) (opI it)/\(opI it).p<(opI it).e/\RSr (opI it)=RS it/\(opI it).t=it.t/\(opI it).fr=it.fr.set l ((it.p:Nat),(it.e:Nat)):=by
 obtain⟨h1,h2,h3,h4,h5,h6⟩:=h;cases l with
 | zero=>
  have hs:=h5 (by omega);have e:opI it={it with l:=1,p:=0,e:=szT it.t,fr:=it.fr.set 0 ((it.p:Nat),(it.e:Nat))}:=by unfold opI;rw[h2]
  have hlt:0<szT it.t:=by
   cases ht:it.t with
   |nil=>rw[ht]at h1;simp at h1;omega
   |cons m t=>rw[ht]at hs;exact hs.1
  rw[e];refine⟨⟨h1,rfl,by simpa using h3,h4,h5,⟨Aw _,by show 1<=it.t.length;omega,Nat.zero_le _,λ_=>hs⟩⟩,hlt,?_,rfl,rfl⟩;unfold RSr RS;rw[h2];rfl
 | succ k=>
  obtain⟨lv,hp⟩:=h6 (by omega);have hs:=lv.sib hp;rw[zQu lv.l1 lv.l2]at hs;have hs2:=hs.2.2.2.2 it.p (Aw _) hp;rw[h2,A_]at hs2;have e:opI it={it with l:=k+2,p:=(fst' it.t k).getD it.p 0,e:=(fst' it.t k).getD (it.p+1) 0,fr:=it.fr.set (k+1) ((it.p:Nat),(it.e:Nat))}:=by unfold opI;rw[h2]
  have hlt:(fst' it.t k).getD it.p 0<(fst' it.t k).getD (it.p+1) 0:=by
   have:it.t.drop (k+1)≠[]:=by simp;omega
   cases ht:it.t.drop (k+1)with
   |nil=>exact absurd ht this
   |cons m t=>rw[ht]at hs2;exact hs2.1
  rw[e];refine⟨⟨h1,rfl,by simpa using h3,h4,h5,⟨by show 1<=k+2;omega,by show k+2<=it.t.length;omega,BB hlt,λ_=>hs2⟩⟩,hlt,?_,rfl,rfl⟩;unfold RSr RS;rw[h2];rfl
section
variable (n na : Nat) (vs : Nat → List Nat)
def ats(v:Nat):List Nat:=(AE na).filter λa=>decide (v∈vs a)
def cnt(a v:Nat):Nat:=((vs a).filter λw=>decide (w<v)).length
def prj(a v:Nat)(y:List Va):List Va:=((vs a).filter λw=>decide (v<=w)).map λw=>y.getD w Ae
structure Vok:Prop where
 asc:∀a,a<na->(vs a).Pairwise (· <·)
 lt:∀a,a<na->∀w∈vs a,w<n
 cov:∀v,v<n->∃a,a<na/\v∈vs a
structure AtV(v:Nat)(its:List It):Prop where
 len:its.length=na
 one:∀a,a<na->AtI (vs a).length (cnt vs a v) (its.getD a Ae)
structure InV(v:Nat)(its:List It):Prop where
 len:its.length=na
 inn:∀a,a<na->v∈vs a->InI (vs a).length (cnt vs a v+1) (its.getD a Ae)
 out:∀a,a<na->v∉vs a->AtI (vs a).length (cnt vs a v) (its.getD a Ae)
def Tv(v:Nat)(its:List It)(y:List Va):Prop:=∀a,a<na->if v∈vs a then prj vs a v y∈RSr (its.getD a Ae)else prj vs a v y∈RS (its.getD a Ae)
theorem zV{a v:Nat}:a∈ats na vs v↔a<na/\v∈vs a:=by simp[ats]
theorem zKq(v:Nat):(ats na vs v).Nodup:=List.Pairwise.filter _ List.nodup_range
variable {n na vs}
theorem Vok.pos(hv:Vok n na vs){v:Nat}(h:v<n):0<(ats na vs v).length:=by
 obtain⟨a,h1,h2⟩:=hv.cov v h;exact List.length_pos_of_mem ((zV na vs).2 ⟨h1,h2⟩)
theorem zJ5:∀(l:List Nat)(v:Nat),l.Pairwise (· <·)->l.filter (λw=>decide (v<=w))=if v∈l then v::l.filter (λw=>decide (v+1<=w))else l.filter λw=>decide (v+1<=w)
 |[],v,h=>by simp
 |a::l,v,h=>by
  have ih:=zJ5 l v (Bh.1 h).2;have h1:=(Bh.1 h).1;grind
theorem zMx:∀(l:List Nat)(v:Nat),l.Pairwise (· <·)->(l.filter λw=>decide (w<v+1)).length=(l.filter λw=>decide (w<v)).length+if v∈l then 1 else 0
 |[],v,h=>by simp
 |a::l,v,h=>by
  have ih:=zMx l v (Bh.1 h).2;have h1:=(Bh.1 h).1;grind
theorem zR1(hv:Vok n na vs){a v:Nat}(ha:a<na)(h:v∈vs a)(y:List Va):prj vs a v y=y.getD v Ae::prj vs a (v+1) y:=by
 unfold prj;rw[zJ5 _ v (hv.asc a ha),if_pos h];rfl
theorem prj_out(hv:Vok n na vs){a v:Nat}(ha:a<na)(h:v∉vs a)(y:List Va):prj vs a v y=prj vs a (v+1) y:=by
 unfold prj;rw[zJ5 _ v (hv.asc a ha),if_neg h]
theorem cnt_in(hv:Vok n na vs){a v:Nat}(ha:a<na)(h:v∈vs a):cnt vs a (v+1)=cnt vs a v+1:=by
 unfold cnt;rw[zMx _ v (hv.asc a ha),if_pos h]
theorem cnt_out(hv:Vok n na vs){a v:Nat}(ha:a<na)(h:v∉vs a):cnt vs a (v+1)=cnt vs a v:=by
 unfold cnt;rw[zMx _ v (hv.asc a ha),if_neg h];rfl
theorem zKo(hv:Vok n na vs){a v:Nat}(ha:a<na)(h:v∈vs a):cnt vs a v<(vs a).length:=by
 have h1:=cnt_in hv ha h;have h2:cnt vs a (v+1)<=(vs a).length:=B9 _ _;omega
end
section
variable {n na : Nat} {vs : Nat → List Nat}
theorem zQ9{v:Nat}{its:List It}{y:List Va}(hv:Vok n na vs)(hi:InV na vs v its)(h:Tv na vs v its y):zJf (ats na vs v) its (y.getD v Ae):=λa ha=>by
 obtain⟨a1,a2⟩:=(zV na vs).1 ha
 have:=h a a1
 rw[if_pos a2,zR1 hv a1 a2]at this;have hl:=(hi.inn a a1 a2).lv;obtain⟨j,j1,j2,j3,_⟩:=(zJt hl.l1 hl.l2 _ _).1 this;exact⟨j,j1,j2,j3⟩
theorem asc_inj{it:It}(h:LvI it){i j:Nat}(i1:it.p<=i)(i2:i<it.e)(j1:it.p<=j)(j2:j<it.e)(e:(vls it.t (it.l-1)).getD i Ae=(vls it.t (it.l-1)).getD j Ae):i=j:=by
 rcases Nat.lt_trichotomy i j with h1|h1|h1
 ·have:=h.asc i1 h1 j2;rw[e]at this;exact absurd this (zHn _)
 ·exact h1
 have:=h.asc j1 h1 i2;rw[e]at this;exact absurd this (zHn _)
theorem adv_RSr{a b:It}(h:Adv a b)(ha:LvI a){d:Va}(hd:has b d)(z:List Va):d::z∈RSr a↔d::z∈RSr b:=by
 rw[zJt ha.l1 ha.l2,zJt (by rw[h.l];exact ha.l1) (by rw[h.l,h.t];exact ha.l2),h.t,h.l,h.e];constructor
 ·rintro⟨j,j1,j2,j3,j4⟩;obtain⟨k,k1,k2,k3⟩:=hd;rw[h.e]at k2;rw[h.t,h.l]at k3
  have:=asc_inj ha j1 j2 (AR h.p k1) k2 (j3.trans k3.symm)
  grind
 rintro⟨j,j1,j2,j3,j4⟩;exact⟨j,AR h.p j1,j2,j3,j4⟩
theorem zFi{v:Nat}{its:List It}{r:List It×Nat×Bool}(hi:InV na vs v its)(hm:Met (ats na vs v) its r):InV na vs v r.1:=by
 refine⟨hm.len.trans hi.len,λa a1 a2=>?_,λa a1 a2=>?_⟩
 ·have hx:=hm.adv a ((zV na vs).2 ⟨a1,a2⟩);obtain⟨h1,h2,h3,h4,h5,h6⟩:=hi.inn a a1 a2;exact⟨by rw[hx.t];exact h1,by rw[hx.l];exact h2,by rw[hx.fr];exact h3,h4,by rw[hx.t];exact h5,hm.lv a ((zV na vs).2 ⟨a1,a2⟩)⟩
 rw[hm.out a λh=>a2 ((zV na vs).1 h).2];exact hi.out a a1 a2
theorem zWf{v:Nat}{its:List It}{r:List It×Nat×Bool}(hv:Vok n na vs)(hi:InV na vs v its)(hm:Met (ats na vs v) its r)(y:List Va):Tv na vs v its y↔Tv na vs v r.1 y:=by
 have key:zJf (ats na vs v) r.1 (y.getD v Ae)->(Tv na vs v its y↔Tv na vs v r.1 y):=λhh=>by
  refine forall_congr' λa=>forall_congr' λha=>?_;by_cases hva:v∈vs a
  ·rw[if_pos hva,if_pos hva,zR1 hv ha hva];have hma:=(zV na vs).2 ⟨ha,hva⟩;exact adv_RSr (hm.adv a hma) (hi.inn a ha hva).lv (hh a hma) _
  rw[if_neg hva,if_neg hva,hm.out a λh=>hva ((zV na vs).1 h).2]
 constructor
 ·intro h;exact(key ((hm.com _).1 (zQ9 hv hi h)).2).1 h
 grind [zQ9,zFi]
structure ExtP(n na:Nat)(vs:Nat->List Nat)(v:Nat)(S S':Js):Prop where
 len:S'.its.length=na
 res:∀a,a<na->Res (S.its.getD a Ae) (S'.its.getD a Ae)
 row:S'.row.length=n
 take:S'.row.take v=S.row.take v
 ys:∃J,S'.ys=S.ys++J/\Rsc J/\∀y,y∈J↔(y.length=n/\y.take v=S.row.take v/\∀a,a<na->prj vs a v y∈RS (S.its.getD a Ae))
structure LpP(n na:Nat)(vs:Nat->List Nat)(v:Nat)(S S':Js):Prop where
 len:S'.its.length=na
 res:∀a,a<na->v∉vs a->Res (S.its.getD a Ae) (S'.its.getD a Ae)
 adv:∀a,a<na->v∈vs a->(S'.its.getD a Ae).t=(S.its.getD a Ae).t/\(S'.its.getD a Ae).l=(S.its.getD a Ae).l/\(S'.its.getD a Ae).fr.length=(S.its.getD a Ae).fr.length/\∀j,j<(S.its.getD a Ae).l->(S'.its.getD a Ae).fr.getD j (0,0)=(S.its.getD a Ae).fr.getD j (0,0)
 row:S'.row.length=n
 take:S'.row.take v=S.row.take v
 ys:∃J,S'.ys=S.ys++J/\Rsc J/\∀y,y∈J↔(y.length=n/\y.take v=S.row.take v/\Tv na vs v S.its y)
theorem zBs{α:Type}(l:List α)(d:α)(v:Nat)(h:v<l.length):l.take (v+1)=l.take v++[l.getD v d]:=by
 simp_all
theorem zPp{α:Type}(l:List α)(c:α)(v:Nat)(h:v<l.length):(l.set v c).take (v+1)=l.take v++[c]:=by
 rw[zBs _ c v (by simpa using h),List.take_set_of_le (Aw _),A8,Bj h];rfl
theorem zH3(rec:Js->Js)(ix:List Nat)(v:Nat):∀(f:Nat)(S:Js),lpJ rec ix v f Ad S=S
 |0,_=>rfl
 |_+1,_=>rfl
theorem zQh(rec:Js->Js)(ix:List Nat)(v f:Nat)(S:Js)(S1:Js)(its2:List It)(h1:S1=rec {S with row:=S.row.set v (keyI (S.its.getD (ix.getD 0 0) Ae))})(h2:its2=S1.its.set (ix.getD 0 0) (nxI (S1.its.getD (ix.getD 0 0) Ae)))(hl:ix.getD 0 0<S1.its.length):lpJ rec ix v (f+1) Ab S=
  lpJ rec ix v f (metJ ix its2 S1.s).2.2 {S1 with its:=(metJ ix its2 S1.s).1,s:=(metJ ix its2 S1.s).2.1}:=by
 rw[lpJ];simp only[<-h1,<-h2];split
 ·rfl
 rename_i h;have hx:its2.getD (ix.getD 0 0) Ae=nxI (S1.its.getD (ix.getD 0 0) Ae):=by rw[h2,zZ hl]
 have hm:metJ ix its2 S1.s=(its2,S1.s,Ad):=by
  grind [metJ]
 rw[hm,zH3]
theorem res_inn{d l:Nat}{a b:It}(h:InI d l a)(r:Res a b):InI d l b:=⟨by rw[r.t];exact h.tl,by rw[r.l];exact h.ll,by rw[r.fl];exact h.fl,h.d32,by rw[r.t];exact h.root,r.lv h.lv⟩
theorem nx_inn{d l:Nat}{a:It}(h:InI d l a)(hp:a.p<a.e):InI d l (nxI a):=⟨h.tl,h.ll,h.fl,h.d32,h.root,⟨h.lv.l1,h.lv.l2,hp,λhlt=>sib_sub (h.lv.sib hp) (By _) hlt⟩⟩
theorem zSj{a:It}(hl:LvI a){d:Va}(hd:has (nxI a) d):vcmp (keyI a) d<0:=by
 obtain⟨j,j1,j2,rfl⟩:=hd;exact hl.asc (Aw _) j1 j2
theorem key_RSr{a:It}(hl:LvI a)(hp:a.p<a.e)(z:List Va):keyI a::z∈RSr a↔z∈RS a:=by
 rw[zJt hl.l1 hl.l2];have e:RS a=rws (a.t.drop a.l) ((fst' a.t (a.l-1)).getD a.p 0) ((fst' a.t (a.l-1)).getD (a.p+1) 0):=by
  unfold RS
  have:=hl.l1
  grind
 rw[e];constructor
 ·rintro⟨j,j1,j2,j3,j4⟩
  have:=asc_inj hl j1 j2 (Aw _) hp j3
  subst this;exact j4
 intro h;exact⟨a.p,Aw _,hp,rfl,h⟩
theorem zT6{v:Nat}(hv:Vok n na vs)(hvn:v<n)(rec:Js->Js)(hrec:∀S,AtV na vs (v+1) S.its->S.row.length=n->ExtP n na vs (v+1) S (rec S)):∀(f:Nat)(b:Bool)(S:Js),InV na vs v S.its->S.row.length=n->
  (b=Ad->∀d,¬zJf (ats na vs v) S.its d)->(b=Ab->∃c,∀i∈ats na vs v,(S.its.getD i Ae).p<(S.its.getD i Ae).e/\keyI (S.its.getD i Ae)=c)->(S.its.getD ((ats na vs v).getD 0 0) Ae).e-(S.its.getD ((ats na vs v).getD 0 0) Ae).p<=f->LpP n na vs v S (lpJ rec (ats na vs v) v f b S):=by
 have h0:=hv.pos hvn;have hi0:=zAy h0;have hn:=zKq na vs v;obtain⟨hi1,hi2⟩:=(zV na vs).1 hi0;have no:∀S:Js,InV na vs v S.its->S.row.length=n->(∀d,¬zJf (ats na vs v) S.its d)->LpP n na vs v S S:=λS hi hr hb=>by
  refine⟨hi.len,λa _ _=>Res.refl _,λa _ _=>⟨rfl,rfl,rfl,λ_ _=>rfl⟩,hr,rfl,[],by simp,List.Pairwise.nil,λy=>⟨λh=>by simp at h,λh=>absurd (zQ9 hv hi h.2.2) (hb _)⟩⟩
 intro f;induction f with
 | zero=>
  intro b S hi hr hb1 hb2 hf;cases b with
  |false=>exact no S hi hr (hb1 rfl)
  |true=>
   grind
 | succ f ih=>
  intro b S hi hr hb1 hb2 hf;cases b with
  |false=>rw[zH3];exact no S hi hr (hb1 rfl)
  | true =>
   obtain⟨c,hc⟩:=hb2 rfl;obtain⟨S1,hS1⟩:∃S1,S1=rec {S with row:=S.row.set v (keyI (S.its.getD ((ats na vs v).getD 0 0) Ae))}:=⟨_,rfl⟩;obtain⟨its2,hits2⟩:∃x,x=S1.its.set ((ats na vs v).getD 0 0) (nxI (S1.its.getD ((ats na vs v).getD 0 0) Ae)):=⟨_,rfl⟩;have hat:AtV na vs (v+1) S.its:=⟨hi.len,λa ha=>by
    by_cases hva:v∈vs a
    ·rw[cnt_in hv ha hva];exact(hi.inn a ha hva).at (hc a ((zV na vs).2 ⟨ha,hva⟩)).1
    rw[cnt_out hv ha hva];exact hi.out a ha hva⟩
   have hk0:keyI (S.its.getD ((ats na vs v).getD 0 0) Ae)=c:=(hc _ hi0).2;have hR:=hrec {S with row:=S.row.set v (keyI (S.its.getD ((ats na vs v).getD 0 0) Ae))} hat (by simpa using hr);rw[<-hS1]at hR;obtain⟨r1,r2,r3,r4,J1,y1,y2,y3⟩:=hR;simp only at r2 r4 y1 y3;rw[hk0,zPp _ _ _ (by omega)]at r4 y3;have hl1:(ats na vs v).getD 0 0<S1.its.length:=by rw[r1];exact hi1
   rw[zQh rec _ v f S S1 its2 hS1 hits2 hl1];have hi2':InV na vs v its2:=by
    rw[hits2];refine⟨by rw[AQ];exact r1,λa ha hva=>?_,λa ha hva=>?_⟩
    ·have hh:=res_inn (hi.inn a ha hva) (r2 a ha);by_cases e:a=(ats na vs v).getD 0 0
     ·subst e;rw[zZ hl1];exact nx_inn hh (by rw[(r2 _ ha).p,(r2 _ ha).e];exact(hc _ hi0).1)
     grind
    rw[zBh (λe=>hva (by rw[e];exact hi2))];exact(hi.out a ha hva).res (r2 a ha)
   have hm:=zDv (ats na vs v) hn h0 its2 S1.s (λa ha=>⟨by rw[hi2'.len];exact((zV na vs).1 ha).1,(hi2'.inn a ((zV na vs).1 ha).1 ((zV na vs).1 ha).2).lv⟩) (λa ha hne=>by
    rw[hits2,zBh hne,(r2 a ((zV na vs).1 ha).1).p,(r2 a ((zV na vs).1 ha).1).e];exact(hc a ha).1)
   generalize hr':metJ (ats na vs v) its2 S1.s=r at*;have h2e:(its2.getD ((ats na vs v).getD 0 0) Ae).e=(S.its.getD ((ats na vs v).getD 0 0) Ae).e:=by
    rw[hits2,zZ hl1];exact(r2 _ hi1).e
   have h2p:(its2.getD ((ats na vs v).getD 0 0) Ae).p=(S.its.getD ((ats na vs v).getD 0 0) Ae).p+1:=by
    rw[hits2,zZ hl1];show(S1.its.getD _ Ae).p+1=_;rw[(r2 _ hi1).p]
   have hL:=ih r.2.2 {S1 with its:=r.1,s:=r.2.1} (zFi hi2' hm) r3 (λhf' d hd=>by
     have:=(hm.com d).1 λi hi=>(hm.adv i hi).has (hd i hi)
     rw[hf']at this;exact absurd this.1 (by decide)) hm.key (by
     have a1:=(hm.adv _ hi0).e;have a2:=(hm.adv _ hi0).p;have a3:=(hc _ hi0).1;show(r.1.getD _ Ae).e-(r.1.getD _ Ae).p<=f;rw[a1,h2e];rw[h2p]at a2;omega)
   obtain⟨l1,l2,l3,l4,l5,J2,z1,z2,z3⟩:=hL;simp only at l2 l3 l5 z1 z3;have t1:S1.row.take v=S.row.take v:=by
    have:=congrArg (Ay v) r4
    grind
   rw[t1]at l5 z3;have split:∀y,y.length=n->y.take v=S.row.take v->(Tv na vs v S.its y↔(y.take (v+1)=S.row.take v++[c]/\∀a,a<na->prj vs a (v+1) y∈RS (S.its.getD a Ae))\/Tv na vs v its2 y):=λy hy hyt=>by
    have htk:y.take (v+1)=S.row.take v++[c]↔y.getD v Ae=c:=by
     grind [zBs,Ck]
    rw[htk];by_cases hyc:y.getD v Ae=c
    ·have hno:¬Tv na vs v its2 y:=λh=>by
      have:=zQ9 hv hi2' h _ hi0
      rw[hits2,zZ hl1]at this
      have:=zSj ((r2 _ hi1).lv (hi.inn _ hi1 hi2).lv) this
      have hk:keyI (S1.its.getD ((ats na vs v).getD 0 0) Ae)=c:=by
       rw[<-hk0];unfold keyI;rw[(r2 _ hi1).t,(r2 _ hi1).l,(r2 _ hi1).p]
      simp_all [zHn]
     constructor
     ·intro h;refine .inl ⟨hyc,λa ha=>?_⟩
      have:=h a ha
      by_cases hva:v∈vs a
      ·have hcc:=hc a ((zV na vs).2 ⟨ha,hva⟩);rw[if_pos hva,zR1 hv ha hva,hyc,<-hcc.2,key_RSr (hi.inn a ha hva).lv hcc.1]at this;exact this
      grind [prj_out]
     rintro(⟨_,h⟩|h)
     ·intro a ha
      have:=h a ha
      by_cases hva:v∈vs a
      ·have hcc:=hc a ((zV na vs).2 ⟨ha,hva⟩);rw[if_pos hva,zR1 hv ha hva,hyc,<-hcc.2,key_RSr (hi.inn a ha hva).lv hcc.1];exact this
      grind [prj_out]
     exact absurd h hno
    have key:Tv na vs v S.its y↔Tv na vs v its2 y:=by
     refine forall_congr' λa=>forall_congr' λha=>?_;by_cases hva:v∈vs a
     ·rw [if_pos hva,if_pos hva,hits2];by_cases e:a=(ats na vs v).getD 0 0
      ·subst e;have hlv:=(hi.inn _ ha hva).lv;have hpp:=(hc _ hi0).1;rw[zZ hl1,zR1 hv ha hva];have e1:RSr (nxI (S1.its.getD ((ats na vs v).getD 0 0) Ae))=RSr (nxI (S.its.getD ((ats na vs v).getD 0 0) Ae)):=by
        unfold RSr nxI;simp only[(r2 _ hi1).t,(r2 _ hi1).l,(r2 _ hi1).p,(r2 _ hi1).e]
       rw[e1,zJt hlv.l1 hlv.l2,zJt (it:=nxI _) hlv.l1 hlv.l2];constructor
       ·rintro⟨j,j1,j2,j3,j4⟩;refine⟨j,?_,j2,j3,j4⟩;rcases AB (S.its.getD ((ats na vs v).getD 0 0) Ae).p j with h|h
        ·exact h
        have:j=(S.its.getD ((ats na vs v).getD 0 0) Ae).p:=by omega
        subst this;exact absurd (j3.symm.trans hk0) hyc
       rintro⟨j,j1,j2,j3,j4⟩;exact⟨j,AR (By _) j1,j2,j3,j4⟩
      rw[zBh e,(r2 a ha).RSr]
     rw[if_neg hva,if_neg hva,hits2,zBh (λe=>hva (by rw[e];exact hi2)),(r2 a ha).RS]
    grind
   refine⟨l1,λa ha hva=>?_,λa ha hva=>?_,l4,l5,J1++J2,by rw[z1,y1,Bc],?_,λy=>?_⟩
   ·have q1:=l2 a ha hva;rw[hm.out a λh=>hva ((zV na vs).1 h).2,hits2,zBh (λe=>hva (by rw[e];exact hi2))]at q1;have q2:=r2 a ha;exact⟨q1.t.trans q2.t,q1.l.trans q2.l,q1.p.trans q2.p,q1.e.trans q2.e,q1.fl.trans q2.fl,λj hj=>(q1.fr j (by rw[q2.l];exact hj)).trans (q2.fr j hj)⟩
   ·obtain⟨q1,q2,q3,q4⟩:=l3 a ha hva;have q5:=hm.adv a ((zV na vs).2 ⟨ha,hva⟩);have q6:=r2 a ha;have q7:(its2.getD a Ae).t=(S.its.getD a Ae).t/\(its2.getD a Ae).l=(S.its.getD a Ae).l/\(its2.getD a Ae).fr=(S1.its.getD a Ae).fr:=by
     rw[hits2];by_cases e:a=(ats na vs v).getD 0 0
     ·subst e;rw[zZ hl1];exact⟨q6.t,q6.l,rfl⟩
     rw[zBh e];exact⟨q6.t,q6.l,rfl⟩
    refine⟨q1.trans (q5.t.trans q7.1),q2.trans (q5.l.trans q7.2.1),by rw[q3,q5.fr,q7.2.2,q6.fl],λj hj=>?_⟩;rw[q4 j (by rw[q5.l,q7.2.1];exact hj),q5.fr,q7.2.2];exact q6.fr j hj
   ·refine List.pairwise_append.2 ⟨y2,z2,λa ha b hb=>?_⟩;obtain⟨a1,a2,a3⟩:=(y3 a).1 ha;obtain⟨b1,b2,b3⟩:=(z3 b).1 hb;have ea:=zBs a Ae v (by omega);have hav:a.take v=S.row.take v:=by
     have:=congrArg (Ay v) a2
     grind
    rw[a2,hav,Ck]at ea;simp only[List.cons.injEq,and_true]at ea;have hbv:=zQ9 hv hi2' ((zWf hv hi2' hm b).2 b3) _ hi0;rw[hits2,zZ hl1]at hbv;have hgt:=zSj ((r2 _ hi1).lv (hi.inn _ hi1 hi2).lv) hbv;have hk:keyI (S1.its.getD ((ats na vs v).getD 0 0) Ae)=c:=by
     rw[<-hk0];unfold keyI;rw[(r2 _ hi1).t,(r2 _ hi1).l,(r2 _ hi1).p]
    rw[hk]at hgt;rw[rcmp_at v a b (by omega) (by omega) (hav.trans b2.symm) (by rw[<-ea];omega),<-ea];exact hgt
   rw [Bs,y3,z3];constructor
   ·rintro(⟨h1,h2,h3⟩|⟨h1,h2,h3⟩)
    ·have hav:y.take v=S.row.take v:=by
      have:=congrArg (Ay v) h2
      grind
     grind
    grind [zWf]
   grind [zWf]
end
section
variable {n na : Nat} {vs : Nat → List Nat}
theorem zKa(g:It->It):∀(ix:List Nat)(its:List It),(ix.foldl (λits i=>its.set i (g (its.getD i Ae))) its).length=its.length
 |[],_=>rfl
 |i::ix,its=>by rw[A5,zKa g ix,AQ]
theorem zHh(g:It->It):∀(ix:List Nat)(its:List It),ix.Nodup->(∀i∈ix,i<its.length)->∀j,(ix.foldl (λits i=>its.set i (g (its.getD i Ae))) its).getD j Ae=if j∈ix then g (its.getD j Ae)else its.getD j Ae
 |[],its,hn,hl,j=>by simp
 |i::ix,its,hn,hl,j=>by
  have hn':=B7.1 hn;rw[A5,zHh g ix _ hn'.2 (λk hk=>by rw[AQ];exact hl k (by simp[hk]))];grind
theorem zJd(hv:Vok n na vs):∀(m v:Nat)(S:Js),m+v=n->AtV na vs v S.its->S.row.length=n->ExtP n na vs v S (extJ (ats na vs) m v S):=by
 intro m;induction m with
 | zero=>
  intro v S hmv ha hr;obtain rfl:v=n:=by omega
  unfold extJ;refine⟨ha.len,λa _=>Res.refl _,hr,rfl,[S.row],rfl,List.pairwise_singleton _ _,λy=>?_⟩;rw[Bz];constructor
  ·rintro rfl;refine⟨hr,rfl,λa ha'=>?_⟩;have e1:prj vs a v S.row=[]:=by
    unfold prj;rw[List.filter_eq_nil_iff.2 λw hw=>by have:=hv.lt a ha' w hw;simp;omega];rfl
   have e2:cnt vs a v=(vs a).length:=by
    unfold cnt;rw[List.filter_eq_self.2 λw hw=>by have:=hv.lt a ha' w hw;simp;omega]
   obtain⟨t1,t2,t3,t4,t5,t6⟩:=ha.one a ha';grind [RS,Ch,rws,List.drop_eq_nil_of_le]
  grind
 | succ m ih=>
  intro v S hmv ha hr;have hvn:v<n:=by omega
  have h0:=hv.pos hvn;have hi0:=zAy h0;have hn:=zKq na vs v;have hlt:∀i∈ats na vs v,i<S.its.length:=λi hi=>by rw[ha.len];exact((zV na vs).1 hi).1
  have hop:∀j,(zCd (ats na vs v) S.its).getD j Ae=if j∈ats na vs v then opI (S.its.getD j Ae)else S.its.getD j default:=zHh opI _ _ hn hlt
  have hol:(zCd (ats na vs v) S.its).length=S.its.length:=zKa opI _ _;unfold extJ;simp only;generalize hI1:zCd (ats na vs v) S.its=its1 at*;have hin:∀a,a<na->v∈vs a->its1.getD a Ae=opI (S.its.getD a Ae):=λa h1 h2=>by rw[hop,if_pos ((zV na vs).2 ⟨h1,h2⟩)]
  have hout:∀a,v∉vs a->its1.getD a Ae=S.its.getD a default:=λa h2=>by rw[hop,if_neg λh=>h2 ((zV na vs).1 h).2]
  have hsp:∀a (h1:a<na)(h2:v∈vs a),_:=λa h1 h2=>zL1 (ha.one a h1) (zKo hv h1 h2);have hi1:InV na vs v its1:=⟨by rw[hol];exact ha.len,λa h1 h2=>by rw[hin a h1 h2];exact(hsp a h1 h2).1,λa h1 h2=>by rw[hout a h2];exact ha.one a h1⟩;have hm:=zDv (ats na vs v) hn h0 its1 S.s (λa h=>⟨by rw[hol];exact hlt a h,(hi1.inn a ((zV na vs).1 h).1 ((zV na vs).1 h).2).lv⟩) (λa h _=>by
   obtain⟨h1,h2⟩:=(zV na vs).1 h;rw[hin a h1 h2];exact(hsp a h1 h2).2.1)
  generalize hr':metJ (ats na vs v) its1 S.s=r at*;have hL:=zT6 hv hvn (extJ (ats na vs) m (v+1)) (λS h1 h2=>ih (v+1) S (by omega) h1 h2) ((its1.getD ((ats na vs v).getD 0 0) Ae).e) r.2.2 {S with its:=r.1,s:=r.2.1} (zFi hi1 hm) hr (λhf' d hd=>by
   have:=(hm.com d).1 λi hi=>(hm.adv i hi).has (hd i hi)
   rw[hf']at this;exact absurd this.1 (by decide)) hm.key (by
    show(r.1.getD _ Ae).e-_<=_;rw[(hm.adv _ hi0).e];omega)
  generalize lpJ (extJ (ats na vs) m (v+1)) (ats na vs v) v ((its1.getD ((ats na vs v).getD 0 0) Ae).e) r.2.2 {S with its:=r.1,s:=r.2.1}=S2 at*;obtain⟨l1,l2,l3,l4,l5,J,z1,z2,z3⟩:=hL;simp only at l2 l3 l5 z1 z3;have hul:(zGu (ats na vs v) S2.its).length=S2.its.length:=zKa upI _ _;have hup:∀j,(zGu (ats na vs v) S2.its).getD j Ae=if j∈ats na vs v then upI (S2.its.getD j Ae)else S2.its.getD j default:=zHh upI _ _ hn λi hi=>by rw[l1];exact((zV na vs).1 hi).1
  refine⟨by rw[hul];exact l1,λa h1=>?_,l4,l5,J,z1,z2,λy=>(z3 y).trans ?_⟩
  ·simp only[hup];by_cases h2:v∈vs a
   ·have hma:=(zV na vs).2 ⟨h1,h2⟩;rw[if_pos hma];obtain⟨q1,q2,q3,q4⟩:=l3 a h1 h2;have q5:=hm.adv a hma;rw[hin a h1 h2]at q5;obtain⟨p1,p2,p3,p4,p5⟩:=hsp a h1 h2;have hal:=(ha.one a h1).ll;have hfl:=(ha.one a h1).fl;have hd:=(ha.one a h1).d32;have hc:=zKo hv h1 h2;have ell:(S2.its.getD a Ae).l=cnt vs a v+1:=by rw[q2,q5.l,p1.ll]
    have efr:∀j,j<cnt vs a v+1->(S2.its.getD a Ae).fr.getD j (0,0)=((S.its.getD a Ae).fr.set (cnt vs a v) (((S.its.getD a Ae).p:Nat),((S.its.getD a Ae).e:Nat))).getD j (0,0):=λj hj=>by
     rw[q4 j (by rw[q5.l,p1.ll];exact hj),q5.fr,p5]
    have e0:=efr (cnt vs a v) (Nat.lt_succ_self _);rw[A8 (l:=AU _ _ _),Bj (by omega)]at e0;refine⟨?_,?_,?_,?_,?_,λj hj=>?_⟩
    ·show(S2.its.getD a Ae).t=_;rw[q1,q5.t,p4]
    ·show(S2.its.getD a Ae).l-1=_;rw[ell,hal];rfl
    ·show((S2.its.getD a Ae).fr.getD ((S2.its.getD a Ae).l-1) (0,0)).1.toNat=_;grind
    ·show((S2.its.getD a Ae).fr.getD ((S2.its.getD a Ae).l-1) (0,0)).2.toNat=_;grind
    ·show(S2.its.getD a Ae).fr.length=_;rw[q3,q5.fr,p5,AQ]
    show(S2.its.getD a Ae).fr.getD j (0,0)=_;rw[hal]at hj;rw[efr j (by omega),A8,Bl (by omega),<-A8]
   rw[if_neg λh=>h2 ((zV na vs).1 h).2]
   have:=l2 a h1 h2
   rw[hm.out a λh=>h2 ((zV na vs).1 h).2,hout a h2]at this;exact this
  refine and_congr_right λ_=>and_congr_right λ_=>?_;rw[<-zWf hv hi1 hm];refine forall_congr' λa=>forall_congr' λh1=>?_;grind
end
section
open Go.RowKit
abbrev itK(it:It):Bk:=itB it.t (it.l:Nat) (it.p:Nat) (it.e:Nat) (frC it.fr) (it.s:Nat)
structure Lay where
 N:Nat
 na:Nat
 n:Nat
 jb:Nat
 rb:Nat
 tb:Nat
 ab:Nat->Nat
 ib:Nat->Nat
 vs:Nat->List Nat
 cb:Nat
 ch:List Nat
 yb:List (List Va)->Nat->Option Bk
 bs:Nat->Bk
abbrev Lay.ix(L:Lay)(v:Nat):List Nat:=ats L.na L.vs v
abbrev jB(L:Lay)(s:Nat):Bk:=⟨[.osl L.rb 0 L.n (L.n*3) Ab, .osl L.tb 0 L.n L.n Ab,iD (s:Nat), .clo (.func 135) [] [.own L.cb 0]],218,0,Ad,Ad, .plain⟩
abbrev roB(r:List Va):Bk:=⟨zJ r,64,3,Ab,Ad, .plain⟩
abbrev ixB(L:Lay)(ix:List Nat):Bk:=⟨ix.map λi=> .own (L.ib i) 0,225,1,Ab,Ad, .sh⟩
abbrev tbB(L:Lay):Bk:=⟨(AE L.n).map λv=> .osl (L.ab v) 0 (L.ix v).length (L.ix v).length Ab,219,1,Ab,Ad, .sh⟩
def blk(L:Lay)(S:Js)(k:Nat):Bk:=if k=L.jb then jB L S.s else if k=L.rb then roB S.row else match(AE L.na).find? (λi=>L.ib i==k)with
 |some i=>itK (S.its.getD i Ae)
 |none=>(L.yb S.ys k).getD (L.bs k)
def lay(L:Lay)(S:Js):List Bk:=(AE L.N).map (blk L S)
def namB(N:Nat)(b:Bk):Prop:=b.nob=Ab\/∀j,N<=j->zX j b.cells=Ad
structure LOk(L:Lay):Prop where
 sm:L.N<=100000
 jb:L.jb<L.N
 rb:L.rb<L.N
 tb:L.tb<L.N
 jr:L.rb≠L.jb
 ib:∀i,i<L.na->L.ib i<L.N/\L.ib i≠L.jb/\L.ib i≠L.rb
 ii:∀i j,i<L.na->j<L.na->L.ib i=L.ib j->i=j
 ts:L.tb≠L.jb/\L.tb≠L.rb/\(∀i,i<L.na->L.ib i≠L.tb)/\L.bs L.tb=tbB L/\∀ys,L.yb ys L.tb=AG
 ab:∀v,v<L.n->L.ab v<L.N/\L.ab v≠L.jb/\L.ab v≠L.rb/\(∀i,i<L.na->L.ib i≠L.ab v)/\L.bs (L.ab v)=ixB L (L.ix v)/\∀ys,L.yb ys (L.ab v)=AG
 ch:∀k∈L.ch,k≠L.jb/\k≠L.rb/\k≠L.tb/\(∀v,v<L.n->k≠L.ab v)/\∀i,i<L.na->k≠L.ib i
 cb:L.cb<L.N/\L.cb∉L.ch
 nb:∀k,k<L.N->namB L.N (L.bs k)
 ny:∀ys k b,L.yb ys k=Al b->namB L.N b
section
variable {L : Lay} {S : Js}
theorem zAq:(lay L S).length=L.N:=by simp[lay]
theorem zDw{k:Nat}(h:k<L.N):(lay L S)[k]?=Al (blk L S k):=by simp[lay,h]
theorem find_ib(h:LOk L){i:Nat}(hi:i<L.na):(AE L.na).find? (λj=>L.ib j==L.ib i)=Al i:=by
 rw[List.find?_eq_some_iff_append];refine⟨by simp,AE i,(AP (i+1) (L.na-i-1)),?_,λj hj=>?_⟩
 ·rw[List.range_eq_range',List.range_eq_range',show L.na=i+(1+(L.na-i-1)) by omega,<-BR,<-BR];simp
 have hj:=AZ.1 hj;simp only[Bv,beq_eq_false_iff_ne];exact λe=>by have:=h.ii j i (by omega) hi e;omega
theorem zMp{k:Nat}(hk:∀i,i<L.na->L.ib i≠k):(AE L.na).find? (λi=>L.ib i==k)=none:=by
 grind
theorem blk_j:blk L S L.jb=jB L S.s:=by grind [blk]
theorem blk_r(h:LOk L):blk L S L.rb=roB S.row:=by unfold blk;rw[if_neg h.jr,if_pos rfl]
theorem blk_i(h:LOk L){i:Nat}(hi:i<L.na):blk L S (L.ib i)=itK (S.its.getD i Ae):=by
 unfold blk;rw[if_neg (h.ib i hi).2.1,if_neg (h.ib i hi).2.2,find_ib h hi]
theorem zNf(h:LOk L):(lay L S)[L.jb]?=Al (jB L S.s):=by rw[zDw h.jb,blk_j]
theorem lay_r(h:LOk L):(lay L S)[L.rb]?=Al (roB S.row):=by rw[zDw h.rb,blk_r h]
theorem zQi(h:LOk L){i:Nat}(hi:i<L.na):(lay L S)[L.ib i]?=Al (itK (S.its.getD i Ae)):=by rw[zDw (h.ib i hi).1,blk_i h hi]
theorem lay_t(h:LOk L):(lay L S)[L.tb]?=Al (tbB L):=by
 obtain⟨h1,h2,h3,h4,h5⟩:=h.ts;rw[zDw h.tb];simp_all [blk,zMp]
theorem zT8(h:LOk L){v:Nat}(hv:v<L.n):(lay L S)[L.ab v]?=Al (ixB L (L.ix v)):=by
 obtain⟨h0,h1,h2,h3,h4,h5⟩:=h.ab v hv;simp_all [zDw,blk,zMp]
theorem zT7{S':Js}{k:Nat}{b:Bk}(h:∀j,j≠k->blk L S j=blk L S' j)(hb:blk L S' k=b):(lay L S).set k b=lay L S':=by
 apply A0;grind [lay,A3,List.length_range,Bq,AB]
theorem zMf(h:LOk L)(s:Nat):(lay L S).set L.jb (jB L s)=lay L {S with s:=s}:=by
 grind [zT7,blk_j,blk]
theorem lay_set_r(h:LOk L)(r:List Va):(lay L S).set L.rb (roB r)=lay L {S with row:=r}:=by
 grind [zT7,blk_r,blk]
theorem zH6(h:LOk L){i:Nat}(hi:i<L.na)(hl:i<S.its.length)(x:It):(lay L S).set (L.ib i) (itK x)=lay L {S with its:=S.its.set i x}:=by
 refine zT7 (λj hj=>?_) ?_
 ·unfold blk;grind
 simp_all [blk_i,itK,zZ]
theorem zK6(it:It):(itK it).free:=zBa (zBg _)
theorem blk_nam(h:LOk L){k:Nat}(hk:k<L.N):namB L.N (blk L S k):=by
 unfold blk;split
 ·refine .inr λj hj=>?_;have h1:=h.rb;have h2:=h.tb;have h3:=h.cb.1;simp only[zX,refs,A1,Cb,Bool.or_eq_false_iff,beq_eq_false_iff_ne];omega
 split
 ·exact .inl rfl
 split
 ·exact .inr λj _=>zMg (zBg _) j
 rename_i hq;cases e:L.yb S.ys k with
 |none=>exact h.nb k hk
 |some b=>exact h.ny _ _ b e
end
theorem zHm{T:Par}{N:Nat}{sl:List D}{st bs:List Bk}(hl:st.length=N)(hn:∀b∈st,namB N b)(hs:∀j∈ownL sl,j<N)(hk:∀k,N<=k->T.keep k=Ad):Weak T sl (st++bs) sl st:=by
 have ht:(st++bs).take N=st:=by rw[<-hl,BE];rfl
 have:=Weak.cut (T:=T) (sl:=sl) (st:=st++bs) N ?_ hk
 ·grind
 unfold zEp;simp only[Bt,AZ,BG,Bv,BH];intro i hi;refine⟨zCy sl λj hj=>by have:=hs j hj;omega,λe he=>?_⟩;rw[ht]at he;rcases hn e he with h|h;all_goals grind
def lts(N:Nat):List Nat->Prop
 |[]=>True
 |j::l=>j<N/\lts N l
theorem zQf{N:Nat}:∀{l:List Nat},lts N l->∀j∈l,j<N
 |[],_,j,hj=>by simp at hj
 |i::l,h,j,hj=>by
  rcases Bi.1 hj with rfl|hj
  ·exact h.1
  exact zQf h.2 j hj
theorem zHb{L:Lay}{S:Js}(h:LOk L):∀b∈lay L S,namB L.N b:=λb hb=>by
 obtain⟨k,hk,rfl⟩:=List.mem_map.1 hb;exact blk_nam h (AZ.1 hk)
theorem zK1{P:Program}{T:Par}{c:Code}{Q:Exit->List D->List Bk->Prop}{N:Nat}{sl:List D}{st bs:List Bk}(dead:List Nat)(C:Prop)(hl:st.length=N)(hn:∀b∈st,namB N b)(hk:∀k,N<=k->T.keep k=Ad)(hC:lts N (ownL (zAx sl dead))=C)(hs:C)(k:awp P T c Q (zAx sl dead) st):zAn P T c Q sl (st++bs):=
 ⟨_,_,(Weak.slots (LeL.dead dead sl)).trans (zHm hl hn (zQf (hC▸hs)) hk),k⟩
theorem zA5{T:Par}{N:Nat}{sl sl':List D}{st bs:List Bk}(C:Prop)(hl:st.length=N)(hn:∀b∈st,namB N b)(hk:∀k,N<=k->T.keep k=Ad)(hw:Weak T sl (st++bs) sl' (st++bs))(hs:C)(hC:lts N (ownL sl')=C:=by kernel_rfl):Weak T sl (st++bs) sl' st:=
 hw.trans (zHm hl hn (zQf (hC▸hs)) hk)
theorem zDa{P:Program}{T:Par}{ops:Array Oper}{sl:List D}{st:List Bk}{q n:Nat}{c:List (Nat×Nat)}(h1:zFg P T ops [(q,n)] sl st)(h2:zFg P T ops c sl st):zFg P T ops ((q,n)::c) sl st:=λx hx=>by
 rcases Bi.1 hx with rfl|hx
 ·exact h1 _ (by simp)
 exact h2 x hx
def litL(P:Program)(T:Par)(o:Oper)(sl:List D):Option (Prop×D):=match o.guard with
 |some _=>AG
 | none=>match o.op with
  | .indexAddr t x i=>match zGr P t (evD sl x) (evD sl i)with
   | .lit p d=>Al (p,d)
   |_=>AG
  | .fieldAddr t x f=>match zGs P t (evD sl x) f with
   | .lit p d=>Al (p,d)
   |_=>AG
  |_=>AG
theorem zK4{P:Program}{T:Par}{ops:Array Oper}{sl:List D}{st:List Bk}(q n:Nat)(p:Prop)(d0 d:D)(h:litL P T (ops.getD q Ae) sl=Al (p,d0))(ed:d0=d)(hp:p)(hd:((ops.getD q Ae).dst).map (λx=>sl[x]?)=Al (Al d)):zFg P T ops [(q,n)] sl st:=λx hx=>by
 rw[Bz.1 hx];subst ed;simp only;generalize ops.getD q Ae=o at*;unfold litL at h;split at h
 ·cases h
 rename_i hg;split at h
 ·rename_i t x i ho;split at h
  ·rename_i p1 d1 hl;cases h;have he:aeff P T o.op o.type (evD sl) (st.take n)= .lit p d0:=by rw[ho];exact hl
   unfold zFq gv;simp only[hg,he];refine⟨by rw[ho];rfl,hp,λx hx=>?_⟩;rw[hx]at hd;simpa using hd
  cases h
 ·rename_i t x f ho;split at h
  ·rename_i p1 d1 hl;cases h;have he:aeff P T o.op o.type (evD sl) (st.take n)= .lit p d0:=by rw[ho];exact hl
   unfold zFq gv;simp only[hg,he];refine⟨by rw[ho];rfl,hp,λx hx=>?_⟩;rw[hx]at hd;simpa using hd
  cases h
 cases h
theorem zXp{P:Program}{T:Par}{ops:Array Oper}{sl:List D}{st:List Bk}(q n:Nat)(e:Bk)(k:Nat)(p:Prop)(d0 d:D)(h:ldL P [ops.getD q Ae] sl e=Al (k,p,d0))(ed:d0=d)(hk:(st.take n)[k]?=Al e)(hp:p)(hd:((ops.getD q Ae).dst).map (λx=>sl[x]?)=Al (Al d)):zFg P T ops [(q,n)] sl st:=by grind [zDd]
theorem zF4{P:Program}{T:Par}{c:Code}{Q:Exit->List D->List Bk->Prop}{N:Nat}{sl:List D}{st bs:List Bk}(dead:List Nat)(sl':List D)(C:Prop)(hl:st.length=N)(hn:∀b∈st,namB N b)(hk:∀k,N<=k->T.keep k=Ad)(e:zAx sl dead=sl')(hC:lts N (ownL sl')=C)(hs:C)(k:awp P T c Q sl' st):zAn P T c Q sl (st++bs):=
 zK1 dead C hl hn hk (e▸hC) hs (e▸k)
theorem zFy{P:Program}{T:Par}{ops:Array Oper}{dr:Bool}{l:List Oper}{sl:List D}{st:List Bk}{K:List D->List Bk->Prop}(st':List Bk)(e:st=st')(k:seqW P T ops dr l sl st' K):seqW P T ops dr l sl st K:=e▸k
theorem next_st{P:Program}{T:Par}{sl:List D}{st:List Bk}{b:Code}{Q:Exit->List D->List Bk->Prop}(st':List Bk)(e:st=st')(k:zAn P T b Q sl st'):zAn P T b Q sl st:=e▸k
theorem zL9{P:Program}{T:Par}{sl:List D}{st:List Bk}{b:Code}{Q:Exit->List D->List Bk->Prop}(dead:List Nat)(sl':List D)(e:zAx sl dead=sl')(k:awp P T b Q sl' st):zAn P T b Q sl st:=⟨_,_,Weak.slots (LeL.dead dead sl),e▸k⟩
theorem zDn{o:Oper}{c:List (Nat×Nat)}{sl:List D}{st:List Bk}(h:∀x∈c,st.length<=x.2):freesB o c sl st=true:=by
 unfold freesB;rw[Bt];intro x hx;rw[Nat.ble_eq_true_of_le (h x hx),Bool.true_or]
theorem zD6{st:List Bk}{n:Nat}(h:st.length<=n):st.take n=st:=AT h
structure BdI(it:It):Prop where
 vl:∀k,(vls it.t k).length<=1000000
 fl:∀k,(fst' it.t k).length<=1000001
 fc:∀k,∀c∈fst' it.t k,c<=1000000
 t32:it.t.length<=32
 f32:it.fr.length=32
theorem BdI.of{a b:It}(h:BdI a)(ht:b.t=a.t)(hf:b.fr.length=a.fr.length):BdI b:=⟨by rw[ht];exact h.vl,by rw[ht];exact h.fl,by rw[ht];exact h.fc,by rw[ht];exact h.t32,by rw[hf];exact h.f32⟩
theorem LvI.lt{it:It}(h:LvI it)(hb:BdI it):it.p<it.e->it.e<=1000000:=λhp=>AR (h.len hp).1 (hb.vl _)
section
variable {st : List Bk} {k : Nat} {it : It}
theorem key_g(hst:st[k]?=Al (itK it))(h:LvI it)(hb:BdI it)(hp:it.p<it.e):Acts Am 169 [.own k 0] st [] (.tup [.agg (vaC (keyI it)),bD Ab]) st:=by
 obtain⟨t,l,p,e,fr,s⟩:=it;obtain⟨h1,h2,h3,h4⟩:=h;simp only at h1 h2 h3 h4 hp;obtain⟨l,rfl⟩:∃l',l=l'+1:=⟨l-1,by omega⟩;have hl:=LvI.len (it:=⟨t,l+1,p,e,fr,s⟩) ⟨h1,h2,h3,h4⟩ hp;have hx:=hb.vl l;have hy:=hb.t32;simp only[A_]at hl;simp only at hx hy;have h2:=(key_a t (e:Nat) (frC fr) (s:Nat) (zBg _) l p (by omega) (by show p<(vls t l).length;omega) (by omega) (by omega)).atG (args:=[.own k 0]) (st:=st) k hst (zBa (zBg _)) (zBa (zBg _)) (zCk []);rw[zRk hst]at h2;exact h2
theorem keyNo_g(hst:st[k]?=Al (itK it))(hp:it.e<=it.p):Acts Am 169 [.own k 0] st [] (.tup [.agg (vaC ⟨0,0,[]⟩),bD Ad]) st:=by
 have h2:=(keyNo_a it.t (it.p:Nat) (it.e:Nat) (frC it.fr) (it.s:Nat) (zBg _) (it.l:Nat) (by
  unfold onV;rw[decide_eq_false (show¬((it.p:Nat):Int)<(it.e:Nat) by omega),Bool.and_false])).atG (args:=[.own k 0]) (st:=st) k hst (zBa (zBg _)) (zBa (zBg _)) (zCk [])
 rw[zRk hst]at h2;exact h2
theorem seek_g(v:Va)(hst:st[k]?=Al (itK it))(h:LvI it)(hb:BdI it)(hp:it.p<it.e)(hs:it.s<=100000000000000000):Acts Am 183 [.own k 0, .agg (vaC v)] st [] (bD (decide ((skI v it).p<(skI v it).e))) (st.set k (itK (skI v it))):=by
 have hm:=h.mon v;obtain⟨t,l,p,e,fr,s⟩:=it;obtain⟨h1,h2,h3,h4⟩:=h;simp only at h1 h2 h3 h4 hp hm hs;obtain⟨l,rfl⟩:∃l',l=l'+1:=⟨l-1,by omega⟩;have hl:=LvI.len (it:=⟨t,l+1,p,e,fr,s⟩) ⟨h1,h2,h3,h4⟩ hp;have hx:=hb.vl l;have hy:=hb.t32;have hf:=hb.f32;simp only[A_]at hl;simp only at hx hy hf;exact(seek_a t (frC fr) (by rw[zMn,hf]) (zBg _) l p e s v (by omega) hp hl.1 (by omega) (by omega) hs hm).atG (args:=[.own k 0, .agg (vaC v)]) (st:=st) k hst (zBa (zBg _)) (zBa (zBg _)) (λI w β vs h=>by
  simp only[RelT,Rel,RelL,vaC]at h⊢;simpa[only]using h)
theorem next_g(hst:st[k]?=Al (itK it))(h:LvI it)(hb:BdI it)(hp:it.p<it.e):Acts Am 168 [.own k 0] st [] (bD (onI (nxI it))) (st.set k (itK (nxI it))):=by
 have hl:=h.lt hb hp;have h1:=h.l1;have h2:=(next_a it.t (it.l:Nat) (it.p:Nat) (it.e:Nat) (frC it.fr) (it.s:Nat) (by omega)).atG (args:=[.own k 0]) (st:=st) k hst (zK6 _) (by
  split<;>exact zBa (zBg _)) (zCk [])
 have e1:onV (it.l:Nat) (it.p:Nat) (it.e:Nat)=true:=by
  grind [onV]
 have e2:onV (it.l:Nat) (((it.p:Nat):Int)+1) (it.e:Nat)=onI (nxI it):=by
  unfold onV onI nxI;grind
 rw[e1,e2,BK,if_pos rfl]at h2;exact h2
theorem open_g{d l:Nat}(hst:st[k]?=Al (itK it))(h:AtI d l it)(hb:BdI it)(hl:l<d):Acts Am 166 [.own k 0] st [] (bD Ab) (st.set k (itK (opI it))):=by
 obtain⟨o1,o2,o3,o4,o5⟩:=zL1 h hl;obtain⟨h1,h2,h3,h4,h5,h6⟩:=h;have hx:=hb.vl;have hy:=hb.fl;have hz:=hb.fc;obtain⟨t,l',p,e,fr,s⟩:=it;simp only at h1 h2 h3 h5 h6 hx hy hz;subst h2;cases l' with
 |zero=>
  have ht:szT t=(zCv t 0).length:=by cases t<;>rfl
  have hn:0<(zCv t 0).length:=by rw[<-ht];exact o2
  have:=(open0_a t (p:Nat) (e:Nat) (s:Nat) fr h3 (by omega) hn).atG (args:=[.own k 0]) (st:=st) k hst (zK6 ⟨t,0,p,e,fr,s⟩) (zBa (zBg _)) (zCk [])
  rw[<-ht]at this;exact this
 |succ q=>
  obtain⟨lv,hp⟩:=h6 (by omega);have hlen:=lv.len hp;simp only[A_]at hlen;try simp only at hp
  have hne:(fst' t q).getD p 0≠(fst' t q).getD (p+1) 0:=Nat.ne_of_lt o2
  have:=(open_a t (e:Nat) (s:Nat) fr h3 q p (by omega) (by omega) (by show p+1<(fst' t q).length;omega) (by omega) (λc hc=>by have:=hz q c hc;omega) (by have:=hy q;show(fst' t q).length<=_;omega) hne).atG (args:=[.own k 0]) (st:=st) k hst (zK6 ⟨t,q+1,p,e,fr,s⟩) (zBa (zBg _)) (zCk [])
  exact this
theorem up_g(hst:st[k]?=Al (itK it))(hb:BdI it)(hl:1<=it.l)(hl2:it.l<=32)(h0:0<=(it.fr.getD (it.l-1) (0,0)).1/\0<=(it.fr.getD (it.l-1) (0,0)).2):Acts Am 170 [.own k 0] st [] (bD Ab) (st.set k (itK (upI it))):=by
 have hf:=hb.f32;obtain⟨t,l,p,e,fr,s⟩:=it;simp only at hl hl2 h0 hf;obtain⟨l,rfl⟩:∃l',l=l'+1:=⟨l-1,by omega⟩;simp only[A_]at h0;have h2:=(up_a t (p:Nat) (e:Nat) (s:Nat) fr hf l (by omega)).atG (args:=[.own k 0]) (st:=st) k hst (zK6 ⟨t,l+1,p,e,fr,s⟩) (zBa (zBg _)) (zCk []);have e1:(fr.getD l (0,0)).1=(((fr.getD l (0,0)).1.toNat:Nat):Int):=by omega
 have e2:(fr.getD l (0,0)).2=(((fr.getD l (0,0)).2.toNat:Nat):Int):=by omega
 rw[e1,e2]at h2;exact h2
theorem steps_g(hst:st[k]?=Al (itK it))(hb:BdI it):Acts Am 147 [.own k 0] st [] (iD (it.s:Nat)) st:=by
 have h2:=(steps_a it.t (it.l:Nat) (it.p:Nat) (it.e:Nat) (frC it.fr) (it.s:Nat) (by rw[zMn,hb.f32])).atG (args:=[.own k 0]) (st:=st) k hst (zBa (zBg _)) (zBa (zBg _)) (zCk []);rw[zRk hst]at h2;exact h2
end
end
theorem sk_cost{it:It}(h:LvI it)(hp:it.p<it.e)(v:Va):it.s<=(skI v it).s/\(skI v it).s<=it.s+(it.e-it.p)+2:=(zWn (s:=it.s) (h.mon v) hp).2
abbrev big:Nat:=100000000000000000
structure MI(ix:List Nat)(na M:Nat)(its:List It)(key:Va)(same k s f:Nat):Prop where
 len:its.length=na
 lt:∀i∈ix,i<na
 lv:∀i∈ix,LvI (its.getD i Ae)/\(its.getD i Ae).p<(its.getD i Ae).e/\(its.getD i Ae).e-(its.getD i Ae).p<=M
 st:∀i∈ix,(its.getD i Ae).s+f*(M+2)<=big
 s1:1<=same
 s2:same<=ix.length
 kf:k+f<=big
 sf:s+f<=big
 ms:msr ix its key same<=f
abbrev ixk(ix:List Nat)(k:Nat):Nat:=ix.getD (k%ix.length) 0
theorem MI.mem{ix:List Nat}{na M:Nat}{its:List It}{key:Va}{same k s f:Nat}(h:MI ix na M its key same k s f):ixk ix k∈ix:=zAy (Bw _ (Br h.s1 h.s2))
theorem MI.pos{ix:List Nat}{na M:Nat}{its:List It}{key:Va}{same k s f:Nat}(h:MI ix na M its key same k s f)(hs:same<ix.length):∃f',f=f'+1:=by
 have:=h.ms
 unfold msr at this;exact⟨f-1,by omega⟩
section
variable {ix : List Nat} {na M : Nat} {its : List It} {key : Va} {same k s f : Nat}
theorem MI.lvs(h:MI ix na M its key same k s (f+1)){X:It}(hX:X=skI key (its.getD (ixk ix k) Ae))(hp:X.p<X.e):∀i∈ix,LvI ((its.set (ixk ix k) X).getD i Ae)/\((its.set (ixk ix k) X).getD i Ae).p<((its.set (ixk ix k) X).getD i Ae).e/\((its.set (ixk ix k) X).getD i Ae).e-((its.set (ixk ix k) X).getD i Ae).p<=M/\((its.set (ixk ix k) X).getD i Ae).s+f*(M+2)<=big:=by
 subst hX;intro i hi;have hm:=h.mem;obtain⟨a1,a2,a3⟩:=h.lv _ hm;have a4:=h.st _ hm;obtain⟨c1,c2⟩:=sk_cost a1 a2 key;obtain⟨d1,d2,d3,d4⟩:=zG4 a1 a2 key;rw[Bb]at a4;by_cases e:i=ixk ix k
 ·subst e;rw[zZ (by rw[h.len];exact h.lt _ hm)];refine⟨d1,hp,?_,by omega⟩;show(its.getD (ixk ix k) Ae).e-_<=M;omega
 rw[zBh e];have b4:=h.st i hi;rw[Bb]at b4;exact⟨(h.lv i hi).1,(h.lv i hi).2.1,(h.lv i hi).2.2,by omega⟩
theorem MI.eqv(h:MI ix na M its key same k s (f+1))(hs:same<ix.length){X:It}(hX:X=skI key (its.getD (ixk ix k) Ae))(hp:X.p<X.e):MI ix na M (its.set (ixk ix k) X) key (same+1) (k+1) (s+1) f:=by
 have hm:=h.mem;have hv:=h.lvs hX hp;subst hX;obtain⟨a1,a2,a3⟩:=h.lv _ hm;refine⟨by rw[AQ];exact h.len,h.lt,λi hi=>⟨(hv i hi).1,(hv i hi).2.1,(hv i hi).2.2.1⟩,λi hi=>(hv i hi).2.2.2,by omega,by omega,by have:=h.kf;omega,by have:=h.sf;omega,?_⟩
 have:=zJl ix its (ixk ix k) _ key key (by rw[h.len];exact h.lt _ hm) (λ_ _ _=>Aw _) (gt_sk a1 a2 key key)
 have:=Bx (ix.length+1) this
 have hm:=h.ms;unfold msr at hm⊢;omega
theorem MI.other(h:MI ix na M its key same k s (f+1))(hs:same<ix.length){X:It}(hX:X=skI key (its.getD (ixk ix k) Ae))(hp:X.p<X.e)(hne:vcmp (keyI X) key≠0):MI ix na M (its.set (ixk ix k) X) (keyI X) 1 (k+1) (s+1) f:=by
 have hm:=h.mem;have hv:=h.lvs hX hp;subst hX;obtain⟨a1,a2,a3⟩:=h.lv _ hm;obtain⟨d1,d2,d3,d4⟩:=zG4 a1 a2 key;refine⟨by rw[AQ];exact h.len,h.lt,λi hi=>⟨(hv i hi).1,(hv i hi).2.1,(hv i hi).2.2.1⟩,λi hi=>(hv i hi).2.2.2,by omega,by omega,by have:=h.kf;omega,by have:=h.sf;omega,?_⟩;have hlt:vcmp key (keyI (skI key (its.getD (ixk ix k) Ae)))<0:=by
  have:=d4 hp
  have:=zA8 (keyI (skI key (its.getD (ixk ix k) Ae))) key
  omega
 have:=zNn ix its (ixk ix k) _ key _ (by rw[h.len];exact h.lt _ hm) hm (λj _ _=>gt_key hlt) (Br (gt_lt hp hlt) (gt_sk a1 a2 key key))
 have:=Bx (ix.length+1) (Nat.succ_le_of_lt this)
 rw[Bb]at this;have hm:=h.ms;unfold msr at hm⊢;omega
end
theorem mtL_end(ix:List Nat)(f:Nat)(its:List It)(key:Va)(same k s:Nat)(h:ix.length<=same):mtL ix f its key same k s=(its,s,Ab):=by
 cases f<;>grind [mtL]
theorem mtL_no(ix:List Nat)(f:Nat)(its:List It)(key:Va)(same k s:Nat)(h:same<ix.length){X:It}(hX:X=skI key (its.getD (ixk ix k) Ae))(hp:onI X=Ad):mtL ix (f+1) its key same k s=(its.set (ixk ix k) X,s,Ad):=by
 grind [mtL]
theorem zXd(ix:List Nat)(f:Nat)(its:List It)(key:Va)(same k s:Nat)(h:same<ix.length){X:It}(hX:X=skI key (its.getD (ixk ix k) Ae))(hp:onI X=Ab)(he:vcmp (keyI X) key=0):mtL ix (f+1) its key same k s=mtL ix f (its.set (ixk ix k) X) key (same+1) (k+1) (s+1):=by
 grind [mtL]
theorem zR9(ix:List Nat)(f:Nat)(its:List It)(key:Va)(same k s:Nat)(h:same<ix.length){X:It}(hX:X=skI key (its.getD (ixk ix k) Ae))(hp:onI X=Ab)(he:vcmp (keyI X) key≠0):mtL ix (f+1) its key same k s=mtL ix f (its.set (ixk ix k) X) (keyI X) 1 (k+1) (s+1):=by
 grind [mtL]
theorem mtL_cost(ix:List Nat)(na M:Nat):∀(f:Nat)(its:List It)(key:Va)(same k s:Nat),MI ix na M its key same k s f->(mtL ix f its key same k s).2.1<=s+f/\∀i∈ix,((mtL ix f its key same k s).1.getD i Ae).s<=(its.getD i Ae).s+f*(M+2):=by
 intro f;induction f with
 |zero=>intro its key same k s h;exact⟨Aw _,λi _=>by show(its.getD i Ae).s<=_;omega⟩
 | succ f ih=>
  intro its key same k s h;rw[Bb];by_cases hs:same<ix.length
  ·have hm:=h.mem;obtain⟨a1,a2,a3⟩:=h.lv _ hm;obtain⟨X,hX⟩:∃X,X=skI key (its.getD (ixk ix k) Ae):=⟨_,rfl⟩;have hc:=sk_cost a1 a2 key;have hsp:=(zG4 a1 a2 key).1;rw[<-hX]at hc hsp;have hset:∀i,((its.set (ixk ix k) X).getD i Ae).s<=(its.getD i Ae).s+(M+2):=λi=>by
    grind
   have hon:=zNu hsp;by_cases hp:X.p<X.e
   ·rw[decide_eq_true hp]at hon;by_cases he:vcmp (keyI X) key=0
    ·rw[zXd ix f its key same k s hs hX hon he];obtain⟨i1,i2⟩:=ih _ _ _ _ _ (h.eqv hs hX hp);grind
    rw[zR9 ix f its key same k s hs hX hon he];obtain⟨i1,i2⟩:=ih _ _ _ _ _ (h.other hs hX hp he);grind
   rw[decide_eq_false hp]at hon;rw[mtL_no ix f its key same k s hs hX hon];grind
  rw[mtL_end ix _ its key same k s (by omega)];grind
theorem gtI_le(v:Va)(it:It):gtI v it<=it.e-it.p:=by
 grind [gtI,AR,B9]
theorem gtA_le(ix:List Nat)(its:List It)(v:Va)(M:Nat)(h:∀i∈ix,(its.getD i Ae).e-(its.getD i Ae).p<=M):gtA ix its v<=ix.length*M:=by
 unfold gtA;induction ix with
 |nil=>simp
 |cons i ix ih=>
  simp only[BP,List.sum_cons,AS,Bb];grind [gtI_le]
def mtF(k M:Nat):Nat:=k*M*(k+1)+k
theorem msr_le(ix:List Nat)(its:List It)(v:Va)(same M:Nat)(h:∀i∈ix,(its.getD i Ae).e-(its.getD i Ae).p<=M):msr ix its v same<=mtF ix.length M:=by
 unfold msr mtF
 have:=Bx (ix.length+1) (gtA_le ix its v M h)
 omega
section
open Go.RowKit
attribute [local irreducible] seqW awp zAf zAn zAd Weak updS zAx retL Pure Acts rP setP setQ cP nP fr
set_option maxRecDepth 4096
def Tj(N:Nat)(ch:List Nat):Par:=⟨λf=>f==169||f==183||f==166||f==170||f==168||f==167||f==146||f==135,λ_ _=>AG,λk=>decide (k<N)&&!ch.contains k,λo=>match o with
 | .call {callee:= .value (.tmp _),..}=>Ab
 |_=>Ad,λt=>t==225||t==219⟩
theorem Tj_ok(N:Nat)(ch:List Nat):zA7 Am (Tj N ch):=by intro t n f h;cases h
theorem Tj_keep{L:Lay}{S:Js}:∀k,k<(lay L S).length->(Tj L.N []).keep k=true:=λk hk=>by
 rw[zAq]at hk;show(decide (k<L.N)&&!([]:List Nat).contains k)=Ab;rw[decide_eq_true hk];rfl
theorem zTd(N:Nat)(ch:List Nat):∀k,N<=k->(Tj N ch).keep k=false:=λk hk=>by
 show(decide (k<N)&&!ch.contains k)=Ad;rw[decide_eq_false (by omega)];rfl
theorem zSg{L:Lay}{v i:Nat}(h:i∈L.ix v):i<L.na:=((zV _ _).1 h).1
theorem zAr{st:List Bk}{N:Nat}{b:Bk}(h:st.length=N):(st++[b])[N]?=Al b:=by subst h;simp
theorem zA2{st bs:List Bk}{k:Nat}{b:Bk}(h:st[k]?=Al b):(st++bs)[k]?=Al b:=by
 grind
theorem zEg{st:List Bk}{N:Nat}{b b':Bk}(h:st.length=N):(st++[b]).set N b'=st++[b']:=by subst h;simp
theorem zBj{st bs:List Bk}{k:Nat}{b:Bk}(h:k<st.length):(st++bs).set k b=st.set k b++bs:=by
 grind
theorem zXc{N:Nat}{st:List Bk}{v:Va}(h:∀b∈st,namB N b):∀b∈st++[vlB v],namB (N+1) b:=λb hb=>by
 rcases Bs.1 hb with hb|hb
 ·exact(h b hb).imp id λh j hj=>h j (by omega)
 rw[Bz.1 hb];exact .inr λj _=>by simp only[zX,refs,A1]
theorem hd_ix(L:Lay)(ix:List Nat)(q:Nat)(h:q<ix.length):((ix.map λi=>Af (L.ib i) 0).drop q).headD .unk= .own (L.ib (ix.getD q 0)) 0:=by simp_all
theorem meet_a(L:Lay)(hL:LOk L)(S:Js)(v M:Nat)(hv:v<L.n)(hn:S.its.length=L.na)(h0:0<(L.ix v).length)(h32:(L.ix v).length<=1000000)
  (hi:∀i∈L.ix v,LvI (S.its.getD i Ae)/\BdI (S.its.getD i Ae)/\(S.its.getD i Ae).e-(S.its.getD i Ae).p<=M/\(S.its.getD i Ae).s+mtF (L.ix v).length M*(M+2)<=big)(hs:S.s+mtF (L.ix v).length M+1<=big)
  (hp:∀i∈L.ix v,i≠(L.ix v).getD 0 0->(S.its.getD i Ae).p<(S.its.getD i Ae).e):
  Acts Am 167 [.own L.jb 0, .osl (L.ab v) 0 (L.ix v).length (L.ix v).length Ab] (lay L S) [] (bD (metJ (L.ix v) S.its S.s).2.2) (lay L {S with its:=(metJ (L.ix v) S.its S.s).1,s:=(metJ (L.ix v) S.its S.s).2.1}):=by
 have hm:=zAy h0;have hla:=zT8 (S:=S) hL hv;have hix:=hd_ix L (L.ix v) 0 h0;rw[AY]at hix;obtain⟨g1,g2,g3,g4⟩:=hi _ hm;have hon:=zNu g1;unfold metJ;by_cases h:(S.its.getD ((L.ix v).getD 0 0) Ae).p<(S.its.getD ((L.ix v).getD 0 0) Ae).e
 ·rw [decide_eq_true h]at hon;rw[hon,if_pos rfl];have hk:=key_g (zQi (S:=S) hL (zSg hm)) g1 g2 h;have hb1:∀i∈L.ix v,BdI (S.its.getD i Ae):=λi hi'=>(hi i hi').2.1;have hms:=msr_le (L.ix v) S.its (keyI (S.its.getD ((L.ix v).getD 0 0) Ae)) 1 M λi hi'=>(hi i hi').2.2.1;have hMI:MI (L.ix v) L.na M S.its (keyI (S.its.getD ((L.ix v).getD 0 0) Ae)) 1 1 S.s (msr (L.ix v) S.its (keyI (S.its.getD ((L.ix v).getD 0 0) Ae)) 1):=by
   have hmul:=Bx (M+2) hms;refine⟨hn,λi hi'=>zSg hi',λi hi'=>⟨(hi i hi').1,?_,(hi i hi').2.2.1⟩,λi hi'=>by have:=(hi i hi').2.2.2;omega,Aw _,h0,by omega,by omega,Aw _⟩;grind
  generalize keyI (S.its.getD ((L.ix v).getD 0 0) Ae)=key0 at*;generalize msr (L.ix v) S.its key0 1=f0 at*;generalize hG:mtL (L.ix v) f0 S.its key0 1 1 S.s=G;clear hp hi hms g1 g2 g3 g4 h hs;refine zN (Tj_ok L.N []) mixed Tryz.func167 rfl Tj_keep ?_;focus
   refine vA ?_;refine zAb [] [(4,bD Ad)] ?_;refine vA ?_;refine zR 2 [] [] ((0:Int)<=(0:Int)/\(0:Int)<(Aa (Lay.ix L v):Int)) [(13,Ai (Lay.ab L v) 0 (Aa<|Lay.ix L v) (Aa<|Lay.ix L v) Ab),(14,Af (Lay.ab L v) 0)] (by omega) ?_;rotate_left
  refine zAe (Ak (Ag (λ(i:Nat)=>Af (Lay.ib L i) 0)<|Lay.ix L v) 225 1 Ab Ad A2) (Lay.ab L v) (AJ 1<|Aa<|Ah 0<|Ag (λ(i:Nat)=>Af (Lay.ib L i) 0)<|Lay.ix L v) (AO (Ah 0<|Ag (λ(i:Nat)=>Af (Lay.ib L i) 0)<|Lay.ix L v) Uk) hla (by(simp;omega)) ?_;focus
   refine zY [] [] [AO (Ah 0<|Ag (λ(i:Nat)=>Af (Lay.ib L i) 0)<|Lay.ix L v) Uk] [Af (Lay.ib L<|AC (Lay.ix L v) 0 0) 0] (LeL.of_eq (by simp(disch:=omega) only[AY,hix])) (by exact hk) ?_;refine zR 3 [] [] (0<2/\1<2) [(12,D.tup [An [iD<|Ar key0,iD<|As key0,Aj<|Aq<|bs<|Au key0],bD Ab]),(17,An [iD<|Ar key0,iD<|As key0,Aj<|Aq<|bs<|Au key0]),(18,bD Ab)] (by omega) ?_;rotate_left
  refine zBc (Lay.N L) (True) (q6_) (Af 0 0) (zAq (L:=L) (S:=S)) ?_;refine zB3 (q6_) (Lay.N L) (Ad=Ad/\Ab=Ab/\3=3/\3<=3) (Ak [iD<|Ar key0,iD<|As key0,Aj<|Aq<|bs<|Au key0] 64 0 Ad Ad Ao) (zAr<|zAq (L:=L) (S:=S)) ⟨(by kernel_rfl),⟨(by kernel_rfl),(by omega)⟩⟩ ?_;rw[zEg zAq];focus
   refine zAb [12,13,14,15,16,17,18] [(6,bD Ab)] ?_;refine zA<|vA ?_;refine zAb [6,19] [(20,bD Ad)] ?_;refine vf<|vK<|zA<|vA ?_;refine zAb [20] [(7,iD 1),(8,iD 1)] ?_;refine zH ?_;rotate_left
  refine zS7 (λ(J:Js)(key:Va)(same:Nat)(k:Nat)(f:Nat)=>fr 57 [(0,Af (Lay.jb L) 0),(1,Ai (Lay.ab L v) 0 (Aa<|Lay.ix L v) (Aa<|Lay.ix L v) Ab),(5,Af (Lay.N L) 0),(7,iD same),(8,iD k)]) (λ(J:Js)(key:Va)(same k f:Nat)=>lay L J++[vlB key]) (λ(J:Js)(key:Va)(same k f:Nat)=>f) (λ(J:Js)(key:Va)(same k f:Nat)=>(J.row=S.row/\J.ys=S.ys)/\MI (L.ix v) L.na M J.its key same k J.s f/\(∀i∈L.ix v,BdI<|J.its.getD i Ae)/\mtL (L.ix v) f J.its key same k J.s=G) S key0 1 1 f0 ?_ ?_ ?_
  ·grind
  ·refine zAs [(0,1),(1,1),(5,1),(7,1),(8,1)] (Af (Lay.jb L) 0=Af (Lay.jb L) 0/\Ai (Lay.ab L v) 0 (Aa<|Lay.ix L v) (Aa<|Lay.ix L v) Ab=Ai (Lay.ab L v) 0 (Aa<|Lay.ix L v) (Aa<|Lay.ix L v) Ab/\Af (Lay.N L) 0=Af (Lay.N L) 0/\iD 1=iD (↑(1:Nat):Int)/\iD 1=iD (↑(1:Nat):Int)) ⟨rfl,rfl,rfl,(by kernel_rfl),(by kernel_rfl)⟩
  clear hMI hb1 hG hon hk hm hix;rintro J key same k f ⟨⟨e1,e2⟩,hM,hB,hG⟩;have fin:∀its s,G=(its,s,G.2.2)->lay L {J with its:=its,s:=s}=lay L {S with its:=G.1,s:=G.2.1}:=λits s h=>by
   grind
  rcases AB same (L.ix v).length with hs|hs
  ·obtain⟨f,rfl⟩:=hM.pos hs;have hq:k%(L.ix v).length<(L.ix v).length:=Bw _ h0;have hrem:((k:Nat):Int).tmod ((L.ix v).length:Nat)=((k%(L.ix v).length:Nat):Int):=(Int.ofNat_tmod _ _).symm;have hix:_=Af (L.ib (ixk (L.ix v) k)) 0:=hd_ix L (L.ix v) (k%(L.ix v).length) hq;have hkk:=hM.kf;have hm:=hM.mem;have hil:=zSg hm;obtain⟨a1,a2,a3⟩:=hM.lv _ hm;have a4:=hM.st _ hm;have hb:=hB _ hm;have hsk:=(zG4 a1 a2 key).1;have hX:=seek_g key (zA2 (bs:=[vlB key]) (zQi (S:=J) hL hil)) a1 hb a2 (AR (Nat.le_add_right _ _) a4);have hbX:BdI (skI key (J.its.getD (ixk (L.ix v) k) Ae)):=hb.of rfl rfl;have hlen:=hM.len;have hset:=λx=>zH6 (S:=J) hL hil (by rw[hlen];exact hil) x;have hJs:=hM.sf;have hlvs:=λhp=>hM.lvs rfl hp;have hno:=mtL_no (L.ix v) f J.its key same k J.s hs rfl;have hsa:=zXd (L.ix v) f J.its key same k J.s hs rfl;have hot:=zR9 (L.ix v) f J.its key same k J.s hs rfl;have hsaM:=hM.eqv hs rfl;have hotM:=hM.other hs rfl;have honX:=zNu hsk;generalize hXX:skI key (J.its.getD (ixk (L.ix v) k) Ae)=X at*;generalize hqq:k%(L.ix v).length=q at*;generalize hii:ixk (L.ix v) k=i at*;have hl2:∀J':Js,(lay L J'++[vlB key]).length=L.N+1:=λJ'=>by rw[AD,zAq];rfl
   have hal:∀J':Js,(lay L J'++[vlB key])[L.ab v]?=Al (ixB L (L.ix v)):=λJ'=>zA2 (zT8 hL hv);have hiN:L.ib i<L.N:=(hL.ib i hil).1;have hjj:(lay L {J with its:=J.its.set i X})[L.jb]?=Al (jB L J.s):=zNf hL;have hJs2:J.s+f+1<=100000000000000000:=hJs;have hkk2:k+f+1<=100000000000000000:=hkk;by_cases hp:X.p<X.e
   ·rw[decide_eq_true hp]at hX honX;have hlX:=hlvs hp;have hBX:∀j∈L.ix v,BdI ((J.its.set i X).getD j Ae):=λj hj=>by
     grind
    have hkX:=key_g (it:=X) (st:=lay L {J with its:=J.its.set i X}++[vlB key]) (k:=L.ib i) (zA2 (by rw[zQi hL hil];simp only;rw[zZ (by rw[hlen];exact hil)])) hsk hbX hp;have hcm:=zDp (keyI X) key;generalize keyI X=nx at*;focus
     refine zA<|vA ?_;refine zAb [21,22,23] [(24,bD<|decide ((same:Int)<(Aa (Lay.ix L v):Int)))] ?_;refine vT ((same:Int)<(Aa (Lay.ix L v):Int))<|vKB<|vA ?_;refine zR 5 [] [] ((Aa (Lay.ix L v):Int)≠(0:Int)) [(27,Ai (Lay.ab L v) 0 (Aa<|Lay.ix L v) (Aa<|Lay.ix L v) Ab),(28,iD k),(29,Ai (Lay.ab L v) 0 (Aa<|Lay.ix L v) (Aa<|Lay.ix L v) Ab),(30,iD (Aa (Lay.ix L v):Int)),(31,iD<|Int.tmod (k:Int) (Aa (Lay.ix L v):Int))] (by omega) ?_;refine zAl 31 (iD<|Int.tmod (k:Int) (Aa (Lay.ix L v):Int)) (iD q) (by simp(disch:=omega) only[hrem]) ?_;refine zR 1 [] [] ((0:Int)<=(q:Int)/\(q:Int)<(Aa (Lay.ix L v):Int)) [(32,Af (Lay.ab L v) (0+Ax (q:Int)*1))] (by omega) ?_;refine zAl 32 (Af (Lay.ab L v) (0+Ax (q:Int)*1)) (Af (Lay.ab L v) q) (by simp(disch:=omega) only[AI,AM,A6]) ?_;rotate_left
    refine zAe (Ak (Ag (λ(i:Nat)=>Af (Lay.ib L i) 0)<|Lay.ix L v) 225 1 Ab Ad A2) (Lay.ab L v) (AJ 1<|Aa<|Ah q<|Ag (λ(i:Nat)=>Af (Lay.ib L i) 0)<|Lay.ix L v) (AO (Ah q<|Ag (λ(i:Nat)=>Af (Lay.ib L i) 0)<|Lay.ix L v) Uk) (hal J) (by(simp;omega)) ?_;focus
     refine zA3 1 [(9,AO (Ah q<|Ag (λ(i:Nat)=>Af (Lay.ib L i) 0)<|Lay.ix L v) Uk)] ?_;refine zAl 9 (AO (Ah q<|Ag (λ(i:Nat)=>Af (Lay.ib L i) 0)<|Lay.ix L v) Uk) (Af (Lay.ib L i) 0) (by simp(disch:=omega) only[hix]) ?_;refine zAh ?_ (by kernel_rfl);refine zC ?_;rotate_left
    focus
     refine zAw<|zA<|vA ?_;refine zA3 1 [(34,Af (Lay.ib L i) 0)] ?_;rotate_left
    refine zAe (Ak [iD<|Ar key,iD<|As key,Aj<|Aq<|bs<|Au key] 64 0 Ad Ad Ao) (Lay.N L) (AJ 3 3) (An [iD<|Ar key,iD<|As key,Aj<|Aq<|bs<|Au key]) (zAr<|zAq (L:=L) (S:=J)) (by simp) ?_;focus
     refine zY [] [] [Af (Lay.ib L i) 0,An [iD<|Ar key,iD<|As key,Aj<|Aq<|bs<|Au key]] [Af (Lay.ib L i) 0,An [iD<|Ar key,iD<|As key,Aj<|Aq<|bs<|Au key]] (Az _) (by exact hX) ?_;refine zAb [24,27,28,29,30,31,32,33,34,35,36] [(37,bD Ad)] ?_;refine vf<|vK<|vA ?_;refine zA3 1 [(39,Af (Lay.ib L i) 0)] ?_;rotate_left
    rw[zBj (by rw[zAq];exact hiN),hset];focus
     refine zY [] [] [Af (Lay.ib L i) 0] [Af (Lay.ib L i) 0] (Az _) (by exact hkX) ?_;refine zR 3 [] [] (0<2/\1<2) [(38,D.tup [An [iD<|Ar nx,iD<|As nx,Aj<|Aq<|bs<|Au nx],bD Ab]),(41,An [iD<|Ar nx,iD<|As nx,Aj<|Aq<|bs<|Au nx]),(42,bD Ab)] (by omega) ?_;rotate_left
    refine zBc (Lay.N L+1) (True) (q6_) (Af 0 0) (hl2 {J with its:=J.its.set i X}) ?_;refine zB3 (q6_) (Lay.N L+1) (Ad=Ad/\Ab=Ab/\3=3/\3<=3) (Ak [iD<|Ar nx,iD<|As nx,Aj<|Aq<|bs<|Au nx] 64 0 Ad Ad Ao) (zAr<|hl2 {J with its:=J.its.set i X}) ⟨(by kernel_rfl),⟨(by kernel_rfl),(by omega)⟩⟩ ?_;rw[zEg (hl2 {J with its:=J.its.set i X})];focus
     refine zAb [9,11,37,38,39,40,41,42] [] ?_;refine vA ?_;refine zA3 3 [(43,Af (Lay.jb L) 0),(44,Af (Lay.jb L) 0),(45,Af (Lay.jb L) 2)] ?_;rotate_left
    refine zAe (Ak [Ai (Lay.rb L) 0 (Lay.n L) (Lay.n L*3) Ab,Ai (Lay.tb L) 0 (Lay.n L) (Lay.n L) Ab,iD ↑(Js.s J),AF (Fn.func 135) [] [Af (Lay.cb L) 0]] 218 0 Ad Ad Ao) (Lay.jb L) (AJ 1 2) (iD ↑(Js.s J)) (zA2<|zA2 hjj) (by simp) ?_;focus
     refine zR 3 [] [] (i6 (↑(Js.s J)+1)/\True) [(47,iD ↑(Js.s J+1)),(48,Af (Lay.jb L) 0),(49,Af (Lay.jb L) 2)] ⟨(by omega),trivial⟩ ?_;rotate_left
    refine zB3 (Ak [Ai (Lay.rb L) 0 (Lay.n L) (Lay.n L*3) Ab,Ai (Lay.tb L) 0 (Lay.n L) (Lay.n L) Ab,iD ↑(Js.s J),AF (Fn.func 135) [] [Af (Lay.cb L) 0]] 218 0 Ad Ad Ao) (Lay.jb L) (Ad=Ad/\Ab=Ab/\1=1/\3<=4) (Ak [Ai (Lay.rb L) 0 (Lay.n L) (Lay.n L*3) Ab,Ai (Lay.tb L) 0 (Lay.n L) (Lay.n L) Ab,iD ↑(Js.s J+1),AF (Fn.func 135) [] [Af (Lay.cb L) 0]] 218 0 Ad Ad Ao) (zA2<|zA2 hjj) ⟨(by kernel_rfl),⟨(by kernel_rfl),(by omega)⟩⟩ ?_;rw[zBj (by rw[hl2];have:=hL.jb;omega),zBj (by rw[zAq];exact hL.jb),zMf hL];focus
     refine zAb [43,44,45,46,47,48,49] [] ?_;refine vA ?_;rotate_left
    refine zAe (Ak [iD<|Ar nx,iD<|As nx,Aj<|Aq<|bs<|Au nx] 64 0 Ad Ad Ao) (Lay.N L+1) (AJ 3 3) (An [iD<|Ar nx,iD<|As nx,Aj<|Aq<|bs<|Au nx]) (zAr<|hl2 _) (by simp) ?_;refine zAe (Ak [iD<|Ar key,iD<|As key,Aj<|Aq<|bs<|Au key] 64 0 Ad Ad Ao) (Lay.N L) (AJ 3 3) (An [iD<|Ar key,iD<|As key,Aj<|Aq<|bs<|Au key]) (zA2<|zAr zAq) (by simp) ?_;by_cases he:vcmp nx key=0
    ·rw[he]at hcm;focus
      refine zRj [An [iD<|Ar nx,iD<|As nx,Aj<|Aq<|bs<|Au nx],An [iD<|Ar key,iD<|As key,Aj<|Aq<|bs<|Au key]] (by exact hcm) ?_;refine zAb [50,51,52] [(53,bD Ab)] ?_;refine vt<|zB rfl ?_;refine zR 3 [] [] (i6 (↑same+1)) [(7,iD ↑(same+1)),(54,iD same),(55,iD ↑(same+1))] (by omega) ?_;refine zAh ?_ (by kernel_rfl);refine zD<|vN<|zB rfl ?_;refine zR 3 [] [] (i6 (↑k+1)) [(8,iD ↑(k+1)),(25,iD k),(26,iD ↑(k+1))] (by omega) ?_;refine zAh ?_ (by kernel_rfl);refine zC ?_;rotate_left
     refine⟨{J with its:=J.its.set i X,s:=J.s+1},key,same+1,k+1,f,⟨⟨e1,e2⟩,hsaM hp,hBX,(hsa honX he).symm.trans hG⟩,by omega,?_⟩;refine zA5 (N:=L.N+1) (L.jb<L.N+1/\L.ab v<L.N+1/\L.N<L.N+1/\True) (by rw[AD,zAq];rfl) (zXc<|zHb hL) (λk hk=>zTd _ _ k (by omega)) ?_ ⟨by have:=hL.jb;omega,by have:=(hL.ab v hv).1;omega,by omega,trivial⟩;refine zAs [(0,1),(1,1),(5,1),(7,1),(8,1)] (Af (Lay.jb L) 0=Af (Lay.jb L) 0/\Ai (Lay.ab L v) 0 (Aa<|Lay.ix L v) (Aa<|Lay.ix L v) Ab=Ai (Lay.ab L v) 0 (Aa<|Lay.ix L v) (Aa<|Lay.ix L v) Ab/\Af (Lay.N L) 0=Af (Lay.N L) 0/\iD (↑(same+1):Int)=iD (↑(same+1):Int)/\iD (↑(k+1):Int)=iD (↑(k+1):Int)) ⟨rfl,rfl,rfl,rfl,rfl⟩
    have hdd:=decide_eq_false he;focus
     refine zRj [An [iD<|Ar nx,iD<|As nx,Aj<|Aq<|bs<|Au nx],An [iD<|Ar key,iD<|As key,Aj<|Aq<|bs<|Au key]] (by exact hcm) ?_;refine zAb [50,51,52] [(53,bD (vcmp nx key==(0:Int)))] ?_;refine vEf (vcmp nx key) ((0:Int))<|zB rfl ?_;rotate_left
    refine zAe (Ak [iD<|Ar nx,iD<|As nx,Aj<|Aq<|bs<|Au nx] 64 0 Ad Ad Ao) (Lay.N L+1) (AJ 3 3) (An [iD<|Ar nx,iD<|As nx,Aj<|Aq<|bs<|Au nx]) (zAr<|hl2 _) (by simp) ?_;refine zB3 (Ak [iD<|Ar key,iD<|As key,Aj<|Aq<|bs<|Au key] 64 0 Ad Ad Ao) (Lay.N L) (Ad=Ad/\Ab=Ab/\3=3/\3<=3) (Ak [iD<|Ar nx,iD<|As nx,Aj<|Aq<|bs<|Au nx] 64 0 Ad Ad Ao) (zA2<|zAr zAq) ⟨(by kernel_rfl),⟨(by kernel_rfl),(by omega)⟩⟩ ?_;rw[zBj (by rw[hl2];omega),zEg zAq];focus
     refine zA3 1 [(7,iD 1)] ?_;refine zAh ?_ (by kernel_rfl);refine zD<|vN<|zB rfl ?_;refine zR 3 [] [] (i6 (↑k+1)) [(8,iD ↑(k+1)),(25,iD k),(26,iD ↑(k+1))] (by omega) ?_;refine zAh ?_ (by kernel_rfl);refine zC ?_;rotate_left
    refine⟨{J with its:=J.its.set i X,s:=J.s+1},nx,1,k+1,f,⟨⟨e1,e2⟩,hotM hp he,hBX,(hot honX he).symm.trans hG⟩,by omega,?_⟩;refine zA5 (N:=L.N+1) (st:=lay L {J with its:=J.its.set i X,s:=J.s+1}++[vlB nx]) (L.jb<L.N+1/\L.ab v<L.N+1/\L.N<L.N+1/\True) (by rw[AD,zAq];rfl) (zXc<|zHb hL) (λk hk=>zTd _ _ k (by omega)) ?_ ⟨by have:=hL.jb;omega,by have:=(hL.ab v hv).1;omega,by omega,trivial⟩;refine zAs [(0,1),(1,1),(5,1),(7,1),(8,1)] (Af (Lay.jb L) 0=Af (Lay.jb L) 0/\Ai (Lay.ab L v) 0 (Aa<|Lay.ix L v) (Aa<|Lay.ix L v) Ab=Ai (Lay.ab L v) 0 (Aa<|Lay.ix L v) (Aa<|Lay.ix L v) Ab/\Af (Lay.N L) 0=Af (Lay.N L) 0/\iD 1=iD (↑(1:Nat):Int)/\iD (↑(k+1):Int)=iD (↑(k+1):Int)) ⟨rfl,rfl,rfl,(by kernel_rfl),rfl⟩
   rw[decide_eq_false hp]at hX honX;have hGe:=hG.symm.trans (hno honX);subst hGe;focus
    refine zA<|vA ?_;refine zAb [21,22,23] [(24,bD<|decide ((same:Int)<(Aa (Lay.ix L v):Int)))] ?_;refine vT ((same:Int)<(Aa (Lay.ix L v):Int))<|vKB<|vA ?_;refine zR 5 [] [] ((Aa (Lay.ix L v):Int)≠(0:Int)) [(27,Ai (Lay.ab L v) 0 (Aa<|Lay.ix L v) (Aa<|Lay.ix L v) Ab),(28,iD k),(29,Ai (Lay.ab L v) 0 (Aa<|Lay.ix L v) (Aa<|Lay.ix L v) Ab),(30,iD (Aa (Lay.ix L v):Int)),(31,iD<|Int.tmod (k:Int) (Aa (Lay.ix L v):Int))] (by omega) ?_;refine zAl 31 (iD<|Int.tmod (k:Int) (Aa (Lay.ix L v):Int)) (iD q) (by simp(disch:=omega) only[hrem]) ?_;refine zR 1 [] [] ((0:Int)<=(q:Int)/\(q:Int)<(Aa (Lay.ix L v):Int)) [(32,Af (Lay.ab L v) (0+Ax (q:Int)*1))] (by omega) ?_;refine zAl 32 (Af (Lay.ab L v) (0+Ax (q:Int)*1)) (Af (Lay.ab L v) q) (by simp(disch:=omega) only[AI,AM,A6]) ?_;rotate_left
   refine zAe (Ak (Ag (λ(i:Nat)=>Af (Lay.ib L i) 0)<|Lay.ix L v) 225 1 Ab Ad A2) (Lay.ab L v) (AJ 1<|Aa<|Ah q<|Ag (λ(i:Nat)=>Af (Lay.ib L i) 0)<|Lay.ix L v) (AO (Ah q<|Ag (λ(i:Nat)=>Af (Lay.ib L i) 0)<|Lay.ix L v) Uk) (hal J) (by(simp;omega)) ?_;focus
    refine zA3 1 [(9,AO (Ah q<|Ag (λ(i:Nat)=>Af (Lay.ib L i) 0)<|Lay.ix L v) Uk)] ?_;refine zAl 9 (AO (Ah q<|Ag (λ(i:Nat)=>Af (Lay.ib L i) 0)<|Lay.ix L v) Uk) (Af (Lay.ib L i) 0) (by simp(disch:=omega) only[hix]) ?_;refine zAh ?_ (by kernel_rfl);refine zC ?_;rotate_left
   focus
    refine zAw<|zA<|vA ?_;refine zA3 1 [(34,Af (Lay.ib L i) 0)] ?_;rotate_left
   refine zAe (Ak [iD<|Ar key,iD<|As key,Aj<|Aq<|bs<|Au key] 64 0 Ad Ad Ao) (Lay.N L) (AJ 3 3) (An [iD<|Ar key,iD<|As key,Aj<|Aq<|bs<|Au key]) (zAr<|zAq (L:=L) (S:=J)) (by simp) ?_;focus
    refine zY [] [] [Af (Lay.ib L i) 0,An [iD<|Ar key,iD<|As key,Aj<|Aq<|bs<|Au key]] [Af (Lay.ib L i) 0,An [iD<|Ar key,iD<|As key,Aj<|Aq<|bs<|Au key]] (Az _) (by exact hX) ?_;refine zA3 1 [(37,bD Ab)] ?_;refine zAh ?_ (by kernel_rfl);refine zC ?_;rotate_left
   rw[zBj (by rw[zAq];exact hiN),hset];refine zK1 [5,9,27,29,32,33,34] (L.jb<L.N/\L.ab v<L.N/\True) zAq (zHb hL) (zTd _ _) (by kernel_rfl) ⟨hL.jb,(hL.ab v hv).1,trivial⟩ ?_;focus
    refine vt<|vA ?_;refine zAb [24,28,30,31,35,36,37] [(4,bD Ad)] ?_;refine zE<|zG<|zL<|zG<|zG<|zL<|zG ?_;refine zM (True) [Aj<|AL Ad] (.inr rfl) ?_;rotate_left
   exact⟨by kernel_rfl,fin _ _ rfl⟩
  have hGe:=hG.symm.trans (mtL_end (L.ix v) f J.its key same k J.s hs);subst hGe;focus
   refine zA<|vA ?_;refine zAb [21,22,23] [(24,bD<|decide ((same:Int)<(Aa (Lay.ix L v):Int)))] ?_;refine vF ((same:Int)<(Aa (Lay.ix L v):Int))<|vY2<|zC ?_;rotate_left
  refine zK1 [5] (L.jb<L.N/\L.ab v<L.N/\True) zAq (zHb hL) (zTd _ _) (by kernel_rfl) ⟨hL.jb,(hL.ab v hv).1,trivial⟩ ?_;focus
   refine vA ?_;refine zAb [0,1,7,8,24] [(4,bD Ab)] ?_;refine zE ?_;refine zM (True) [Aj<|AL Ab] (.inr rfl) ?_;rotate_left
  exact⟨by kernel_rfl,fin J.its J.s rfl⟩
 rw[decide_eq_false h]at hon;rw[hon,if_neg (by decide)];have hk:=keyNo_g (zQi (S:=S) hL (zSg hm)) (Nat.le_of_not_lt h);refine zN (Tj_ok L.N []) mixed Tryz.func167 rfl Tj_keep ?_;focus
  refine vA ?_;refine zAb [] [(4,bD Ad)] ?_;refine vA ?_;refine zR 2 [] [] ((0:Int)<=(0:Int)/\(0:Int)<(Aa (Lay.ix L v):Int)) [(13,Ai (Lay.ab L v) 0 (Aa<|Lay.ix L v) (Aa<|Lay.ix L v) Ab),(14,Af (Lay.ab L v) 0)] (by omega) ?_;rotate_left
 refine zAe (Ak (Ag (λ(i:Nat)=>Af (Lay.ib L i) 0)<|Lay.ix L v) 225 1 Ab Ad A2) (Lay.ab L v) (AJ 1<|Aa<|Ah 0<|Ag (λ(i:Nat)=>Af (Lay.ib L i) 0)<|Lay.ix L v) (AO (Ah 0<|Ag (λ(i:Nat)=>Af (Lay.ib L i) 0)<|Lay.ix L v) Uk) hla (by(simp;omega)) ?_;focus
  refine zY [] [] [AO (Ah 0<|Ag (λ(i:Nat)=>Af (Lay.ib L i) 0)<|Lay.ix L v) Uk] [Af (Lay.ib L<|AC (Lay.ix L v) 0 0) 0] (LeL.of_eq (by simp(disch:=omega) only[AY,hix])) (by exact hk) ?_;refine zR 3 [] [] (0<2/\1<2) [(12,D.tup [An [iD 0,iD 0,Aj<|Aq<|bs []],bD Ad]),(17,An [iD 0,iD 0,Aj<|Aq<|bs []]),(18,bD Ad)] (by omega) ?_;rotate_left
 refine zBc (Lay.N L) (True) (q6_) (Af 0 0) (zAq (L:=L) (S:=S)) ?_;refine zB3 (q6_) (Lay.N L) (Ad=Ad/\Ab=Ab/\3=3/\3<=3) (Ak [iD 0,iD 0,Aj<|Aq<|bs []] 64 0 Ad Ad Ao) (zAr<|zAq (L:=L) (S:=S)) ⟨(by kernel_rfl),⟨(by kernel_rfl),(by omega)⟩⟩ ?_;rw[zEg zAq];focus
  refine zAb [12,13,14,15,16,17,18] [(6,bD Ad)] ?_;refine zA<|vA ?_;refine zA3 2 [(19,bD Ad),(20,bD Ab)] ?_;refine zAh ?_ (by kernel_rfl);refine zC ?_;rotate_left
 refine zK1 [5,13,14,15,16] (L.jb<L.N/\L.ab v<L.N/\True) zAq (zHb hL) (zTd _ _) (by kernel_rfl) ⟨hL.jb,(hL.ab v hv).1,trivial⟩ ?_;focus
  refine vt<|vA ?_;refine zAb [6,19,20] [] ?_;refine zE<|zG ?_;refine zM (True) [Aj<|AL Ad] (.inr rfl) ?_;rotate_left
 exact⟨by kernel_rfl,rfl⟩
end
section
open Go.RowKit
abbrev vaA(l:List Va):Bk:=⟨zJ l,64,3,Ab,Ad, .plain⟩
abbrev inA(l:List Nat):Bk:=⟨l.map λc=>iD (c:Nat),3,1,Ab,Ad, .plain⟩
abbrev lvP(o:Nat)(t:Tri)(l:Nat):List D:=[.osl (o+2*l) 0 (vls t l).length ((vls t l).length*3) Ab, .osl (o+2*l+1) 0 (fst' t l).length (fst' t l).length Ab]
def lvCs(o:Nat)(t:Tri):List D:=(AE t.length).flatMap (lvP o t)
abbrev lvB(o:Nat)(t:Tri):Bk:=⟨lvCs o t,244,2,Ab,Ad, .sh⟩
def tblk(m o:Nat)(base:Nat->Bk)(t:Tri)(k:Nat):Bk:=if k=m then lvB o t else if k<o then base k else if(k-o)%2=0 then vaA (vls t ((k-o)/2))else inA (fst' t ((k-o)/2))
def tlay(m o:Nat)(base:Nat->Bk)(t:Tri):List Bk:=(AE (o+2*t.length)).map (tblk m o base t)
section
variable {m o : Nat} {base : Nat → Bk} {t : Tri}
theorem zB7:(tlay m o base t).length=o+2*t.length:=by simp[tlay]
theorem zDg{k:Nat}(h:k<o+2*t.length):(tlay m o base t)[k]?=Al (tblk m o base t k):=by simp[tlay,h]
theorem tl_m(h:m<o):(tlay m o base t)[m]?=Al (lvB o t):=by grind [zDg,tblk]
theorem tl_v(hm:m<o){l:Nat}(h:l<t.length):(tlay m o base t)[o+2*l]?=Al (vaA (vls t l)):=by
 grind [zDg,tblk]
theorem tl_f(hm:m<o){l:Nat}(h:l<t.length):(tlay m o base t)[o+2*l+1]?=Al (inA (fst' t l)):=by
 grind [zDg,tblk]
theorem lvP_len(l:Nat):(lvP o t l).length=2:=rfl
theorem zNz:(lvCs o t).length=t.length*2:=by
 unfold lvCs;rw[zDj (c:=2) lvP_len];simp
theorem lv_at{l:Nat}(h:l<t.length):(lvCs o t).drop (l*2)=lvP o t l++((AE t.length).drop (l+1)).flatMap (lvP o t):=by
 unfold lvCs;rw[zMo lvP_len (AE t.length) l (by simpa using h)];grind
theorem lv_hd{l:Nat}(h:l<t.length):((lvCs o t).drop (l*2)).headD .unk= .osl (o+2*l) 0 (vls t l).length ((vls t l).length*3) true:=by rw[lv_at h];rfl
theorem lv_hd1{l:Nat}(h:l<t.length):((lvCs o t).drop (l*2+1)).headD .unk= .osl (o+2*l+1) 0 (fst' t l).length (fst' t l).length true:=by
 rw[<-List.drop_drop,lv_at h];rfl
def Bss(o:Nat)(base:Nat->Bk):Prop:=∀k,k<o->namB o (base k)
theorem zR8{k o:Nat}{b:Bk}(h:namB o b)(hk:o<=k):zAk k b=b:=by
 unfold zAk;rcases h with h|h
 ·rw[if_pos h]
 split
 ·rfl
 rename_i hn;have hl:b.cells.map (zAi k)=b.cells:=by
  have:=h k hk
  have key:∀cs:List D,zX k cs=Ad->cs.map (zAi k)=cs:=by
   intro cs;induction cs with
   |nil=>exact λ_=>rfl
   |cons d cs ih=>
    simp_all [only,zX,Bool.or_eq_false_iff,BP,zAi]
  exact key _ this
 rw[hl]
theorem zB4{k:Nat}{b:Bk}(h:b.nob=Ab):zAk k b=b:=by grind [zAk]
theorem tl_mk(hm:m<o)(k:Nat):((tlay m o base t).map (zAk k))[m]?=Al ⟨(lvCs o t).map (zAi k),244,2,Ab,Ad, .sh⟩:=by
 rw[Ce,tl_m hm];rfl
theorem zKk(i:Nat):(lvCs o t)[i]?=if i<t.length*2 then(if i%2=0 then Al (.osl (o+2*(i/2)) 0 (vls t (i/2)).length ((vls t (i/2)).length*3) Ab)else Al (.osl (o+2*(i/2)+1) 0 (fst' t (i/2)).length (fst' t (i/2)).length Ab))else none:=by
 split
 ·rename_i h;have h2:=lv_at (o:=o) (t:=t) (l:=i/2) (by omega);have h3:(lvCs o t)[i]?=((lvCs o t).drop (i/2*2))[i%2]?:=by
   grind
  grind
 grind [Bq,zNz]
theorem zTi{l l':Nat}{x:List Va×List Nat}(h:l<t.length):(t.set l x).getD l' Ae=if l'=l then x else t.getD l' default:=by
 grind
theorem tl_app(hm:m<o)(hb:Bss o base){t':Tri}(k c:Nat)(b':Bk)(d:D)(ht:t'.length=t.length)(hk:o<=k)(hc:c<t.length*2)(hkc:k=o+c)(hb':tblk m o base t' k=b')(hd:(lvCs o t')[c]?=Al d)(ho:∀i,i≠c->(lvCs o t')[i]?=(lvCs o t)[i]?)(hoo:∀j,j≠k->j≠m->tblk m o base t' j=tblk m o base t j):
  ((((tlay m o base t).map (zAk k)).set k b').set m ⟨((lvCs o t).map (zAi k)).set c d,244,2,Ab,Ad, .sh⟩)=tlay m o base t':=by
 subst hkc;apply A0;intro j;rw[Cf,AQ,A3,zB7];split
 ·rename_i e;subst e;rw[if_pos (by omega),tl_m hm];congr 2;apply A0;intro i;rw[Cf,A3,zNz];split
  ·grind
  rename_i e;rw[ho i (Ne.symm e),Ce,zKk];split
  ·split
   ·simp only[BT,Ba.injEq];unfold zAi;rw[show refs (o+c) (.osl (o+2*(i/2)) 0 (vls t (i/2)).length ((vls t (i/2)).length*3) Ab)=Ad by simp only[refs,beq_eq_false_iff_ne];omega];rfl
   simp only[BT,Ba.injEq];unfold zAi;rw[show refs (o+c) (.osl (o+2*(i/2)+1) 0 (fst' t (i/2)).length (fst' t (i/2)).length Ab)=Ad by simp only[refs,beq_eq_false_iff_ne];omega];rfl
  rfl
 rename_i e;rw[Cf,A3,zB7];split
 ·grind [zDg]
 rename_i e2;rw[Ce];rcases AB j (o+2*t.length)with hj|hj
 ·rw[zDg hj,zDg (by omega),hoo j (Ne.symm e2) (Ne.symm e)];simp only[BT,Ba.injEq];unfold tblk;rw[if_neg (Ne.symm e)];split
  ·rename_i h;exact zR8 (hb j h) (by omega)
  split<;>exact zB4 rfl
 grind [Bq,zB7]
theorem tl_appv(hm:m<o)(hb:Bss o base){l:Nat}(h:l<t.length)(ws:List Va):((((tlay m o base t).map (zAk (o+2*l))).set (o+2*l) (vaA ws)).set m ⟨((lvCs o t).map (zAi (o+2*l))).set (l*2) (.osl (o+2*l) 0 ws.length (ws.length*3) Ab),244,2,Ab,Ad, .sh⟩)=tlay m o base (t.set l (ws,fst' t l)):=by
 have hv:=λl'=>zTi (l':=l') (x:=(ws,fst' t l)) h;refine tl_app hm hb _ _ _ _ (by simp) (by omega) (by omega) (by omega) ?_ ?_ (λi hi=>?_) (λj hj hjm=>?_)
 ·unfold tblk;grind
 ·simp_all [zKk,AQ,vls]
 ·rw[zKk,zKk,AQ];grind
 unfold tblk;grind
theorem tl_appf(hm:m<o)(hb:Bss o base){l:Nat}(h:l<t.length)(fs:List Nat):((((tlay m o base t).map (zAk (o+2*l+1))).set (o+2*l+1) (inA fs)).set m ⟨((lvCs o t).map (zAi (o+2*l+1))).set (l*2+1) (.osl (o+2*l+1) 0 fs.length fs.length Ab),244,2,Ab,Ad, .sh⟩)=tlay m o base (t.set l (vls t l,fs)):=by
 have hv:=λl'=>zTi (l':=l') (x:=(vls t l,fs)) h;refine tl_app hm hb _ _ _ _ (by simp) (by omega) (by omega) (by omega) ?_ ?_ (λi hi=>?_) (λj hj hjm=>?_)
 ·unfold tblk;grind
 ·rw[zKk,AQ,if_pos (by omega),if_neg (by omega),show(l*2+1)/2=l by omega,show o+2*l+1=o+2*l+1 from rfl];unfold fst';rw[hv,if_pos rfl]
 ·rw[zKk,zKk,AQ];grind
 unfold tblk;grind
theorem tl_appv1(hm:m<o)(hb:Bss o base){l:Nat}(h:l<t.length)(v:Va):((((tlay m o base t).map (zAk (o+2*l))).set (o+2*l) ⟨zJ (vls t l)++vaC v,64,3,Ab,Ad, .plain⟩).set m ⟨((lvCs o t).map (zAi (o+2*l))).set (l*2) (.osl (o+2*l) 0 ((vls t l).length+1) (((vls t l).length+1)*3) Ab),244,2,Ab,Ad, .sh⟩)=tlay m o base (t.set l (vls t l++[v],fst' t l)):=by
 have h1:=tl_appv (base:=base) hm hb h (vls t l++[v]);simp_all [vaA,vls,zJ,vaC,zJ8,AD]
theorem zWi(hm:m<o)(hb:Bss o base){l:Nat}(h:l<t.length)(c:Nat):((((tlay m o base t).map (zAk (o+2*l+1))).set (o+2*l+1) ⟨((fst' t l).map λc=>iD (c:Nat))++[iD (c:Nat)],3,1,Ab,Ad, .plain⟩).set m ⟨((lvCs o t).map (zAi (o+2*l+1))).set (l*2+1) (.osl (o+2*l+1) 0 ((fst' t l).length+1) ((fst' t l).length+1) Ab),244,2,Ab,Ad, .sh⟩)=tlay m o base (t.set l (vls t l,fst' t l++[c])):=by
 have h1:=tl_appf (base:=base) hm hb h (fst' t l++[c]);grind
theorem kst{T B:Bk}{k:Nat}{b':Bk}(hk:k<o+2*t.length)(hT:zAk k T=T)(hB:zAk k B=B):((tlay m o base t++[T]++[B]).map (zAk k)).set k b'=((tlay m o base t).map (zAk k)).set k b'++[T]++[B]:=by
 grind [List.set_append_left,zB7]
theorem ks_m(hm:m<o){k:Nat}{b':Bk}(hk:k≠m):(((tlay m o base t).map (zAk k)).set k b')[m]?=Al ⟨(lvCs o t).map (zAi k),244,2,Ab,Ad, .sh⟩:=by
 grind [Bl,tl_mk]
theorem zEt{k:Nat}{b':Bk}:(((tlay m o base t).map (zAk k)).set k b').length=o+2*t.length:=by
 rw[AQ,A3,zB7]
theorem zRb(hb:Bss o base):∀b∈tlay m o base t,namB (o+2*t.length) b:=λb h=>by
 obtain⟨k,hk,rfl⟩:=List.mem_map.1 h;have hk:=AZ.1 hk;unfold tblk;split
 ·refine .inr λj hj=>?_;refine zCy _ λi hi=>?_;have key:∀(ls:List Nat),(∀l∈ls,l<t.length)->∀i∈ownL (ls.flatMap (lvP o t)),i<o+2*t.length:=by
   intro ls;induction ls with
   |nil=>intro _ i hi;simp[ownL]at hi
   |cons l ls ih=>
    intro h i hi
    have:=h l (by simp)
    simp only[A7,lvP,A9,Bn,ownL,ownN,List.singleton_append,Bi]at hi;rcases hi with rfl|rfl|hi
    ·omega
    ·omega
    exact ih (λl hl=>h l (by simp[hl])) i hi
  have:=key (AE t.length) (λl hl=>AZ.1 hl) i hi
  omega
 split
 ·rename_i h;exact(hb k h).imp id λh j hj=>h j (by omega)
 split<;>exact .inl rfl
end
theorem Acts.tail{P:Program}{f:FuncId}{args:List D}{st s bs:List Bk}{ch:List Nat}{x:D}{N:Nat}(h:Acts P f args st ch x (s++bs))(hl:s.length=N)(hm:st.length<=N)(hn:∀b∈s,namB N b)(hx:∀j,N<=j->refs j x=Ad):Acts P f args st ch x s:=by
 subst hl
 have:=h.cut s.length hm (by
  unfold zEp;simp only[Bt,AZ,BG,Bv,BH];intro i hi;refine⟨by simp only[zX,hx _ (Nat.le_add_right _ _),A1],λe he=>?_⟩;rw[BE rfl]at he;exact(hn e he).imp id λh=>h _ (by omega))
 grind
end
def stA(x:List Va)(t:Tri)(l:Nat):Tri:=t.set l (vls t l++[x.getD l Ae],fst' t l++[(vls t (l+1)).length])
def stF(t:Tri)(l:Nat):Tri:=t.set l (vls t l,fst' t l++[(vls t (l+1)).length])
theorem stA_cons(v:Va)(x:List Va)(h:List Va×List Nat)(t:Tri)(k:Nat):stA (v::x) (h::t) (k+1)=h::stA x t k:=rfl
theorem stF_cons(h:List Va×List Nat)(t:Tri)(k:Nat):stF (h::t) (k+1)=h::stF t k:=rfl
theorem zJ4(v:Va)(x:List Va)(h:List Va×List Nat):∀(n k:Nat)(t:Tri),(AP (k+1) n).foldl (stA (v::x)) (h::t)=h::(AP k n).foldl (stA x) t
 |0,k,t=>rfl
 |n+1,k,t=>by
  rw[Bo,Bo,A5,A5,stA_cons,zJ4 v x h n (k+1)]
theorem zN6(h:List Va×List Nat):∀(n k:Nat)(t:Tri),(AP (k+1) n).foldl stF (h::t)=h::(AP k n).foldl stF t
 |0,k,t=>rfl
 |n+1,k,t=>by
  rw[Bo,Bo,A5,A5,stF_cons,zN6 h n (k+1)]
theorem zTk(t:Tri):szT t=(vls t 0).length:=by cases t<;>rfl
theorem foldA:∀(f:Nat)(x:List Va)(t:Tri),x.length=t.length->(AP f (t.length-f)).foldl (stA x) t=adT x f t
 |0,[],[],_=>rfl
 |f+1,[],[],_=>by simp[adT]
 |_,_::_,[],h=>by simp at h
 |_,[],_::_,h=>by simp at h
 |0,v::x,l::t,h=>by
  rw[AS,Nat.sub_zero,Bo,A5];have e:stA (v::x) (l::t) 0=(l.1++[v],l.2++[szT t])::t:=by rw[zTk];rfl
  rw[e,zJ4]
  have:=foldA 0 x t (by simpa using h)
  rw[Nat.sub_zero]at this;rw[this];rfl
 |f+1,v::x,l::t,h=>by
  rw[AS,show t.length+1-(f+1)=t.length-f by omega,zJ4,foldA f x t (by simpa using h)];rfl
theorem foldF:∀(t:Tri),(AP 0 t.length).foldl stF t=finT t
 |[]=>rfl
 |l::t=>by
  rw[AS,Bo,A5];have e:stF (l::t) 0=(l.1,l.2++[szT t])::t:=by rw[zTk];rfl
  rw[e,zN6,foldF t];rfl
theorem stA_len(x:List Va)(t:Tri)(l:Nat):(stA x t l).length=t.length:=by simp[stA]
theorem zTo(t:Tri)(l:Nat):(stF t l).length=t.length:=by simp[stF]
theorem zSn(x:List Va):∀(ls:List Nat)(t:Tri),(ls.foldl (stA x) t).length=t.length
 |[],t=>rfl
 |l::ls,t=>by rw[A5,zSn x ls,stA_len]
theorem zSm:∀(ls:List Nat)(t:Tri),(ls.foldl stF t).length=t.length
 |[],t=>rfl
 |l::ls,t=>by rw[A5,zSm ls,zTo]
def SzT(B:Nat)(t:Tri):Prop:=∀k,(vls t k).length<=B/\(fst' t k).length<=B/\∀c∈fst' t k,c<=B
theorem zSk{t:Tri}{l k:Nat}{x:List Va×List Nat}:(t.set l x).getD k Ae=if k=l/\l<t.length then x else t.getD k default:=by
 grind
theorem stA_sz{B:Nat}{x:List Va}{t:Tri}{l:Nat}(h:SzT B t):SzT (B+1) (stA x t l):=λk=>by
 unfold stA vls fst';rw[zSk];split
 ·refine⟨by rw[AD];exact Nat.succ_le_succ (h l).1,by rw[AD];exact Nat.succ_le_succ (h l).2.1,λc hc=>?_⟩;rcases Bs.1 hc with hc|hc
  ·have:=(h l).2.2 c hc;omega
  rw[Bz.1 hc];have:=(h (l+1)).1;exact AR this (By _)
 exact⟨AR (h k).1 (By _),AR (h k).2.1 (By _),λc hc=>AR ((h k).2.2 c hc) (By _)⟩
section
open Go.RowKit
attribute [local irreducible] seqW awp zAf zAn zAd Weak updS zAx retL Pure Acts rP setP setQ cP nP fr
set_option maxRecDepth 4096
def Tt(o:Nat):Par:=⟨λf=>f==165||f==163,λ_ _=>AG,λk=>decide (k<o),λ_=>Ad,λt=>t==244⟩
theorem Tt_ok(o:Nat):zA7 Am (Tt o):=by intro t n f h;cases h
def Ts(N:Nat):Par:=⟨λ_=>Ad,λ_ _=>AG,λk=>decide (k<N),λ_=>Ad,λt=>t==244⟩
theorem Ts_ok(N:Nat):zA7 Am (Ts N):=by intro t n f h;cases h
abbrev tvB(m n:Nat):Bk:=⟨[.osl m 0 n (n*2) Ab],222,0,Ad,Ad, .plain⟩
theorem size_g{m o:Nat}{t:Tri}{st:List Bk}(hst:st[m]?=Al (lvB o t))(hn:∀b∈st,namB st.length b)(l:Nat)(hb:t.length<=1000000):Acts Am 165 [.agg [.osl m 0 t.length (t.length*2) Ab],iD (l:Nat)] st [] (iD ((vls t l).length:Nat)) st:=by
 have hml:m<st.length:=(BZ.1 hst).1;have key:∀b,Acts Am 165 [.agg [.osl m 0 t.length (t.length*2) Ab],iD (l:Nat)] st [] (iD ((vls t l).length:Nat)) (st++[b])->Acts Am 165 [.agg [.osl m 0 t.length (t.length*2) Ab],iD (l:Nat)] st [] (iD ((vls t l).length:Nat)) st:=λb h=>by
  have:=h.cut st.length (Aw _) (by
   unfold zEp;simp only[Bt,AZ,BG,Bv,BH];intro i hi;refine⟨rfl,λe he=>?_⟩;rw[BE rfl]at he;exact(hn e he).imp id λh=>h _ (by omega))
  grind
 refine key (tvB m t.length) ?_;have hl1:(st++[tvB m t.length])[st.length]?=Al (tvB m t.length):=zAr rfl;refine zN (Ts_ok st.length) mixed Tryz.func165 rfl (by intro k hk;show decide (k<st.length)=Ab;rw[decide_eq_true_eq];exact hk) ?_;rcases AB l t.length with h|h
 ·have hhd:=lv_hd (o:=o) h;have hll:=zNz (o:=o) (t:=t);have hne:lvCs o t≠[]:=λe=>by rw[e]at hll;simp at hll;omega
  focus
   refine vA ?_;rotate_left
  refine zBc (Aa st) (True) (Ak [Ai m 0 (Aa t) (Aa t*2) Ab] 222 0 Ad Ad Ao) (Af 0 0) (rfl:st.length=st.length) ?_;focus
   refine zAb [0] [(4,iD 0)] ?_;refine zA<|vA ?_;refine zA3 2 [(5,iD l),(6,Af (Aa st) 0)] ?_;rotate_left
  refine zAe (Ak [Ai m 0 (Aa t) (Aa t*2) Ab] 222 0 Ad Ad Ao) (Aa st) (AJ 1 1) (Ai m 0 (Aa t) (Aa t*2) Ab) hl1 (by simp) ?_;focus
   refine zAb [5,6,7,8] [(9,bD<|decide ((l:Int)>=(Aa t:Int)))] ?_;refine vF ((l:Int)>=(Aa t:Int))<|vK<|vA ?_;refine zA3 1 [(10,Af (Aa st) 0)] ?_;rotate_left
  refine zAe (Ak [Ai m 0 (Aa t) (Aa t*2) Ab] 222 0 Ad Ad Ao) (Aa st) (AJ 1 1) (Ai m 0 (Aa t) (Aa t*2) Ab) hl1 (by simp) ?_;focus
   refine zR 2 [] [] ((0:Int)<=(l:Int)/\(l:Int)<↑(Aa t)) [(12,iD l),(13,Af m (0+Ax (l:Int)*2))] (by omega) ?_;refine zAl 13 (Af m (0+Ax (l:Int)*2)) (Af m (l*2)) (by simp(disch:=omega) only[AI,A6]) ?_;refine zA3 1 [(14,Af m (l*2))] ?_;rotate_left
  refine zAe (Ak (lvCs o t) 244 2 Ab Ad A2) (m) (AJ 1<|Aa<|Ah (l*2)<|lvCs o t) (AO (Ah (l*2)<|lvCs o t) Uk) (zA2 hst) (by(simp;omega)) ?_;rw[hhd];focus
   refine zAb [1,2,9,10,11,12,13,14,15,16] [(4,iD (Aa (vls t l):Int))] ?_;refine zE ?_;refine zM (True) [Aj<|AN AK (Aa (vls t l):Int)] (.inr rfl) ?_;rotate_left
  exact⟨by kernel_rfl,rfl⟩
 have e:vls t l=[]:=by unfold vls;rw[A8,Bq h];rfl
 rw[e];focus
  refine vA ?_;rotate_left
 refine zBc (Aa st) (True) (Ak [Ai m 0 (Aa t) (Aa t*2) Ab] 222 0 Ad Ad Ao) (Af 0 0) (rfl:st.length=st.length) ?_;focus
  refine zAb [0] [(4,iD 0)] ?_;refine zA<|vA ?_;refine zA3 2 [(5,iD l),(6,Af (Aa st) 0)] ?_;rotate_left
 refine zAe (Ak [Ai m 0 (Aa t) (Aa t*2) Ab] 222 0 Ad Ad Ao) (Aa st) (AJ 1 1) (Ai m 0 (Aa t) (Aa t*2) Ab) hl1 (by simp) ?_;focus
  refine zAb [5,6,7,8] [(9,bD<|decide ((l:Int)>=(Aa t:Int)))] ?_;refine vT ((l:Int)>=(Aa t:Int))<|vA ?_;refine zAb [9] [] ?_;refine zE<|zG ?_;refine zM (True) [q2_] (.inr rfl) ?_;rotate_left
 exact⟨by kernel_rfl,rfl⟩
abbrev adN(x:List Va)(f l:Nat)(t:Tri):Tri:=(AP f (l-f)).foldl (stA x) t
theorem adN_succ(x:List Va)(f l:Nat)(t:Tri)(h:f<=l):adN x f (l+1) t=stA x (adN x f l t) l:=by
 unfold adN;rw[show l+1-f=(l-f)+1 by omega,List.range'_concat,List.foldl_append];grind
theorem zTj{m n k:Nat}(h:m≠k):zAk k (tvB m n)=tvB m n:=by
 simp_all [zAk,tvB,BL,zAi,refs]
theorem add_k{m o:Nat}{base:Nat->Bk}(hm:m<o)(hbs:Bss o base)(x:List Va)(t:Tri)(f:Nat)(hx:x.length=t.length)(hf:f<=t.length)(h32:t.length<=1000)(ho:o<=1000)(B:Nat)(hB:B+t.length<=1000000)(hS:SzT B t)(ch:List Nat)(hch:∀k,k<o+2*t.length->k<o\/k∈ch):
  Acts Am 163 [.agg [.osl m 0 t.length (t.length*2) Ab],rowV x,iD (f:Nat)] (tlay m o base t) ch (.tup []) (tlay m o base (adT x f t)++[tvB m t.length]):=by
 have hlen:∀l,(adN x f l t).length=t.length:=λl=>zSn x _ t;have hne:zJ x≠[]\/t.length=0:=by
  grind [BU,zHp]
 refine zAj (Tt_ok o) mixed Tryz.func163 rfl (λk hk=>by
  rw[zB7]at hk;refine(hch k hk).imp (λh=>?_) id;show decide (k<o)=Ab;rw[decide_eq_true h]) ?_
 focus
  refine vA ?_;rotate_left
 refine zBc (o+2*Aa t) (True) (Ak [Ai m 0 (Aa t) (Aa t*2) Ab] 222 0 Ad Ad Ao) (Af 0 0) (zB7 (m:=m) (o:=o) (base:=base) (t:=t)) ?_;focus
  refine zAb [0] [] ?_;refine vA ?_;refine zAb [2,7] [(6,iD f)] ?_;refine zH ?_;rotate_left
 refine zK (λ(l:Nat)=>fr 48 [(1,rowV x),(3,Af (o+2*Aa t) 0),(6,iD l)]) (λ(l:Nat)=>tlay m o base (adN x f l t)++[tvB m t.length]) (λ(l:Nat)=>t.length-l) (λ(l:Nat)=>f<=l/\l<=t.length/\SzT (B+l) (adN x f l t)) f ?_ ?_ ?_
 ·refine⟨Aw _,hf,?_⟩;rw[show adN x f f t=t by unfold adN;rw[BF];rfl];exact λk=>⟨by have:=(hS k).1;omega,by have:=(hS k).2.1;omega,λc hc=>by have:=(hS k).2.2 c hc;omega⟩
 ·rw[show adN x f f t=t by unfold adN;rw[BF];rfl];refine zAs [(1,1),(3,1),(6,1)] (rowV x=rowV x/\Af (o+2*Aa t) 0=Af (o+2*Aa t) 0/\iD (f:Int)=iD (f:Int)) ⟨rfl,rfl,rfl⟩
 rintro l ⟨c1,c2,c3⟩;rcases AB l t.length with hl|hl
 ·have hsu:=adN_succ x f l t c1;have hln:=hlen l;have hsz:=c3;have hx1:=zDs x l (by omega);have hnx:=zHp x (by omega);have hlx:3<=((zJ x).drop (l*3)).length:=zGw _ _ (by omega);generalize adN x f l t=u at*;have hul:l<u.length:=by omega
  have hhd:=lv_hd (o:=o) hul;have hhd1:=lv_hd1 (o:=o) hul;have hll:=zNz (o:=o) (t:=u);have hN:o+2*t.length=o+2*u.length:=by rw[hln]
  have htB:(tlay m o base u++[tvB m t.length])[o+2*t.length]?=Al (tvB m t.length):=zAr (by rw[zB7,hln]);have hl2:(tlay m o base u++[tvB m t.length]).length=o+2*t.length+1:=by rw[AD,zB7,hln];rfl
  obtain⟨v,hvv⟩:∃v,v=x.getD l default:=⟨_,rfl⟩;rw[<-hvv]at hx1;have hcl:=zA0 (vls u l);have hvl:=(hsz l).1;have hfl:=(hsz l).2.1;focus
   refine zA<|vA ?_;refine zAb [8,9,10] [(11,bD<|decide ((l:Int)<↑(Aa x)))] ?_;refine vT ((l:Int)<↑(Aa x))<|vKB<|zA ?_;refine zA6 [0,2,3,5,9,10,11,1,4,6,7,8,12,13] [(14,[(1,100000)],[15,16,17])] rfl ?_;refine zR 7 [] [] (True/\True/\ix ↑l ↑(Aa x) (zJ x≠[])) [(14,Af (o+2*Aa t) 0),(16,iD l),(17,Af (o+2*Aa t) 0),(19,iD l),(23,(q3_ x)),(24,iD l),(25,D.ptr<|Ah (l*3)<|zJ x)] ⟨trivial,trivial,⟨(by omega),⟨(by omega),(by assumption)⟩⟩⟩ ?_;rotate_left
  refine zAe (Ak [Ai m 0 (Aa t) (Aa t*2) Ab] 222 0 Ad Ad Ao) (o+2*Aa t) (AJ 1 1) (Ai m 0 (Aa t) (Aa t*2) Ab) htB (by simp) ?_;refine zAe (Ak [Ai m 0 (Aa t) (Aa t*2) Ab] 222 0 Ad Ad Ao) (o+2*Aa t) (AJ 1 1) (Ai m 0 (Aa t) (Aa t*2) Ab) htB (by simp) ?_;focus
   refine zR 1 [] [] ((0:Int)<=(l:Int)/\(l:Int)<↑(Aa t)) [(20,Af m (0+Ax (l:Int)*2))] (by omega) ?_;refine zAl 20 (Af m (0+Ax (l:Int)*2)) (Af m (l*2)) (by simp(disch:=omega) only[AI,A6]) ?_;refine zA3 1 [(21,Af m (l*2))] ?_;rotate_left
  refine zAe (Ak (lvCs o u) 244 2 Ab Ad A2) (m) (AJ 1<|Aa<|Ah (l*2)<|lvCs o u) (AO (Ah (l*2)<|lvCs o u) Uk) (zA2<|tl_m hm) (by(simp;omega)) ?_;rw[hhd];focus
   refine zR 1 [] [] (3<=Aa (Ah (l*3)<|zJ x)) [(26,An<|Ay 3<|Ah (l*3)<|zJ x)] (by omega) ?_;refine zAl 26 (An<|Ay 3<|Ah (l*3)<|zJ x) (An<|vaC v) (by simp(disch:=omega) only[hx1]) ?_;rotate_left
  refine zBc (o+2*Aa t+1) ((3=3/\3<=3/\True)/\0<3/\3=3/\3<=16777216/\1<=9223372036854775807) (Ak [iD<|Ar v,iD<|As v,Aj<|Aq<|bs<|Au v] 64 3 Ab Ad Ao) (Ai 0 0 1 3 Ab) hl2 ?_ (hp:=⟨⟨(by kernel_rfl),⟨(by omega),trivial⟩⟩,(by omega)⟩);focus
   refine zAh ?_ (by kernel_rfl);rotate_left
  refine zBz rfl rfl ?_ (hf:=zDn (λx hx=>by rw[AD,hl2];simp at hx;subst hx;show _+1<=100000;omega));refine zLm (Ak (zJ<|vls u l) 64 3 Ab Ad Ao) (Ak [iD<|Ar v,iD<|As v,Aj<|Aq<|bs<|Au v] 64 3 Ab Ad Ao) 22 (o+2*l) (o+2*Aa t+1) (Ab=Ab/\Aa (zJ<|vls u l)=Aa (vls u l)*3/\Aa (vls u l)*3=Aa (vls u l)*3/\64=64/\3=3/\3=3/\0<3/\0<32/\64=64/\(Aa (vls u l)+1)*32<=140737488355328/\3=3/\BC Ao=Ad/\(zCs Am (Tt o) 53=Ad\/Kd.isSh Ao=Ab)) (o+2*Aa t≠o+2*l/\o+2*Aa t≠o+2*l/\m≠o+2*l/\o+2*Aa t≠o+2*l/\m≠o+2*l/\m≠o+2*l/\m≠o+2*l/\o+2*Aa t+1≠o+2*l/\True) (Ak (zJ (vls u l)++[iD<|Ar v,iD<|As v,Aj<|Aq<|bs<|Au v]) 64 3 Ab Ad Ao) (Ai (o+2*l) 0 (Aa (vls u l)+1) ((Aa (vls u l)+1)*3) Ab) (by kernel_rfl) (zA2<|zA2<|tl_v hm hul) (zAr hl2) ?_ (by kernel_rfl) ⟨(by omega),⟨(by omega),⟨(by omega),⟨(by omega),⟨(by omega),⟨(by omega),⟨(by omega),⟨(by omega),trivial⟩⟩⟩⟩⟩⟩⟩⟩ ?_ ?_
  ·exact⟨rfl,hcl,rfl,rfl,rfl,rfl,by decide,by decide,rfl,by omega,rfl,rfl, .inl (by kernel_rfl)⟩
  ·exact decide_eq_false (by omega)
  rw[kst (t:=u) (k:=o+2*l) (by omega) (zTj (by omega)) (zB4 rfl)];focus
   refine zAh ?_ (by kernel_rfl);rotate_left
  refine zDk (by rw[AD,hl2,AD,AD,zEt,hln];exact Aw _) (zDd 1 100000 (tvB m t.length) (o+2*t.length) (0<1) (.osl m 0 t.length (t.length*2) Ab) (by kernel_rfl) (by rw[zD6 (by rw[AD,AD,zEt,hln];show _+1+1<=100000;omega)];exact zA2 (zAr (by rw[zEt,hln]))) (by decide) (by kernel_rfl)) ?_;focus
   refine zR 1 [] [] ((0:Int)<=(l:Int)/\(l:Int)<↑(Aa t)) [(29,Af m (0+Ax (l:Int)*2))] (by omega) ?_;refine zAl 29 (Af m (0+Ax (l:Int)*2)) (Af m (l*2)) (by simp(disch:=omega) only[AI,A6]) ?_;refine zA3 1 [(30,Af m (l*2))] ?_;rotate_left
  refine zB3 (Ak (Ag (zAi (o+2*l))<|lvCs o u) 244 2 Ab Ad A2) (m) (Ad=Ad/\Ab=Ab/\1=1/\l*2+1<=Aa (Ag (zAi (o+2*l))<|lvCs o u)) (Ak (setAt (Ag (zAi (o+2*l))<|lvCs o u) (l*2)<|cellsOf<|Ai (o+2*l) 0 (Aa (vls u l)+1) ((Aa (vls u l)+1)*3) Ab) 244 2 Ab Ad A2) (zA2<|zA2<|ks_m hm (by omega:o+2*l≠m)) ⟨(by kernel_rfl),⟨(by kernel_rfl),⟨(by kernel_rfl),(by(simp;omega))⟩⟩⟩ ?_;have hA:=tl_appv1 (base:=base) hm hbs hul v;refine zFy (tlay m o base (u.set l (vls u l++[v],fst' u l))++[tvB m t.length]++[⟨vaC v,64,3,Ab,Ad,.plain⟩]) ?_ ?_
  ·rw[zBj (by rw[AD,zEt];omega),zBj (by rw[zEt];omega)];exact congrArg (λs=>s++[tvB m t.length]++[_]) hA
  focus
   refine zAh ?_ (by kernel_rfl);refine zBu<|zC ?_;rotate_left
  obtain⟨u2,hu2⟩:∃u2,u2=u.set l (vls u l++[v],fst' u l):=⟨_,rfl⟩;rw[<-hu2];have hln2:u2.length=t.length:=by rw[hu2,AQ,hln]
  have hul2:l<u2.length:=by omega
  have hv2:∀k,vls u2 k=if k=l then vls u l++[v]else vls u k:=λk=>by
   grind
  have hf2:fst' u2 l=fst' u l:=by unfold fst';rw[hu2,zTi hul,if_pos rfl]
  have hnm:∀b∈tlay m o base u2++[tvB m t.length],namB (o+2*t.length+1) b:=λb hb=>by
   rcases Bs.1 hb with hb|hb
   ·have:=zRb hbs b hb
    rw[hln2]at this;exact this.imp id λh j hj=>h j (by omega)
   rw[Bz.1 hb];exact .inr λj hj=>by simp only[zX,refs,A1,beq_eq_false_iff_ne];omega
  have hl3:(tlay m o base u2++[tvB m t.length]).length=o+2*t.length+1:=by rw[AD,zB7,hln2];rfl
  have hkp:∀k,o+2*t.length+1<=k->(Tt o).keep k=false:=λk hk=>decide_eq_false (by omega);refine zF4 (AP 7 41) ([Uk,rowV x,Uk,.own (o+2*t.length) 0,Uk,Uk,iD (l:Nat)]++AH 41 Uk) (o+2*t.length<o+2*t.length+1/\True) hl3 hnm hkp (by kernel_rfl) (by kernel_rfl) ⟨by omega,trivial⟩ ?_;have hsz2:=size_g (m:=m) (o:=o) (t:=u2) (st:=tlay m o base u2++[tvB m t.length]) (zA2 (tl_m hm)) (λb hb=>by rw[hl3];exact hnm b hb) (l+1) (by omega);rw[hln2]at hsz2;have hvv2:vls u2 (l+1)=vls u (l+1):=by rw[hv2,if_neg (by omega)]
  rw[hvv2]at hsz2;have htB2:(tlay m o base u2++[tvB m t.length])[o+2*t.length]?=Al (tvB m t.length):=zAr (by rw[zB7,hln2]);have hhd2:=lv_hd1 (o:=o) hul2;rw[hf2]at hhd2;have hll2:=zNz (o:=o) (t:=u2);have hvl2:=(hsz (l+1)).1;focus
   refine zA6 [0,2,3,5,10,11,1,4,6,7,8,9] [(12,[(1,100000),(4,100000),(6,100000),(7,100000),(8,100000)],[13]),(14,[(1,100000)],[15,16,17])] rfl ?_;refine zR 6 [] [] (True/\True/\i6 (↑l+1)) [(31,Af (o+2*Aa t) 0),(33,iD l),(34,Af (o+2*Aa t) 0),(36,iD l),(41,iD l),(42,iD (↑l+1))] ⟨trivial,trivial,(by omega)⟩ ?_;rotate_left
  refine zAe (Ak [Ai m 0 (Aa t) (Aa t*2) Ab] 222 0 Ad Ad Ao) (o+2*Aa t) (AJ 1 1) (Ai m 0 (Aa t) (Aa t*2) Ab) htB2 (by simp) ?_;refine zAe (Ak [Ai m 0 (Aa t) (Aa t*2) Ab] 222 0 Ad Ad Ao) (o+2*Aa t) (AJ 1 1) (Ai m 0 (Aa t) (Aa t*2) Ab) htB2 (by simp) ?_;focus
   refine zR 1 [] [] ((0:Int)<=(l:Int)/\(l:Int)<↑(Aa t)) [(37,Af m (0+Ax (l:Int)*2))] (by omega) ?_;refine zAl 37 (Af m (0+Ax (l:Int)*2)) (Af m (l*2)) (by simp(disch:=omega) only[AI,A6]) ?_;refine zA3 1 [(38,Af m (l*2+1))] ?_;rotate_left
  refine zAe (Ak (lvCs o u2) 244 2 Ab Ad A2) (m) (AJ 1<|Aa<|Ah (l*2+1)<|lvCs o u2) (AO (Ah (l*2+1)<|lvCs o u2) Uk) (zA2<|tl_m hm) (by(simp;omega)) ?_;rw[hhd2];refine zAe (Ak [Ai m 0 (Aa t) (Aa t*2) Ab] 222 0 Ad Ad Ao) (o+2*Aa t) (AJ 1 1) (An [Ai m 0 (Aa t) (Aa t*2) Ab]) htB2 (by simp) ?_;focus
   refine zAh ?_ (by kernel_rfl);rotate_left
  refine zBz rfl rfl ?_ (hf:=zDn (λx hx=>by rw[hl3];simp at hx;rcases hx with rfl|rfl|rfl|rfl|rfl<;>(show _+1<=100000;omega)));focus
   refine zY [] [] [An [Ai m 0 (Aa t) (Aa t*2) Ab],iD (↑l+1)] [An [Ai m 0 (Aa t) (Aa t*2) Ab],iD ↑(l+1)] (Az _) (by exact hsz2) ?_;refine zAh ?_ (by kernel_rfl);rotate_left
  have htk:∀st:List Bk,st.length<=100000->st.take 100000=st:=λst h=>zD6 h;have htB3:((tlay m o base u2++[tvB m t.length]).take 100000)[o+2*t.length]?=Al (tvB m t.length):=by rw[htk _ (by rw[hl3];omega)];exact htB2
  have htm3:((tlay m o base u2++[tvB m t.length]).take 100000)[m]?=Al (lvB o u2):=by rw[htk _ (by rw[hl3];omega)];exact zA2 (tl_m hm)
  refine zDk (Aw _) (zDa (zDd 1 100000 (tvB m t.length) (o+2*t.length) (0<1) (.osl m 0 t.length (t.length*2) Ab) (by kernel_rfl) htB3 (by decide) (by kernel_rfl))
   (zDa (zDd 4 100000 (tvB m t.length) (o+2*t.length) (0<1) (.osl m 0 t.length (t.length*2) Ab) (by kernel_rfl) htB3 (by decide) (by kernel_rfl))
   (zDa (zK4 6 100000 ((0:Int)<=(l:Nat)/\((l:Nat):Int)<(t.length:Nat)) (.own m (0+Ax (l:Nat)*2)) (.own m (l*2)) (by kernel_rfl) (by simp) (by omega) (by kernel_rfl))
   (zDa (zK4 7 100000 True (.own m (l*2+1)) (.own m (l*2+1)) (by kernel_rfl) rfl trivial (by kernel_rfl))
   (zXp 8 100000 (lvB o u2) m (0<((lvCs o u2).drop (l*2+1)).length) (((lvCs o u2).drop (l*2+1)).headD .unk) (.osl (o+2*l+1) 0 (fst' u l).length (fst' u l).length Ab) (by kernel_rfl) hhd2 htm3 (by rw[B6,hll2];omega) (by kernel_rfl)))))) ?_
  rotate_left;refine zBc (o+2*Aa t+1) ((1=1/\1<=1/\True)/\0<1/\1=1/\1<=16777216/\1<=9223372036854775807) (Ak [iD (↑(Aa<|vls u (l+1)):Int)] 3 1 Ab Ad Ao) (Ai 0 0 1 1 Ab) hl3 ?_ (hp:=⟨⟨(by kernel_rfl),⟨(by omega),trivial⟩⟩,(by omega)⟩);focus
   refine zAh ?_ (by kernel_rfl);rotate_left
  refine zBz rfl rfl ?_ (hf:=zDn (λx hx=>by rw[AD,hl3];simp at hx;subst hx;show _+1<=100000;omega));have hfb:(tlay m o base u2)[o+2*l+1]?=Al (inA (fst' u l)):=by rw[tl_f hm hul2,hf2]
  refine zLm (Ak (Ag (λ(c:Nat)=>iD c)<|fst' u l) 3 1 Ab Ad Ao) (Ak [iD (↑(Aa<|vls u (l+1)):Int)] 3 1 Ab Ad Ao) 39 (o+2*l+1) (o+2*Aa t+1) (Ab=Ab/\Aa (Ag (λ(c:Nat)=>iD c)<|fst' u l)=Aa (fst' u l)*1/\Aa (fst' u l)=Aa (fst' u l)*1/\3=3/\1=1/\1=1/\0<1/\0<8/\3=3/\(Aa (fst' u l)+1)*8<=140737488355328/\1=1/\BC Ao=Ad/\(zCs Am (Tt o) 23=Ad\/Kd.isSh Ao=Ab)) (o+2*Aa t≠o+2*l+1/\o+2*Aa t≠o+2*l+1/\m≠o+2*l+1/\o+2*Aa t≠o+2*l+1/\m≠o+2*l+1/\m≠o+2*l+1/\m≠o+2*l+1/\m≠o+2*l+1/\o+2*Aa t+1≠o+2*l+1/\True) (Ak (Ag (λ(c:Nat)=>iD c) (fst' u l)++[iD (↑(Aa<|vls u (l+1)):Int)]) 3 1 Ab Ad Ao) (Ai (o+2*l+1) 0 (Aa (fst' u l)+1) ((Aa (fst' u l)+1)*1) Ab) (by kernel_rfl) (zA2<|zA2 hfb) (zAr hl3) ?_ (by kernel_rfl) ⟨(by omega),⟨(by omega),⟨(by omega),⟨(by omega),⟨(by omega),⟨(by omega),⟨(by omega),⟨(by omega),⟨(by omega),trivial⟩⟩⟩⟩⟩⟩⟩⟩⟩ ?_ ?_
  ·exact⟨rfl,by rw[A3,AM],(AM _).symm,rfl,rfl,rfl,by decide,by decide,rfl,by omega,rfl,rfl, .inl (by kernel_rfl)⟩
  ·exact decide_eq_false (by omega)
  rw[kst (t:=u2) (k:=o+2*l+1) (by omega) (zTj (by omega)) (zB4 rfl)];rw[AM];focus
   refine zAh ?_ (by kernel_rfl);rotate_left
  refine zDk (by rw[AD,hl3,AD,AD,zEt,hln2];exact Aw _) (zDd 1 100000 (tvB m t.length) (o+2*t.length) (0<1) (.osl m 0 t.length (t.length*2) Ab) (by kernel_rfl) (by rw[zD6 (by rw[AD,AD,zEt,hln2];show _+1+1<=100000;omega)];exact zA2 (zAr (by rw[zEt,hln2]))) (by decide) (by kernel_rfl)) ?_;focus
   refine zR 1 [] [] ((0:Int)<=(l:Int)/\(l:Int)<↑(Aa t)) [(46,Af m (0+Ax (l:Int)*2))] (by omega) ?_;refine zAl 46 (Af m (0+Ax (l:Int)*2)) (Af m (l*2)) (by simp(disch:=omega) only[AI,A6]) ?_;refine zA3 1 [(47,Af m (l*2+1))] ?_;rotate_left
  refine zB3 (Ak (Ag (zAi (o+2*l+1))<|lvCs o u2) 244 2 Ab Ad A2) (m) (Ad=Ad/\Ab=Ab/\1=1/\l*2+1+1<=Aa (Ag (zAi (o+2*l+1))<|lvCs o u2)) (Ak (setAt (Ag (zAi (o+2*l+1))<|lvCs o u2) (l*2+1)<|cellsOf<|Ai (o+2*l+1) 0 (Aa (fst' u l)+1) (Aa (fst' u l)+1) Ab) 244 2 Ab Ad A2) (zA2<|zA2<|ks_m hm (by omega:o+2*l+1≠m)) ⟨(by kernel_rfl),⟨(by kernel_rfl),⟨(by kernel_rfl),(by(simp;omega))⟩⟩⟩ ?_;have hA2:=zWi (base:=base) hm hbs hul2 (vls u (l+1)).length;rw[hf2]at hA2;have hst2:u2.set l (vls u2 l,fst' u l++[(vls u (l+1)).length])=stA x u l:=by
   rw[hv2,if_pos rfl,hu2,List.set_set,hvv];rfl
  rw[hst2]at hA2;refine zFy (tlay m o base (stA x u l)++[tvB m t.length]++[⟨[iD ((vls u (l+1)).length:Nat)],3,1,Ab,Ad,.plain⟩]) ?_ ?_
  ·rw[zBj (by rw[AD,zEt];omega),zBj (by rw[zEt];omega)];exact congrArg (λs=>s++[tvB m t.length]++[_]) hA2
  focus
   refine zAh ?_ (by kernel_rfl);refine zBu<|zD<|zC ?_;rotate_left
  have hln3:(stA x u l).length=t.length:=by rw[stA_len,hln]
  have hnm3:∀b∈tlay m o base (stA x u l)++[tvB m t.length],namB (o+2*t.length+1) b:=λb hb=>by
   rcases Bs.1 hb with hb|hb
   ·have:=zRb hbs b hb
    rw[hln3]at this;exact this.imp id λh j hj=>h j (by omega)
   grind
  refine zF4 (AP 7 41) ([Uk,rowV x,Uk,.own (o+2*t.length) 0,Uk,Uk,iD (l:Nat)]++AH 41 Uk) (o+2*t.length<o+2*t.length+1/\True) (by rw[AD,zB7,hln3];rfl) hnm3 hkp (by kernel_rfl) (by kernel_rfl) ⟨by omega,trivial⟩ ?_;focus
   refine zB rfl ?_;refine zR 3 [] [] (i6 (↑l+1)) [(6,iD ↑(l+1)),(12,iD l),(13,iD ↑(l+1))] (by omega) ?_;refine zAh ?_ (by kernel_rfl);refine zC ?_;rotate_left
  refine⟨l+1,⟨by omega,hl,?_⟩,by omega,?_⟩
  ·grind [stA_sz]
  rw[hsu];refine zAs [(1,1),(3,1),(6,1)] (rowV x=rowV x/\Af (o+2*Aa t) 0=Af (o+2*Aa t) 0/\iD (↑(l+1):Int)=iD (↑(l+1):Int)) ⟨rfl,rfl,rfl⟩
 obtain rfl:l=t.length:=by omega
 have hfA:=foldA f x t hx;rw[<-hfA];focus
  refine zA<|vA ?_;refine zAb [8,9,10] [(11,bD<|decide ((Aa t:Int)<(Aa x:Int)))] ?_;refine vF ((Aa t:Int)<↑(Aa x))<|vY2 ?_;refine zM (True) [] (.inl rfl) ?_;rotate_left
 exact⟨by kernel_rfl,rfl⟩
theorem add_a{m o:Nat}{base:Nat->Bk}(hm:m<o)(hbs:Bss o base)(x:List Va)(t:Tri)(f:Nat)(hx:x.length=t.length)(hf:f<=t.length)(h32:t.length<=1000)(ho:o<=1000)(B:Nat)(hB:B+t.length<=1000000)(hS:SzT B t)(ch:List Nat)(hch:∀k,k<o+2*t.length->k<o\/k∈ch):
  Acts Am 163 [.agg [.osl m 0 t.length (t.length*2) Ab],rowV x,iD (f:Nat)] (tlay m o base t) ch (.tup []) (tlay m o base (adT x f t)):=
 (add_k hm hbs x t f hx hf h32 ho B hB hS ch hch).tail (N:=o+2*t.length) (by rw[zB7,zFp]) (by rw[zB7];exact Aw _) (λb hb=>by have:=zRb hbs b hb;rwa[zFp]at this) (λj _=>by simp only[refs,zX])
end
section
open Go.RowKit
abbrev nlD:D:= .val (.slice AG 0 0)
def zJr(o c k:Nat):List D:=(AE c).map λi=>if i<k then .osl (o+i) 0 0 0 Ab else nlD
def zR5(k:Nat):List Bk:=(AE k).map λi=>if i%2=0 then vaA []else inA []
theorem zHz(o c k i:Nat):(zJr o c k)[i]?=if i<c then Al (if i<k then .osl (o+i) 0 0 0 Ab else nlD)else none:=by
 grind [zJr,Bq]
theorem zQ6{T:Par}{sl:List D}(B0 B1 B2 B4:Bk)(c:Nat):∀k,k<=c->Weak T sl [B0,B1,B2,⟨zJr 5 c 0,244,2,Ab,Ad, .sh⟩,B4] sl ([B0,B1,B2,⟨zJr 5 c k,244,2,Ab,Ad, .sh⟩,B4]++zR5 k)
 |0,_=>Weak.refl _ _
 | k+1,hk=>by
  refine(zQ6 B0 B1 B2 B4 c k (by omega)).trans ?_;have h:=Weak.nilC (T:=T) (sl:=sl) (st:=[B0,B1,B2,⟨zJr 5 c k,244,2,Ab,Ad, .sh⟩,B4]++zR5 k) (j:=3) (i:=k) (if k%2=0 then vaA []else inA []) rfl rfl rfl (by
   show(zJr 5 c k)[k]?=_;rw[zHz,if_pos (by omega),if_neg (by omega)])
  have hl:([B0,B1,B2,⟨zJr 5 c k,244,2,Ab,Ad, .sh⟩,B4]++zR5 k).length=5+k:=by
   simp[zR5];omega
  have e1:(zJr 5 c k).set k (.osl (5+k) 0 0 0 Ab)=zJr 5 c (k+1):=by
   apply A0;grind [zHz,zJr]
  simp_all [zR5,vaA,inA,List.range_succ,B3,Bc]
theorem zPx(n k:Nat):vls (AH n (([],[]):List Va×List Nat)) k=[]/\fst' (AH n (([],[]):List Va×List Nat)) k=[]:=by
 unfold vls fst';rw[A8,List.getElem?_replicate];split<;>exact⟨rfl,rfl⟩
theorem nils_tlay(B0 B1 B2 B4:Bk)(base:Nat->Bk)(n:Nat)(h0:base 0=B0)(h1:base 1=B1)(h2:base 2=B2)(h4:base 4=B4):[B0,B1,B2,⟨zJr 5 (n*2) (n*2),244,2,Ab,Ad, .sh⟩,B4]++zR5 (n*2)=tlay 3 5 base (AH n ([],[])):=by
 apply A0;intro j;have hv:=λk=>(zPx n k).1;have hf:=λk=>(zPx n k).2;rcases AB j 5 with hj|hj
 ·rw[List.getElem?_append_left (by simpa using hj),zDg (by omega)];unfold tblk;match j,hj with
  |0,_=>rw[if_neg (by decide),if_pos (by decide),h0];rfl
  |1,_=>rw[if_neg (by decide),if_pos (by decide),h1];rfl
  |2,_=>rw[if_neg (by decide),if_pos (by decide),h2];rfl
  |4,_=>rw[if_neg (by decide),if_pos (by decide),h4];rfl
  | 3,_=>
   rw[if_pos rfl];have:zJr 5 (n*2) (n*2)=lvCs 5 (AH n ([],[])):=by
    apply A0;intro i;rw[zHz,zKk,Bp];grind
   rw[this];rfl
 rw[Ci (by simpa using hj)];show(zR5 (n*2))[j-5]?=_;unfold zR5;rcases AB (j-5) (n*2)with h|h
 ·grind [zDg,Bp,only,List.getElem?_range,Ba.injEq,tblk]
 grind [Bq,zB7,Bp]
theorem weak_mk{T:Par}{sl:List D}(B0 B1 B2 B4:Bk)(base:Nat->Bk)(n:Nat)(h0:base 0=B0)(h1:base 1=B1)(h2:base 2=B2)(h4:base 4=B4):Weak T sl [B0,B1,B2,⟨repL n [nlD,nlD],244,2,Ab,Ad, .sh⟩,B4] sl (tlay 3 5 base (AH n ([],[]))):=by
 have e:repL n [nlD,nlD]=zJr 5 (n*2) 0:=by
  apply A0;intro i;rw[zHz];have key:∀(n i:Nat),(repL n [nlD,nlD])[i]?=if i<n*2 then Al nlD else none:=by
   intro n;induction n with
   |zero=>intro i;simp[repL]
   |succ n ih=>
    intro i;have:repL (n+1) [nlD,nlD]=nlD::nlD::repL n [nlD,nlD]:=by simp[repL,BV]
    grind
  grind
 rw[e,<-nils_tlay B0 B1 B2 B4 base n h0 h1 h2 h4];exact zQ6 B0 B1 B2 B4 (n*2) (n*2) (Aw _)
theorem zX2{st:List Bk}{n k off l m:Nat}{wh:Bool}{e:Bk}(h:st[k]?=Al e)(hm:e.kd.isMap=Ad)(hn:e.nob=Ab):frz Ab st (n+1) (.osl k off l m wh)=Al (.row ((e.cells.drop off).take m) l,[k]):=by
 grind [only,frz,Bool.false_eq_true]
theorem frz_oslS{st:List Bk}{n k off l m:Nat}{wh:Bool}{e:Bk}(h:st[k]?=Al e)(hm:e.kd.isMap=Ad)(hn:e.nob=Ad):frz Ab st (n+1) (.osl k off l m wh)=(mapF (frz Ab st n) e.cells).map λx=>(.row ((x.1.drop off).take m) l,k::x.2):=by
 grind [only,frz,Bool.false_eq_true]
theorem zXm{m o:Nat}{base:Nat->Bk}{t:Tri}(hm:m<o)(n:Nat):∀ls:List Nat,(∀l∈ls,l<t.length)->∃ks,mapF (frz Ab (tlay m o base t) (n+1)) (ls.flatMap (lvP o t))=Al (ls.flatMap (λl=>lvC (t.getD l Ae)),ks)/\∀k∈ks,o<=k
 |[],_=>⟨[],rfl,by simp⟩
 | l::ls,h=>by
  obtain⟨ks,h1,h2⟩:=zXm hm n ls λl hl=>h l (by simp[hl]);have hl:=h l (by simp);have hv:=zX2 (n:=n) (off:=0) (l:=(vls t l).length) (m:=(vls t l).length*3) (wh:=Ab) (tl_v (base:=base) hm hl) rfl rfl;have hf:=zX2 (n:=n) (off:=0) (l:=(fst' t l).length) (m:=(fst' t l).length) (wh:=Ab) (tl_f (base:=base) hm hl) rfl rfl;rw[AY,AT (by rw[zA0];exact Aw _)]at hv;rw[AY,AT (by simp)]at hf;refine⟨(o+2*l)::(o+2*l+1)::ks,?_,λk hk=>?_⟩
  ·simp only[A7,lvP,A9,Bn,mapF,hv,hf];try simp only[lvP]at h1
   rw[h1]
  grind
theorem zY4(t:Tri):(AE t.length).flatMap (λl=>lvC (t.getD l Ae))=t.flatMap lvC:=by
 have:t=(AE t.length).map λl=>t.getD l default:=by
  apply A0;grind
 grind [List.flatMap_map]
theorem zZ1{T:Par}{sl:List D}{base:Nat->Bk}{t:Tri}(B0:Bk)(h0:base 0=B0)(h1:base 1=⟨[.osl 3 0 t.length (t.length*2) Ab],222,0,Ad,Ad, .plain⟩)(hb0:namB 2 B0)(hk:∀k,2<=k->T.keep k=Ad)(hs:∀j∈ownL sl,j<2):Weak T sl (tlay 3 5 base t) sl [B0,⟨[triC t],222,0,Ad,Ad, .plain⟩]:=by
 obtain⟨ks,hx,hks⟩:=zXm (m:=3) (o:=5) (base:=base) (t:=t) (by decide) 7 (AE t.length) λl hl=>AZ.1 hl;rw[zY4]at hx;have hfr:frz Ab (tlay 3 5 base t) zAc (.osl 3 0 t.length (t.length*2) Ab)=Al (triC t,3::ks):=by
  have e:mapF (frz Ab (tlay 3 5 base t) 8) (lvCs 5 t)=Al (t.flatMap lvC,ks):=hx;have hl:(t.flatMap lvC).length=t.length*2:=zDj zFd t;have h8:=frz_oslS (n:=8) (off:=0) (l:=t.length) (m:=t.length*2) (wh:=Ab) (tl_m (m:=3) (o:=5) (base:=base) (t:=t) (by decide)) rfl rfl;rw[e]at h8;simp only[BT]at h8;rw[AY,AT (by omega)]at h8;exact h8
 have hg1:(tlay 3 5 base t)[1]?=Al ⟨[.osl 3 0 t.length (t.length*2) Ab],222,0,Ad,Ad, .plain⟩:=by
  rw[zDg (by omega),<-h1];rfl
 have hg0:(tlay 3 5 base t)[0]?=Al B0:=by rw[zDg (by omega),<-h0];rfl
 have w1:=Weak.fzCell (T:=T) (sl:=sl) (j:=1) (i:=0) hg1 rfl rfl rfl hfr (by
  intro h;rcases Bi.1 h with h|h
  ·cases h
  have:=hks 1 h;omega)
 refine w1.trans ?_;have hlen:((zAz (tlay 3 5 base t) (3::ks)).set 1 ⟨[triC t],222,0,Ad,Ad, .plain⟩).length=5+2*t.length:=by
  rw[AQ,zS,zB7]
 have htk:((zAz (tlay 3 5 base t) (3::ks)).set 1 ⟨[triC t],222,0,Ad,Ad, .plain⟩).take 2=[B0,⟨[triC t],222,0,Ad,Ad, .plain⟩]:=by
  apply A0;grind [Bl,zBw,only,Bj,zS,zB7]
 rw[<-htk];refine Weak.cut 2 ?_ hk;unfold zEp;simp only[Bt,AZ,BG,Bv,BH];intro i hi;refine⟨zCy sl λj hj=>by have:=hs j hj;omega,λe he=>?_⟩;have he:e∈[B0,(⟨[triC t],222,0,Ad,Ad, .plain⟩:Bk)]:=by rw[<-htk];exact he
 rcases Bi.1 he with rfl|he
 ·exact hb0.imp id λh=>h _ (by omega)
 simp_all [Bz,only,zX,refs,A1]
theorem next_trie{P:Program}{T:Par}{c:Code}{Q:Exit->List D->List Bk->Prop}{sl:List D}{base:Nat->Bk}{t:Tri}(B0:Bk)(dead:List Nat)(sl':List D)(C:Prop)(h0:base 0=B0)(h1:base 1=⟨[.osl 3 0 t.length (t.length*2) Ab],222,0,Ad,Ad, .plain⟩)(hb0:namB 2 B0)(hk:∀k,2<=k->T.keep k=Ad)(e:zAx sl dead=sl')(hC:lts 2 (ownL sl')=C)(hs:C)(k:awp P T c Q sl' [B0,⟨[triC t],222,0,Ad,Ad, .plain⟩]):zAn P T c Q sl (tlay 3 5 base t):=
 by
 subst e;exact⟨_,_,(Weak.slots (LeL.dead dead sl)).trans (zZ1 B0 h0 h1 hb0 hk (zQf (by rw[hC];exact hs))),k⟩
end
end Go.Proofs.YtjcofbkhoeockaaGreatDoor
