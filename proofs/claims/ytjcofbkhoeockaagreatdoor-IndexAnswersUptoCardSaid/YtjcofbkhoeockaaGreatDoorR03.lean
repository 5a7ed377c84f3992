/- Texts of this claim, joined. -/
import Derived.Test.YtjcofbkhoeockaaGreatDoorR02
set_option linter.unusedVariables false
set_option linter.unusedSimpArgs false
namespace Go.Proofs.YtjcofbkhoeockaaGreatDoor
open _root_.Bool renaming false->Aa,true->Ac,or_false->AL,not_eq_true'->Bx,false_ne_true->Bz,false_or->BF,and_eq_true->BH,or_eq_true->BI,true_and->BK,or_eq_false_iff->BO
open _root_.Inhabited renaming default->Ab
open _root_.List renaming length->Ad,drop->Af,map->Ak,range->Aw,replicate->AA,headD->AC,length_append->AD,getD->AE,range'->AI,take->AK,ext_getElem?->AM,length_set->AP,mem_range->AR,set->AT,getElem?_eq_none->AU,getD_eq_getElem?_getD->AW,drop_zero->AY,length_cons->AZ,flatMap->A0,length_map->A4,append_assoc->A5,pairwise_cons->A8,foldl_cons->A_,flatMap_cons->Bb,length_replicate->Bh,getElem?_map->Bi,mem_append->Bj,mem_singleton->Bm,map_cons->Bn,getElem?_set->Bo,range'_succ->Bp,all_eq_true->Bq,getElem?_eq_getElem->Br,mem_cons->Bs,take_of_length_le->Bw,range_succ->BC,length_nil->BD,cons_append->BG,getElem?_append_right->BL,mem_map->BM,getElem?_set_ne->BN,foldl_append->BR,length_drop->BS,length_range->BU,length_filter_le->BV,range'_append_1->BW,nil_append->BY,mem_cons_of_mem->BZ,getElem?_set_self->B3,getElem?_append_left->B6,take_length->B7,map_nil->B8,map_congr_left->B9,length_take->B_,nodup_cons->Ca,flatMap_append->Cb,map_append->Ce,take_left'->Ci,range'_concat->Cj,getElem?_range->Ck,mem_of_mem_take->Cl,eq_nil_of_length_eq_zero->Cm,append_cancel_left_eq->Cp
open D renaming own->Ae,osl->Ag,val->Aj,agg->Am,row->AH,clo->AX,ptr->A7
open Bk renaming mk->Ah,cells->AF
open _root_.Option renaming some->Ai,none->AO,map_some->BA,some->BB
open Kd renaming plain->Al,sh->AN,isMap->BE
open Value renaming string->Ao,bool->AQ,int->Bc
open Va renaming kind->Ap,int->Aq,str->Ar
open _root_.Go.Proofs.Tryz renaming prog->As
open _root_.Nat renaming le_refl->Au,le_trans->Ax,le->Ay,lt_or_ge->Az,le_succ->AJ,zero_add->AV,mul_le_mul_right->A3,succ_mul->A9,mul_one->Ba,zero_le->Bf,add_sub_cancel->Bt,lt_of_lt_of_le->Bv,mod_lt->By,sub_self->BT,le_of_lt->BX,succ_le_succ->B5,lt_succ_self->Cc,div_lt_self->Cg,div_add_mod->Ch,add_mul_mod_self_left->Co
open _root_.Int renaming toNat->AB,toNat_natCast->AS,tdiv->Bl
open LeL renaming refl->AG,of_eq->BQ
open _root_.Prod renaming snd->A1,fst->BJ
open IntKind renaming i64->A2
open _root_.BitVec renaming ofInt->A6,toNat->Cd
open Weak renaming slots->BP
open _root_.ByteArray renaming mk->Cf
abbrev ah_:Prop:=((1=1/\1<=2/\1=1/\2<=2/\True)/\Ac=Ac)/\Aa=Aa/\Ac=Ac/\2=2/\2<=2
abbrev ai_(p:Prop):Prop:=True/\True/\p
abbrev aj_(p:Prop):Prop:=True/\True/\True/\p
abbrev ak_:Prop:=True/\0<2/\True/\0<1/\True
variable{n v m key j:Nat}{nb:Nat->Nat}
section
open Go.RowKit
def fA(N:Nat)(g:Nat->D):List D:=(Aw N).map g
section
variable{N:Nat}{g g':Nat->D}{i:Nat}{x:D}
theorem zEy:(fA N g).length=N:=by simp[fA]
theorem zYv(h:i<N):(fA N g)[i]?=Ai (g i):=by simp[fA,h]
theorem zD7(h:i<N):((fA N g).drop i).headD .unk=g i:=by
 grind [List.head?_drop,zYv]
theorem zCd(h:i<N):0<((fA N g).drop i).length:=by grind [BS,zEy]
theorem fA_ne(h:i<N):fA N g≠[]:=λe=>by
 have:=zEy (N:=N) (g:=g)
 rw[e]at this;simp only[BD]at this;omega
theorem zB8(h:∀i,i<N->g i=g' i):fA N g=fA N g':=B9 λi hi=>h i (AR.1 hi)
theorem zEx:(fA N g).set i x=fA N λj=>if j=i then x else g j:=by
 unfold fA;apply AM;grind
theorem zYu:∀(l:List D)(o:Nat)(g:Nat->D),setAt (fA N g) o l=fA N λj=>if o<=j/\j<o+l.length then l.getD (j-o) .unk else g j
 |[],o,g=>by
  rw[setAt];exact zB8 λj _=>by rw[if_neg (by simp only[BD];omega)]
 |d::l,o,g=>by
  rw[setAt,zEx,zYu l (o+1)];grind
theorem zLv:∀(xs ys pre:List D),xs.length=ys.length->setAt (pre++xs) pre.length ys=pre++ys
 |[],[],pre,_=>rfl
 |x::xs,y::ys,pre,h=>by
  have e:(pre++x::xs).set pre.length y=(pre++[y])++xs:=by rw[List.set_append_right _ _ (Au _),BT];simp
  rw[setAt,e]
  have:=zLv xs ys (pre++[y]) (by simpa using h)
  grind
theorem setAt_rep(d:D){l:List D}(h:l.length=N):setAt (AA N d) 0 l=l:=zLv _ l [] (by simp[h])
theorem fA_rep(d:D):AA N d=fA N λ_=>d:=by
 unfold fA;apply AM;grind
end
theorem fl_set{c:Nat}{g:Nat->List D}{xs:List D}(hg:∀a,(g a).length=c)(hx:xs.length=c)(hv:v<n):setAt ((Aw n).flatMap g) (v*c) xs=(Aw n).flatMap λu=>if u=v then xs else g u:=by
 have key:∀(l:List Nat)(k:Nat),k<l.length->l.Nodup->setAt (l.flatMap g) (k*c) xs=l.flatMap λu=>if u=l.getD k 0 then xs else g u:=by
  have put:∀(ys pre zs:List D),xs.length=ys.length->setAt (pre++ys++zs) pre.length xs=pre++xs++zs:=by
   clear hx hg;induction xs with
   |nil=>intro ys pre zs h;rw[setAt,Cm (l:=ys) (by simpa using h.symm)]
   | cons x xs ih=>
    intro ys pre zs h;cases ys with
    |nil=>simp at h
    | cons y ys=>
     rw[setAt];have e:(pre++y::ys++zs).set pre.length x=(pre++[x])++ys++zs:=by
      grind
     grind
  intro l k hk hn;have e1:l=l.take k++l.getD k 0::l.drop (k+1):=by
   simp_all
  generalize hm:l.getD k 0=m at e1⊢;have hlen:(l.take k).length=k:=by rw[B_];omega
  rw[e1]at hn;obtain⟨h1,h2,h3⟩:=List.nodup_append.1 hn;have no:∀L:List Nat,m∉L->(L.flatMap λu=>if u=m then xs else g u)=L.flatMap g:=λL h=>by
   induction L<;>grind
  have hm1:m∉l.take k:=λhh=>h3 m hh m (List.mem_cons_self ..) rfl;have hm2:m∉l.drop (k+1):=(Ca.1 h2).1;rw[e1,Cb,Cb,Bb,Bb,no _ hm1,no _ hm2,if_pos rfl]
  have:=put (g m) ((l.take k).flatMap g) ((l.drop (k+1)).flatMap g) (by rw[hx,hg])
  grind [zDn,A5]
 grind
theorem repL_fl(z:List D):∀n,repL n z=(Aw n).flatMap λ_=>z:=λn=>by
 have key:∀(l:List Nat),l.flatMap (λ_=>z)=repL l.length z:=λl=>by
  induction l with
  |nil=>rfl
  |cons a l ih=>rw[Bb,ih];rfl
 rw[key,BU]
structure Bg where
 v:Nat
 k:Nat
 p:Int
 deriving Inhabited
abbrev bgC(b:Bg):List D:=[iD (b.v:Nat),u32D b.k,iD b.p]
abbrev bgS(b:Bg):Nat:=b.k|||2^b.v
def ordL(f:Nat)(P:List Nat):List Nat:=P++(Aw f).reverse
def oI(m:Nat)(O:List Nat)(i u:Nat):Nat:=if u<m+i then O.getD u 0 else 0
def pI(O:List Nat)(i u:Nat):Nat:=if O.idxOf u<i then O.idxOf u else 0
def bI(b:Nat->Bg)(O:List Nat)(i v:Nat):List D:=if O.idxOf v<i then[iD ((b v).v:Nat), .val (.int .u32 ((b v).k:Nat)),iD (b v).p]else[iD 0, .val (.int .u32 0),iD 0]
theorem bI_len(b:Nat->Bg)(O:List Nat)(i v:Nat):(bI b O i v).length=3:=by unfold bI;split<;>rfl
def andm(e m:Nat):Nat:=(A6 32 ((e:Nat):Int)&&&~~~A6 32 ((m:Nat):Int)).toNat
theorem andm_32(e m:Nat):andm e m<4294967296:=BitVec.isLt _
theorem zZe{e:Nat}(he:e<4294967296)(hm:m<4294967296)(i:Nat):(andm e m).testBit i=(e.testBit i&&!m.testBit i):=by
 unfold andm;rw[BitVec.toNat_and,BitVec.toNat_not,bv_nat he,bv_nat hm,Nat.testBit_and];rcases Az i 32 with h|h
 ·rw[show 2^32-1-m=2^32-(m+1) by omega,Nat.testBit_two_pow_sub_succ (n:=32) hm];simp[h]
 rw[Nat.testBit_lt_two_pow (Bv he (Nat.pow_le_pow_right (n:=2) (by omega) h):e<2^i)];rfl
theorem bit_b0(hm:m<4294967296)(v:Nat):((((A6 32 ((m>>>v:Nat):Int)&&&A6 32 1).toNat:Nat):Int)==0)=!m.testBit v:=by
 grind [bit_eq]
def nbJ(key v j:Nat)(nb:Nat->Nat)(u:Nat):Nat:=if u<j/\key.testBit u=Ac then andm (nb u|||key) (2^u|||2^v)else nb u
def parJ(key:Nat)(pl:Nat->Nat):Nat->Option Nat
 |0=>AO
 | j+1=>if key.testBit j=Ac then(match parJ key pl j with
   |none=>Ai j
   |some p=>if pl j<pl p then Ai j else Ai p)else parJ key pl j
def pz:Option Nat->Int
 |none=>-1
 |some p=>(p:Nat)
theorem zL8{key:Nat}{pl:Nat->Nat}:∀{j p:Nat},parJ key pl j=Ai p->p<j/\key.testBit p=Ac
 | j+1,p,h=>by
  rw[parJ]at h;split at h
  ·rename_i hb;cases e:parJ key pl j with
   |none=>rw[e]at h;cases h;exact⟨Cc _,hb⟩
   |some q=>
    rw[e]at h
    have:=zL8 e
    grind
  have:=zL8 h
  grind
theorem nbJ_32(h:∀u,nb u<4294967296)(u:Nat):nbJ key v j nb u<4294967296:=by
 grind [nbJ,andm_32]
theorem nbJ_zero(key v:Nat)(nb:Nat->Nat):nbJ key v 0 nb=nb:=by grind [nbJ]
theorem nbJ_succ(h:key.testBit j=Ac)(u:Nat):nbJ key v (j+1) nb u=if u=j then andm (nb j|||key) (2^j|||2^v)else nbJ key v j nb u:=by
 grind [nbJ]
theorem nbJ_no(h:key.testBit j=Aa):nbJ key v (j+1) nb=nbJ key v j nb:=by grind [nbJ]
def nbT(n:Nat)(O:List Nat)(nb:Nat->Nat):Nat->Nat->Nat
 |0=>nb
 |i+1=>nbJ (nbT n O nb i (O.getD i 0)) (O.getD i 0) n (nbT n O nb i)
theorem zMh{n:Nat}{O:List Nat}{nb:Nat->Nat}(h:∀u,nb u<4294967296):∀i u,nbT n O nb i u<4294967296
 |0=>h
 |i+1=>nbJ_32 (zMh h i)
def bagE(n:Nat)(O:List Nat)(nb:Nat->Nat)(v:Nat):Bg:=⟨v,nbT n O nb (O.idxOf v) v,pz (parJ (nbT n O nb (O.idxOf v) v) (λu=>O.idxOf u) n)⟩
section
variable{n f:Nat}{P:List Nat}(hf:P.length + f = n)(hP:∀ v ∈ P, f ≤ v ∧ v < n)(hn:P.Nodup)
include hf in
theorem zQi:(ordL f P).length=n:=by simp[ordL];omega
include hP hf in
theorem zVd:∀v∈ordL f P,v<n:=λv hv=>by
 rcases Bj.1 hv with h|h
 ·exact(hP v h).2
 simp at h;omega
include hP hn in
theorem zVc:(ordL f P).Nodup:=by
 grind [ordL,List.nodup_append,List.reverse_perm,List.nodup_range]
end
theorem zGb:∀{n:Nat}{L:List Nat},L.Nodup->(∀v∈L,v<n)->L.length<=n
 |0,L,_,h=>by
  cases L with
  |nil=>exact Au _
  |cons a L=>exact absurd (h a (List.mem_cons_self ..)) (Nat.not_lt_zero _)
 | n+1,L,hn,h=>by
  by_cases hm:n∈L
  ·have h1:=zGb (n:=n) (hn.erase n) λv hv=>by
    obtain⟨h2,h3⟩:=(List.Nodup.mem_erase_iff hn).1 hv
    have:=h v h3
    omega
   rw[List.length_erase_of_mem hm]at h1;omega
  have:=zGb (n:=n) hn λv hv=>by
   have:=h v hv
   rcases Az v n with h4|h4
   ·exact h4
   exact absurd (show n∈L by rw[show n=v by omega];exact hv) hm
  omega
theorem zGl{L:List Nat}(h1:L.Nodup)(h2:L.length=n)(h3:∀v∈L,v<n)(v:Nat)(hv:v<n):v∈L:=by
 by_cases hm:v∈L
 ·exact hm
 have:=zGb (n:=n) (L:=v::L) (Ca.2 ⟨hm,h1⟩) λx hx=>by
  grind
 grind
end
section
open Go.RowKit
attribute [local irreducible] seqW awp zAd zAi zY Weak updS zAr retL Pure Acts rP setP setQ cP nP fr
set_option maxRecDepth 4096
set_option maxHeartbeats 1000000 in
theorem icols_c(A:List Nat)(n:Nat)(hn:A.length=n)(hl:n<=1000)(hA:∀v∈A,v<32)(m:Nat)(hm:m<4294967296):Pure As 95 [.row (nsD A) n,u32D m] [] (.row (nsD (zBc (λv=>m.testBit v) A)) (zBc (λv=>m.testBit v) A).length):=by
 subst hn;refine zF zAx mixed Tryz.func95 rfl<|vAu<|vAe<|zA<|vAe<|zJ<|zB4 (λ(i:Nat)(l:List Nat)=>fr 26 [(1,u32D m),(4,nl),(5,Ag 0 0 (Ad l) (Ad l) Ac),(8,AH (nsD A)<|Ad A),(9,iD (Ad A:Int)),(10,iD (i:Int))]) (λi l=>[intB<|nsD l]) (λi l=>A.length-i) (λ(i:Nat)(l:List Nat)=>i<=A.length/\l=((Aw A.length).take i).filter λj=>m.testBit (A.getD j 0)) 0 [] ?_ ?_ ?_
 ·grind
 ·refine vk 0
 rintro i l ⟨h1,h2⟩;rcases Az i A.length with h3|h3
 ·have h4:=zJg (λv=>m.testBit v) A i h3;rw[<-h2]at h4;have hlen:l.length<=1000:=by rw[h2];exact Ax (BV _ _) (by simp;omega)
  have h5:=hA _ (zBj A i h3);focus
   refine vAu<|zA<|vT ((i:Int)<↑(Ad A))<|vKB<|vA<|vr 2 (ix ↑i ↑(Ad A) (nsD A≠[])) ?_ ⟨(by omega),⟨(by omega),(by exact zAc)⟩⟩;refine vp 13 i (nsD A)<|vr 1 (0<Ad (Af i<|nsD A))<|vs 14 (AC (Af i<|nsD A) Uk) (iD ↑(AE A i 0)) (hd:=by simp(disch:=omega) only[zBr])<|veT<|vA<|vr 3 ((0:Int)<=(↑(AE A i 0):Int))<|vs 17 (Aj<|Bc IntKind.u32<|Int.fdiv (m:Int) ((2:Int)^min (AB (↑(AE A i 0):Int)) 32)) (dig (m>>>AE A i 0)) (hd:=by simp(disch:=omega) only[AS,zDw])<|vrT 1<|vs 18 (Aj<|Bc IntKind.u32<|IntKind.wrap IntKind.u32 (↑(Cd (A6 32 (↑(m>>>AE A i 0):Int)&&&A6 32 (1:Int))):Int)) (dig<|Cd (A6 32 (↑(m>>>AE A i 0):Int)&&&A6 32 (1:Int))) (hd:=by simp(disch:=omega) only[zAu])<|vrT 1<|vs 19 (bD ((↑(Cd (A6 32 (↑(m>>>AE A i 0):Int)&&&A6 32 (1:Int))):Int)==(1:Int))) (bD<|Nat.testBit m<|AE A i 0) (hd:=by simp(disch:=omega) only[zWe])<|veT<|zA5 (t:=Nat.testBit m (AE A i 0)) (by kernel_rfl) (λhc=>?_)<|λhc=>?_;refine zB rfl<|vr 5 (((1=1/\1<=1/\True)/\0<1/\1=1/\1<=16777216/\1<=9223372036854775807)/\Bk.arr (intB<|nsD l)=Ac/\Ad (AF<|intB<|nsD l)=Ad l*1/\Ad l=Ad l*1/\Bk.ty (intB<|nsD l)=3/\Bk.sz (intB<|nsD l)=1/\1=1/\0<1/\0<8/\3=3/\(Ad l+1)*8<=140737488355328/\1=1/\BE (Bk.kd<|intB<|nsD l)=Aa/\(Aa=Aa\/Kd.isSh (Bk.kd<|intB<|nsD l)=Ac))<|vs 5 (Ag 0 0 (Ad l+1) ((Ad l+1)*1) Ac) (Ag 0 0 (Ad l+1) (Ad l+1) Ac)<|vnil<|zD<|vN<|zB rfl<|vr 2 (i6 (↑i+1))<|vnil<|zC ?_;rotate_left;refine zT<|zD<|vN<|zB rfl<|vr 2 (i6 (↑i+1))<|vnil<|zC ?_;rotate_left
  ·have hc2:m.testBit (A.getD i 0)=true:=by assumption
   rw[hc2,if_pos rfl]at h4;refine⟨i+1,l++[i],⟨by omega,h4.symm⟩,by omega,?_⟩;rw[zJu,AD];refine vk 1
  have hc2:m.testBit (A.getD i 0)=false:=by assumption
  rw[hc2,if_neg (by decide),List.append_nil]at h4;refine⟨i+1,l,⟨by omega,h4.symm⟩,by omega,?_⟩;refine vk 1
 refine vAu<|zA<|vF ((i:Int)<(Ad A:Int))<|vZ2<|vAe<|zE<|zBm (True) (AH (AK (Ad l)<|Af 0<|AF<|intB<|nsD l)<|Ad l) (AH (AK (Ad l)<|nsD l)<|Ad l) (.inr rfl) (by simp(disch:=omega) only[AY]) ?_;have e:i=A.length:=by omega
 subst e;rw[Bw (by simp)]at h2;rw[h2,zMd _ _ rfl];rfl
theorem pick_c(r:List Va)(cols:List Nat)(n m:Nat)(hn:r.length=n)(hm:cols.length=m)(ln:n<=1000000)(lm:m<=100000)(hc:∀c∈cols,c<r.length):Pure As 98 [.row (zG r) n, .row (nsD cols) m] [] (.row (zG (zM r cols)) m):=by
 subst hn hm;have hci:∀i,i<cols.length->cols.getD i 0<r.length:=λi h=>hc _ (zBj cols i h);have hpl:(zM r cols).length=cols.length:=by simp[zM]
 have hcl:∀i,i<=cols.length->(zG ((zM r cols).take i)).length=i*3:=λi h=>by rw[zAg,B_,hpl,Nat.min_eq_left h]
 refine zF zAx mixed Tryz.func98 rfl<|vAu<|vA<|ve ((0:Int)<=(0:Int)/\(0:Int)<=(Ad cols:Int)/\(↑(32:Nat):Int)*(Ad cols:Int)<=(281474976710656:Int)/\(Ad cols:Int)<=(281474976710656:Int)/\0<3/\3=3)<|zA<|vAe<|zJ<|zK (λ(i:Nat)=>fr 26 [(0,AH (zG r)<|Ad r),(4,nl),(5,Ag 0 0 i (i*3) Ac),(11,AH (nsD cols)<|Ad cols),(12,iD (Ad cols:Int)),(13,iD (i:Int))]) (λ(i:Nat)=>[vaB<|(zM r cols).take i]) (λ(i:Nat)=>cols.length-i) (λ(i:Nat)=>i<=cols.length) 0 ?_ ?_ ?_
 ·omega
 ·refine vk 1
 intro i h1;rcases Az i cols.length with h3|h3
 ·have hi:=hci i h3;have hil:=hcl i h1;have htk:(zM r cols).take (i+1)=(zM r cols).take i++[r.getD (cols.getD i 0) Ab]:=by
   grind [List.take_succ_eq_append_getElem,zM]
  refine vAu<|zA<|vT ((i:Int)<↑(Ad cols))<|vKB<|vA<|vr 1 (ix ↑i ↑(Ad cols) (nsD cols≠[])) ?_ ⟨(by omega),⟨(by omega),(by exact zAc)⟩⟩;refine vp 15 i (nsD cols)<|vr 1 (0<Ad (Af i<|nsD cols))<|vs 16 (AC (Af i<|nsD cols) Uk) (iD ↑(AE cols i 0)) (hd:=by simp(disch:=omega) only[zBr])<|veT<|zB rfl<|vr 5 (ix ↑(AE cols i 0) ↑(Ad r) (zG r≠[])/\3<=Ad (Af (AE cols i 0*3)<|zG r)) (vs 21 (Am<|AK 3<|Af (AE cols i 0*3)<|zG r) (Am<|vaC<|AE r (AE cols i 0) Ab) (hd:=by simp(disch:=omega) only[zB5])<|vr 3 (((3=3/\3<=3/\True)/\0<3/\3=3/\3<=16777216/\1<=9223372036854775807)/\Bk.arr (vaB<|AK i<|zM r cols)=Ac/\Ad (AF<|vaB<|AK i<|zM r cols)=i*3/\i*3=i*3/\Bk.ty (vaB<|AK i<|zM r cols)=64/\Bk.sz (vaB<|AK i<|zM r cols)=3/\3=3/\0<3/\0<32/\64=64/\(i+1)*32<=140737488355328/\3=3/\BE (Bk.kd<|vaB<|AK i<|zM r cols)=Aa/\(Aa=Aa\/Kd.isSh (Bk.kd<|vaB<|AK i<|zM r cols)=Ac))<|vnil<|zD<|vN<|zB rfl<|vr 2 (i6 (↑i+1)) ?_) ⟨⟨(by omega),⟨(by omega),(by exact zE4 _)⟩⟩,(by exact zC3 _ _)⟩;refine vnil<|zC<|⟨i+1,by omega,by omega,?_⟩;have hvb:vaB ((zM r cols).take (i+1))=⟨zG ((zM r cols).take i)++vaC (r.getD (cols.getD i 0) Ab),64,3,Ac,Aa, .plain⟩:=by rw[htk];show Ah (zG (_++[_])) _ _ _ _ _=_;rw[zC8];simp[zG]
  rw[hvb];refine vk 1
 obtain rfl:i=cols.length:=by omega
 rw[Bw (by omega)];have ht:=zFy (zM r cols) _ hpl;refine vAu<|zA<|vF ((Ad cols:Int)<↑(Ad cols))<|vZ2<|vAe<|zE<|zBm (True) (AH (AK (Ad cols*3)<|Af 0<|AF<|vaB<|zM r cols)<|Ad cols) (AH (zG<|zM r cols)<|Ad cols) (.inr rfl) (by simp(disch:=omega) only[AY,ht]) rfl
end
abbrev Tri:=List (List Va×List Nat)
def szT:Tri->Nat
 |[]=>0
 |l::_=>l.1.length
def adT:List Va->Nat->Tri->Tri
 |v::x,0,l::t=>(l.1++[v],l.2++[szT t])::adT x 0 t
 |v::x,f+1,l::t=>l::adT x f t
 |_,_,t=>t
def finT:Tri->Tri
 |[]=>[]
 |l::t=>(l.1,l.2++[szT t])::finT t
def rws:Tri->Nat->Nat->List (List Va)
 |[],_,_=>[[]]
 |l::t,a,b=>(AI a (b-a)).flatMap λi=>(rws t (l.2.getD i 0) (l.2.getD (i+1) 0)).map (l.1.getD i Ab::·)
def InvT:Tri->Prop
 |[]=>True
 |l::t=>l.2.length=l.1.length/\(t≠[]->∀i,i<l.1.length->l.2.getD i 0<szT t)/\InvT t
def Goes:Tri->Tri->Prop
 |[],t'=>t'=[]
 |l::t,[]=>False
 |l::t,l'::t'=>(∃p,l'.1=l.1++p)/\(∃r,l'.2=l.2++r)/\Goes t t'
variable{α:Type}
theorem zBk(p r:List α)(d:α)(i:Nat)(h:i<p.length:=by omega):(p++r).getD i d=p.getD i d:=by
 grind
theorem zD4{β:Type}{g h:Nat->List β}(a n:Nat)(e:∀i,a<=i->i<a+n->g i=h i):(AI a n).flatMap g=(AI a n).flatMap h:=by
 induction n generalizing a with
 |zero=>rfl
 |succ n ih=>
  rw[Bp,Bb,Bb,e a (Au _) (by omega),ih (a+1) λi h1 h2=>e i (by omega) (by omega)]
variable{t:Tri}
theorem finT_nil:finT t=[]↔t=[]:=by cases t<;>simp[finT]
theorem zXb:∀(t t':Tri)(a b:Nat),InvT t->Goes t t'->b<szT t->rws (finT t') a b=rws (finT t) a b
 |[],t',a,b,hi,hg,hb=>by rw[show t'=[]from hg]
 |l::t,[],a,b,hi,hg,hb=>absurd hg (by simp[Goes])
 |l::t,l'::t',a,b,⟨h1,h2,h3⟩,⟨⟨p,hp⟩,⟨r,hr⟩,hg⟩,hb=>by
  simp only[finT,rws];simp only[szT]at hb;refine zD4 a _ λi i1 i2=>?_;rw[hp,hr,A5,zBk l.1 p _ i,zBk l.2 _ _ i,zBk l.2 _ _ (i+1),zBk l.2 _ _ i,zBk l.2 _ _ (i+1)];congr 1;cases t with
  |nil=>rw[show t'=[]from hg]
  |cons m t=>exact zXb _ _ _ _ h3 hg (h2 (by simp) _ (by omega))
theorem zXc:∀(t:Tri)(x:List Va)(a b:Nat),InvT t->x.length=t.length->b<=szT t->rws (finT (adT x 0 t)) a b=rws (finT t) a b
 |[],x,a,b,hi,hx,hb=>by cases x<;>rfl
 |l::t,[],a,b,hi,hx,hb=>by simp at hx
 | l::t,v::x,a,b,⟨h1,h2,h3⟩,hx,hb=>by
  simp only[adT,finT,rws];simp only[szT]at hb;refine zD4 a _ λi i1 i2=>?_;rw[zBk l.1 _ _ i,zBk (l.2++[szT t]) _ _ i (h:=by simp;omega),zBk (l.2++[szT t]) _ _ (i+1) (h:=by simp;omega)];congr 1;cases t with
  |nil=>cases x with
   |nil=>rfl
   |cons _ _=>simp at hx
  |cons m t=>
   refine zXc _ _ _ _ h3 (by simpa using hx) ?_;grind
theorem zEa(t:Tri)(x:List Va)(hx:x.length=t.length):szT (adT x 0 t)=if t=[]then 0 else szT t+1:=by
 cases t with
 |nil=>cases x<;>rfl
 |cons l t=>cases x with
  |nil=>simp at hx
  |cons v x=>simp[adT,szT]
theorem rws_new:∀(t:Tri)(x:List Va),InvT t->x.length=t.length->rws (finT (adT x 0 t)) (szT t) (szT t+1)=[x]
 |[],x,hi,hx=>by cases x with
  |nil=>rfl
  |cons _ _=>simp at hx
 |l::t,[],hi,hx=>by simp at hx
 | l::t,v::x,⟨h1,h2,h3⟩,hx=>by
  show rws (finT ((l.1++[v],l.2++[szT t])::adT x 0 t)) l.1.length (l.1.length+1)=_;simp only[finT,rws];rw[show l.1.length+1-l.1.length=1 by omega,List.range'_one,Bb,List.flatMap_nil,List.append_nil];have e1:(l.1++[v]).getD l.1.length Ab=v:=by
   grind
  have e2:(l.2++[szT t]++[szT (adT x 0 t)]).getD l.1.length 0=szT t:=by
   grind
  have e3:(l.2++[szT t]++[szT (adT x 0 t)]).getD (l.1.length+1) 0=szT (adT x 0 t):=by
   grind
  rw[e1,e2,e3];cases t with
  |nil=>cases x with
   |nil=>rfl
   |cons _ _=>simp at hx
  |cons m t=>
   rw[zEa _ _ (by simpa using hx),if_neg (by simp),rws_new _ _ h3 (by simpa using hx)];rfl
theorem zLz(t:Tri)(a b c:Nat)(ht:t≠[])(h1:a<=b)(h2:b<=c):rws t a c=rws t a b++rws t b c:=by
 cases t with
 |nil=>exact absurd rfl ht
 |cons l t=>
  simp only[rws];rw[<-Cb,show c-a=(b-a)+(c-b) by omega,<-BW,show a+(b-a)=b by omega]
theorem rws_one(l:List Va×List Nat)(t:Tri)(i:Nat):rws (l::t) i (i+1)=(rws t (l.2.getD i 0) (l.2.getD (i+1) 0)).map (l.1.getD i Ab::·):=by
 simp only[rws];simp_all
def Lst:Nat->List Va->Tri->Prop
 |0,_,_=>True
 |f+1,v::x,l::t=>0<l.1.length/\l.1.getD (l.1.length-1) Ab=v/\Lst f x t
 |_,_,_=>False
theorem zJc:∀(f:Nat)(x:List Va)(t:Tri),x.length=t.length->Goes t (adT x f t)
 |_,[],t,hx=>by
  cases t with
  |nil=>rfl
  |cons _ _=>simp at hx
 |_,v::x,[],hx=>by simp at hx
 |0,v::x,l::t,hx=>⟨⟨[v],rfl⟩,⟨[szT t],rfl⟩,zJc 0 x t (by simpa using hx)⟩
 |f+1,v::x,l::t,hx=>⟨⟨[],by simp⟩,⟨[],by simp⟩,zJc f x t (by simpa using hx)⟩
theorem zPx(f:Nat)(x:List Va)(t:Tri)(hx:x.length=t.length):szT (adT x (f+1) t)=szT t:=by
 cases t with
 |nil=>cases x<;>rfl
 |cons l t=>cases x with
  |nil=>simp at hx
  |cons v x=>rfl
theorem zT3:∀(f:Nat)(x:List Va)(t:Tri)(a:Nat),InvT t->x.length=t.length->f<x.length->Lst f x t->(a<=szT t/\(0<f->a<szT t))->rws (finT (adT x f t)) a (szT (adT x f t))=rws (finT t) a (szT t)++[x]
 |0,x,t,a,hi,hx,hf,hl,ha=>by
  have ht:t≠[]:=λe=>by subst e;rw[hx]at hf;exact absurd hf (by simp)
  rw[zEa t x hx,if_neg ht,zLz _ a (szT t) _ (by rw[Ne,finT_nil];intro e;have:=zJc 0 x t hx;rw[e]at this;cases t<;>simp[Goes]at this;exact ht rfl) ha.1 (by omega),zXc t x a _ hi hx (Au _),rws_new t x hi hx]
 |f+1,[],t,a,hi,hx,hf,hl,ha=>by simp at hf
 |f+1,v::x,[],a,hi,hx,hf,hl,ha=>by simp at hx
 | f+1,v::x,l::t,a,⟨h1,h2,h3⟩,hx,hf,⟨hl1,hl2,hl3⟩,ha=>by
  have hx':x.length=t.length:=by simpa using hx
  have hf':f<x.length:=by simpa using hf
  have ht:t≠[]:=λe=>by subst e;rw[hx']at hf';exact absurd hf' (by simp)
  have hz:szT (l::t)=l.1.length:=rfl;have ha':a<l.1.length:=ha.2 (by omega);have hg:=zJc (f+1) (v::x) (l::t) hx;have hzz:szT (adT (v::x) (f+1) (l::t))=l.1.length-1+1:=by rw[zPx _ _ _ hx,hz];omega
  have hzs:szT (l::t)=l.1.length-1+1:=by rw[hz];omega
  rw[hzz,hzs];rw[zLz _ a (l.1.length-1) _ (by simp[adT,finT]) (by omega) (by omega),zLz (finT (l::t)) a (l.1.length-1) _ (by simp[finT]) (by omega) (by omega),
   zXb (l::t) _ a _ ⟨h1,h2,h3⟩ hg (by rw[hz];omega),A5]
  congr 1;simp only[adT,finT];rw[rws_one,rws_one];have g1:∀z,(l.2++[z]).getD (l.1.length-1) 0=l.2.getD (l.1.length-1) 0:=λz=>zBk _ _ _ _;have g2:∀z,(l.2++[z]).getD (l.1.length-1+1) 0=z:=λz=>by
   grind
  have hlt:=h2 ht (l.1.length-1) (by omega);rw[g1,g1,g2,g2,hl2,zT3 f x t _ h3 hx' hf' hl3 ⟨BX hlt,λ_=>hlt⟩,Ce];rfl
theorem szT_le(f:Nat)(x:List Va)(t:Tri)(hx:x.length=t.length):szT t<=szT (adT x f t):=by
 cases f with
 |zero=>
  rw[zEa t x hx];split
  ·rename_i h;subst h;exact Au _
  omega
 |succ f=>rw[zPx f x t hx];exact Au _
variable{f:Nat}
theorem adT_ne{x:List Va}(hx:x.length=t.length)(h:adT x f t≠[]):t≠[]:=by
 rintro rfl;cases x with
 |nil=>exact h (by cases f<;>rfl)
 |cons v x=>simp at hx
theorem zJ3:∀(f:Nat)(x:List Va)(t:Tri),InvT t->x.length=t.length->InvT (adT x f t)
 |_,[],t,hi,hx=>by
  cases t with
  |nil=>exact hi
  |cons _ _=>simp at hx
 |_,v::x,[],hi,hx=>by simp at hx
 |0,v::x,l::t,⟨h1,h2,h3⟩,hx=>by
  have hx':x.length=t.length:=by simpa using hx
  refine⟨by simp[h1],λht i hi=>?_,zJ3 0 x t h3 hx'⟩;have ht':=adT_ne hx' ht;rw[zEa t x hx',if_neg ht'];grind
 |f+1,v::x,l::t,⟨h1,h2,h3⟩,hx=>by
  have hx':x.length=t.length:=by simpa using hx
  exact⟨h1,λht i hi=>Bv (h2 (adT_ne hx' ht) i hi) (szT_le f x t hx'),zJ3 f x t h3 hx'⟩
theorem zQt:∀(f:Nat)(x:List Va)(t:Tri),x.length=t.length->Lst f x t->Lst x.length x (adT x f t)
 |_,[],t,hx,h=>trivial
 |_,v::x,[],hx,h=>by simp at hx
 |0,v::x,l::t,hx,h=>by
  have hx':x.length=t.length:=by simpa using hx
  refine⟨by simp,?_,zQt 0 x t hx' trivial⟩;grind
 |f+1,v::x,l::t,hx,⟨h1,h2,h3⟩=>⟨h1,h2,zQt f x t (by simpa using hx) h3⟩
def shr:List Va->List Va->Nat
 |a::x,b::y=>if vcmp a b=0 then shr x y+1 else 0
 |_,_=>0
theorem zP1(y:List Va):shr [] y=0:=by cases y<;>rfl
theorem lst_shr:∀(x y:List Va)(t:Tri),x.length=y.length->Lst x.length x t->Lst (shr x y) y t
 |[],y,t,hx,h=>by rw[zP1];exact trivial
 |a::x,[],t,hx,h=>by simp at hx
 |a::x,b::y,[],hx,h=>h.elim
 | a::x,b::y,l::t,hx,⟨h1,h2,h3⟩=>by
  rw[shr];split
  ·rename_i e;obtain rfl:=(zAy a b).2.1.1 e;exact⟨h1,h2,lst_shr x y t (by simpa using hx) h3⟩
  trivial
theorem shr_lt:∀(x y:List Va),x.length=y.length->x≠y->shr x y<y.length
 |[],y,hx,h=>by
  grind
 |a::x,[],hx,h=>by simp at hx
 | a::x,b::y,hx,h=>by
  rw[shr];split
  ·rename_i e;obtain rfl:=(zAy a b).2.1.1 e
   have:=shr_lt x y (by simpa using hx) (λe=>h (by rw[e]))
   simpa using this
  simp
def bldT:List Va->List (List Va)->Tri->Tri
 |_,[],t=>t
 |last,x::L,t=>bldT x L (adT x (shr last x) t)
def Dst:List Va->List (List Va)->Prop
 |_,[]=>True
 |last,x::L=>last≠x/\Dst x L
theorem zFr:∀(f:Nat)(x:List Va)(t:Tri),(adT x f t).length=t.length
 |0,[],t=>by rfl
 |f+1,[],t=>by rfl
 |0,v::x,[]=>rfl
 |f+1,v::x,[]=>rfl
 |0,v::x,l::t=>by simp only[adT,AZ,zFr 0 x t]
 |f+1,v::x,l::t=>by simp only[adT,AZ,zFr f x t]
theorem zY8(n:Nat):∀(L:List (List Va))(last:List Va)(t:Tri),InvT t->t.length=n->last.length=n->(∀x∈L,x.length=n)->Lst last.length last t->Dst last L->0<szT t->
  InvT (bldT last L t)/\(bldT last L t).length=n/\rws (finT (bldT last L t)) 0 (szT (bldT last L t))=rws (finT t) 0 (szT t)++L
 |[],last,t,hi,ht,hl,hL,hls,hd,hz=>⟨hi,ht,by simp[bldT]⟩
 |x::L,last,t,hi,ht,hl,hL,hls,⟨hd1,hd2⟩,hz=>by
  have hxn:=hL x (by simp);have hxt:x.length=t.length:=by omega
  have hs:=lst_shr last x t (by omega) hls;have h1:=zT3 (shr last x) x t 0 hi hxt (shr_lt last x (by omega) hd1) hs ⟨Bf _,λ_=>hz⟩
  have:=zY8 n L x (adT x (shr last x) t) (zJ3 _ _ _ hi hxt) (by rw[zFr];exact ht) hxn (λy hy=>hL y (by simp[hy])) (zQt _ _ _ hxt hs) hd2 (Bv hz (szT_le _ _ _ hxt))
  rw[h1,A5]at this;exact this
def zCa(n:Nat)(L:List (List Va)):Tri:=finT (bldT [] L (AA n ([],[])))
theorem zJ2:∀n,InvT (AA n ([],[]))
 |0=>trivial
 |n+1=>⟨rfl,λ_ i hi=>absurd hi (by simp),zJ2 n⟩
theorem zPw(n:Nat):szT (AA n ([],[]))=0:=by cases n<;>rfl
theorem szT_fin(t:Tri):szT (finT t)=szT t:=by cases t<;>rfl
theorem finT_len(t:Tri):(finT t).length=t.length:=by
 induction t with
 |nil=>rfl
 |cons l t ih=>simp only[finT,AZ,ih]
theorem zLe:∀(L:List (List Va))(last:List Va)(t:Tri),(bldT last L t).length=t.length
 |[],_,_=>rfl
 |x::L,last,t=>by rw[bldT,zLe L,zFr]
theorem zHs(n:Nat)(L:List (List Va)):(zCa n L).length=n:=by
 rw[zCa,finT_len,zLe,Bh]
theorem trie_rows(n:Nat)(hn:0<n)(L:List (List Va))(hL:∀x∈L,x.length=n)(hd:Dst [] L):rws (zCa n L) 0 (szT (zCa n L))=L:=by
 rw[zCa,szT_fin];cases L with
 |nil=>
  rw[bldT,zPw];cases n with
  |zero=>omega
  |succ n=>rfl
 |cons x L=>
  have hx:x.length=(AA n (([],[]):List Va×List Nat)).length:=by rw[hL x (by simp),Bh]
  have hne:AA n (([],[]):List Va×List Nat)≠[]:=by intro e;have:=congrArg Ad e;simp at this;omega
  rw[bldT,zP1];have h1:=zT3 0 x _ 0 (zJ2 n) hx (by rw[hL x (by simp)];exact hn) trivial ⟨Bf _,λh=>absurd h (by omega)⟩;have h2:=zY8 n L x _ (zJ3 0 x _ (zJ2 n) hx) (by rw[zFr,Bh]) (hL x (by simp)) (λy hy=>hL y (by simp[hy])) (zQt 0 x _ hx trivial) hd.2 (by rw[zEa _ _ hx,if_neg hne];omega);rw[h2.2.2,h1,zPw];cases n with
  |zero=>omega
  |succ n=>rfl
variable{st:List Bk}{ab:List D}
section
open Go.RowKit
attribute [local irreducible] seqW awp zAd zAi zY Weak updS zAr retL Pure Acts rP setP setQ cP nP fr
set_option maxRecDepth 4096
abbrev lvC(l:List Va×List Nat):List D:=[.row (zG l.1) l.1.length, .row (l.2.map λc=>iD (c:Nat)) l.2.length]
theorem zG7(l:List Va×List Nat):(lvC l).length=2:=rfl
abbrev triC(t:Tri):D:= .row (t.flatMap lvC) t.length
abbrev itC(t:Tri)(l p e:Int)(ab:List D)(s:Int):List D:=triC t::iD l::iD p::iD e::(ab++[iD s])
abbrev itB(t:Tri)(l p e:Int)(ab:List D)(s:Int):Bk:=⟨itC t l p e ab s,250,0,Aa,Aa, .plain⟩
def Nor(ab:List D):Prop:=∀j,zX j ab=Aa
theorem zL1(j:Nat):∀a b:List D,zX j (a++b)=(zX j a||zX j b)
 |[],b=>by simp only[BY,zX,BF]
 |d::a,b=>by simp only[BG,zX,zL1 j a b,Bool.or_assoc]
theorem zMm{l p e s:Int}(h:Nor ab):Nor (itC t l p e ab s):=λj=>by
 simp only[zX,refs,zL1,h j,AL]
theorem zA8{l p e s:Int}(h:Nor ab):(itB t l p e ab s).free:= .inr (zMm h)
theorem zMn{l p e s:Int}(h:Nor ab)(x:D)(b:Bk)(hx:refs 1 x=Aa):zEr [x] [itB t l p e ab s,b] 1 2=true:=by
 have h1:=zMm (t:=t) (l:=l) (p:=p) (e:=e) (s:=s) h 1;simp_all [only,zEr,Bq,AR,BH,Bx,BI,zX,AL]
theorem refs_va(j:Nat)(v:Va):refs j (.agg (vaC v))=false:=by simp only[refs,zX,AL]
def Ti:Par:=⟨λf=>f==181||f==184||f==188||f==169||f==168||f==170||f==166||f==183||f==147,λ_ _=>AO,λk=>decide (k<1),λ_=>Aa,λ_=>Aa⟩
theorem zJl:zA9 As Ti:=by intro t n f h;cases h
theorem zJa(h:st.length=1):∀k,k<st.length->Ti.keep k=true:=λk hk=>by
 show decide (k<1)=Ac;rw[decide_eq_true_eq];omega
theorem depth_c(t:Tri):Pure As 182 [.agg [triC t]] [] (iD (t.length:Nat)):=by
 refine zF zAx mixed Tryz.func182 rfl<|vAu<|vA<|ve (True/\0<1)<|zE<|vret (True)<|.inr rfl
theorem size_c(t:Tri)(l:Nat):Pure As 165 [.agg [triC t],iD (l:Nat)] [] (iD ((t.getD l ([],[])).1.length:Nat)):=by
 rcases Az l t.length with h|h
 ·have hg2:=zK0 zG7 t l h;have hne:=zDe zG7 (by decide) t;have hd:t.getD l ([],[])=t.getD l default:=rfl;rw[hd];generalize t.getD l Ab=x at*;refine zF zAx mixed Tryz.func165 rfl<|vAu<|zA<|vA<|ve (True/\0<1)<|vF ((l:Int)>=(Ad t:Int))<|vK<|vA<|vr 4 (True/\0<1/\ix (l:Int) (Ad t:Int) (A0 lvC t≠[]))<|vs 13 (A7<|Af (AB (l:Int)*2)<|A0 lvC t) (A7 (AH (zG<|BJ x) (Ad<|BJ x)::AH (Ak (λ(c:Nat)=>iD (c:Int))<|A1 x) (Ad<|A1 x)::A0 lvC (Af (l+1) t)))<|ve (True/\0<Ad (AH (zG<|BJ x) (Ad<|BJ x)::AH (Ak (λ(c:Nat)=>iD (c:Int))<|A1 x) (Ad<|A1 x)::A0 lvC (Af (l+1) t)))<|zE<|vret (True)<|.inr rfl
 rw[AW,AU h];refine zF zAx mixed Tryz.func165 rfl<|vAu<|zA<|vA<|ve (True/\0<1)<|vT ((l:Int)>=(Ad t:Int))<|vAe<|zE<|zH<|vret (True)<|.inr rfl
section
variable(t:Tri)(l p e:Int)(ab:List D)(s:Int)(hab:ab.length = 64)(hno:Nor ab)
def onV(l p e:Int):Bool:=decide (0<l)&&decide (p<e)
theorem zEq:Acts As 181 [.own 0 0] [itB t l p e ab s] [] (bD (onV l p e)) [itB t l p e ab s]:=by
 unfold onV;by_cases h:0<l
 ·refine zQ zJl mixed Tryz.func181 rfl (zJa rfl)<|vAu<|zA<|vd [0,1,2,3,4,5,6,7,8,9,10,11,12,13,15,16,17,18,14,19,20,21,22]<|vew [] [(9,Ac)] (ai_ (0<Ad (Af 1<|AF<|itB t l p e ab s)/\decide (l>(0:Int))=Ac/\True/\True/\True/\True/\0<Ad (Af 2<|AF<|itB t l p e ab s)/\0<Ad (Af 3<|AF<|itB t l p e ab s)))<|zE<|zN (True) [Aj<|AQ<|decide (p<e)] (.inr rfl) ?_;rw[decide_eq_true h,BK];exact⟨by kernel_rfl,by kernel_rfl⟩
 refine zQ zJl mixed Tryz.func181 rfl (zJa rfl)<|vAu<|zA<|vd [0,1,2,3,4,5,6,7,8,9,10,11,12,13,15,16,17,18,14,19,20,21,22]<|vew [] [(9,Aa)] (ai_ (0<Ad (Af 1<|AF<|itB t l p e ab s)/\decide (l>(0:Int))=Aa))<|zE<|zN (True) [Aj<|AQ Aa] (.inr rfl) ?_;rw[decide_eq_false h,Bool.false_and];exact⟨by kernel_rfl,by kernel_rfl⟩
include hab in
theorem steps_a:Acts As 147 [.own 0 0] [itB t l p e ab s] [] (iD s) [itB t l p e ab s]:=by
 have h1:(ab++[iD s]).drop 64=[iD s]:=List.drop_left' hab;refine zQ zJl mixed Tryz.func147 rfl (zJa rfl)<|vAu<|zA<|vAe<|vf<|vK<|vA<|vr 4 (True/\0<Ad (Af 68<|AF<|itB t l p e ab s))<|vs 8 (AC (Af 68<|AF<|itB t l p e ab s) Uk) (iD s) (hd:=by simp(disch:=omega) only[List.drop_succ_cons,List.headD_cons,h1])<|veT<|zE<|zN (True) [Aj<|Bc A2 s] (.inr rfl) ?_;exact⟨by kernel_rfl,by kernel_rfl⟩
theorem next_a(hp:-9223372036854775808<=p/\p<9223372036854775807):Acts As 168 [.own 0 0] [itB t l p e ab s] [] (bD (onV l p e&&onV l (p+1) e)) [itB t l (if onV l p e then p+1 else p) e ab s]:=by
 have h1:=zEq t l p e ab s;have h2:=zEq t l (p+1) e ab s;cases ho:onV l p e with
 |false=>
  rw[ho]at h1;rw[Bool.false_and,if_neg (by decide)];refine zQ zJl mixed Tryz.func168 rfl (zJa rfl)<|vAu<|zA<|vA<|vrT 1<|vnt [itB t l p e ab s]<|zZ [] [] [Ae 0 0] [Ae 0 0] (AG _) (by exact h1) ?_;refine v0s<|veT<|vt<|vAe<|zE<|zH<|zN (True) [Aj<|AQ Aa] (.inr rfl) ?_;exact⟨by kernel_rfl,by kernel_rfl⟩
 |true=>
  rw[ho]at h1;rw[BK,if_pos rfl];refine zQ zJl mixed Tryz.func168 rfl (zJa rfl)<|vAu<|zA<|vA<|vrT 1<|vnt [itB t l p e ab s]<|zZ [] [] [Ae 0 0] [Ae 0 0] (AG _) (by exact h1) ?_;refine v0s<|veT<|vf<|vK<|vA<|ve (ai_ (0<Ad (Af 2<|itC t l p e ab s)/\i6 (p+(1:Int))/\True/\True/\Aa=Aa/\Ac=Ac/\1=1/\3<=Ad (itC t l p e ab s)))<|vA<|vrT 1<|vnt [Ah (triC t::iD l::iD (p+(1:Int))::iD e::(ab++[iD s])) 250 0 Aa Aa Al]<|zZ [] [] [Ae 0 0] [Ae 0 0] (AG _) (by exact h2) ?_;refine v0s<|veT<|zE<|zN (True) [Aj<|AQ<|onV l (p+(1:Int)) e] (.inr rfl) ?_;exact⟨by kernel_rfl,by kernel_rfl⟩
abbrev zCw(t:Tri)(k:Nat):List Va:=(t.getD k Ab).1
include hno in
theorem value_a(k:Nat)(q:Nat)(hk:k<t.length)(hq:q<(zCw t k).length)(h1:k<=1000000):Acts As 184 [.own 0 0,iD (q:Nat)] [itB t (k+1:Nat) p e ab s] [] (.agg (vaC ((zCw t k).getD q Ab))) [itB t (k+1:Nat) p e ab s]:=by
 have hg2:=zK0 zG7 t k hk;have hne:=zDe zG7 (by decide) t;unfold zCw at hq⊢;generalize t.getD k Ab=x at*;obtain⟨ws,fs⟩:=x;simp only at hq⊢;have hx:=zB5 ws q hq;have hnv:=zE4 ws;have hlv:3<=((zG ws).drop (q*3)).length:=zC3 _ _ (h:=hq);have e1:((k+1:Nat):Int)-1=(k:Int):=by omega
 have key:Acts As 184 [.own 0 0,iD (q:Nat)] [itB t (k+1:Nat) p e ab s] [] (.agg (vaC (ws.getD q Ab))) [itB t (k+1:Nat) p e ab s,⟨vaC (ws.getD q Ab),64,0,Aa,Aa, .plain⟩]:=by
  refine zQ zJl mixed Tryz.func184 rfl (zJa rfl)<|vAu<|zA<|vd [0,1,2,3,5,6,7,13,4,8,9,10,11,12,14,15,16]<|vr 11 (aj_ (0<Ad (Af 0<|AF<|itB t (↑(k+1):Int) p e ab s)/\0<Ad (Af 1<|AF<|itB t (↑(k+1):Int) p e ab s)/\i6 ((↑(k+1):Int)-(1:Int))))<|vs 14 (iD ((↑(k+1):Int)-(1:Int))) (iD (k:Int))<|vr 1 (ix (k:Int) (Ad t:Int) (A0 lvC t≠[]))<|vs 15 (A7<|Af (AB (k:Int)*2)<|A0 lvC t) (A7 (AH (zG ws) (Ad ws)::AH (Ak (λ(c:Nat)=>iD (c:Int)) fs) (Ad fs)::A0 lvC (Af (k+1) t)))<|vr 4 (True/\0<Ad (AH (zG ws) (Ad ws)::AH (Ak (λ(c:Nat)=>iD (c:Int)) fs) (Ad fs)::A0 lvC (Af (k+1) t))/\ix (q:Int) (Ad ws:Int) (zG ws≠[])/\3<=Ad (Af (q*3)<|zG ws))<|vs 20 (Am<|AK 3<|Af (q*3)<|zG ws) (Am<|vaC<|AE ws q Ab)<|ve (Aa=Aa/\Ac=Ac/\3=3/\3<=3)<|zE<|zN (3<=3) [Am [Aj<|Bc A2<|Ap<|AE ws q Ab,Aj<|Bc A2<|Aq<|AE ws q Ab,Aj<|Ao<|bs<|Ar<|AE ws q Ab]] (.inr rfl) ?_ (hc:=by omega);exact⟨by kernel_rfl,by kernel_rfl⟩
 exact key.cut 1 (by simp) (zMn hno _ _ (refs_va _ _))
include hab hno in
theorem less_a(k:Nat)(q:Nat)(v:Va)(hk:k<t.length)(hq:q<(zCw t k).length)(h1:k<=1000000)(hs:-9223372036854775808<=s/\s<9223372036854775807):Acts As 188 [.own 0 0,iD (q:Nat), .agg (vaC v)] [itB t (k+1:Nat) p e ab s] [] (bD (decide (vcmp ((zCw t k).getD q Ab) v<0))) [itB t (k+1:Nat) p e ab (s+1)]:=by
 have hd:(ab++[iD s]).drop 64=[iD s]:=List.drop_left' hab;have hst:(ab++[iD s]).set 64 (iD (s+1))=ab++[iD (s+1)]:=by rw[List.set_append,if_neg (by omega),hab];rfl
 have hva:=(value_a t p e ab (s+1) hno k q hk hq h1).atG (args:=[.own 0 0,iD (q:Nat)]) (st:=[itB t (k+1:Nat) p e ab (s+1),⟨vaC v,64,0,Aa,Aa, .plain⟩]) 0 rfl (zA8 hno) (zA8 hno) (zCl [.int .i64 (q:Nat)]);have hcm:=zDt ((zCw t k).getD q Ab) v;generalize (zCw t k).getD q Ab=u at*;have key:Acts As 188 [.own 0 0,iD (q:Nat), .agg (vaC v)] [itB t (k+1:Nat) p e ab s] [] (bD (decide (vcmp u v<0))) [itB t (k+1:Nat) p e ab (s+1),⟨vaC v,64,0,Aa,Aa, .plain⟩]:=by
  refine zQ zJl mixed Tryz.func188 rfl (zJa rfl)<|vAu<|vA<|vr 4 (True/\0<Ad (Af 68<|AF<|itB t (↑(k+1):Int) p e ab s))<|vs 10 (AC (Af 68<|AF<|itB t (↑(k+1):Int) p e ab s) Uk) (iD s) (hd:=by simp(disch:=omega) only[List.drop_succ_cons,List.headD_cons,hd])<|vr 4 (i6 (s+(1:Int))/\True/\Bk.fz (itB t (↑(k+1):Int) p e ab s)=Aa/\Ac=Ac/\1=1/\69<=Ad (AF<|itB t (↑(k+1):Int) p e ab s))<|vb 0 (Ah (setAt (AF<|itB t (↑(k+1):Int) p e ab s) 68<|cellsOf<|iD (s+(1:Int))) (Bk.ty<|itB t (↑(k+1):Int) p e ab s) (Bk.sz<|itB t (↑(k+1):Int) p e ab s) Aa Aa<|Bk.kd<|itB t (↑(k+1):Int) p e ab s) (Ah (triC t::iD (↑(k+1):Int)::iD p::iD e::(ab++[iD (s+(1:Int))])) (250:TypeId) 0 Aa Aa Al) (hd:=by simp(disch:=omega) only[cellsOf,setAt,List.set_cons_succ,hst])<|veT<|zA<|zA6 [0,1,3] [(2,[(3,100000)],[4,5,6])] rfl ?_;refine vr 3 (3<=3)<|vnil<|zBy rfl rfl<|vnt [Ah (triC t::iD ↑(k+1)::iD p::iD e::(ab++[iD (s+(1:Int))])) (250:TypeId) 0 Aa Aa Al,Ah [iD<|Ap v,iD<|Aq v,Aj<|Ao<|bs<|Ar v] 64 0 Aa Aa Al]<|zZ [] [] [Ae 0 0,iD q] [Ae 0 0,iD q] (AG _) (by exact hva) ?_;refine vnil<|zEg (C:=3<=3/\Ai (Am [iD (Ap v),iD (Aq v),Aj (Ao (bs (Ar v)))])=Ai (Am (AK 3 [iD (Ap v),iD (Aq v),Aj (Ao (bs (Ar v)))]))) ⟨(by omega),(by kernel_rfl)⟩ ?_;refine v0s<|vc hcm<|vrT 2<|vnil<|zBv<|vN<|zE<|zN (True) [Aj<|AQ<|decide (vcmp u v<0)] (.inr rfl) ?_;exact⟨by kernel_rfl,by kernel_rfl⟩
 exact key.cut 1 (by simp) (zMn hno _ _ (by simp only[refs]))
include hno in
theorem key_a(k:Nat)(q:Nat)(hk:k<t.length)(hq:q<(zCw t k).length)(h1:k<=1000000)(hqe:(q:Int)<e):Acts As 169 [.own 0 0] [itB t (k+1:Nat) (q:Nat) e ab s] [] (.tup [.agg (vaC ((zCw t k).getD q Ab)),bD Ac]) [itB t (k+1:Nat) (q:Nat) e ab s]:=by
 have ho:onV (k+1:Nat) (q:Nat) e=true:=by
  grind [onV]
 have h2:=(zEq t (k+1:Nat) (q:Nat) e ab s).atG (args:=[.own 0 0]) (st:=[itB t (k+1:Nat) (q:Nat) e ab s,⟨vaC ⟨0,0,[]⟩,64,0,Aa,Aa, .plain⟩]) 0 rfl (zA8 hno) (zA8 hno) (zCl []);rw[ho]at h2;have h3:=(value_a t (q:Nat) e ab s hno k q hk hq h1).atG (args:=[.own 0 0,iD (q:Nat)]) (st:=[itB t (k+1:Nat) (q:Nat) e ab s,⟨vaC ⟨0,0,[]⟩,64,0,Aa,Aa, .plain⟩]) 0 rfl (zA8 hno) (zA8 hno) (zCl [.int .i64 (q:Nat)]);generalize (zCw t k).getD q Ab=u at*;have key:Acts As 169 [.own 0 0] [itB t (k+1:Nat) (q:Nat) e ab s] [] (.tup [.agg (vaC u),bD Ac]) [itB t (k+1:Nat) (q:Nat) e ab s,⟨vaC u,64,0,Aa,Aa, .plain⟩]:=by
  refine zQ zJl mixed Tryz.func169 rfl (zJa rfl)<|vAu<|zA<|vA<|vrT 1<|vnt [itB t (↑(k+1):Int) (q:Int) e ab s,Ah [iD 0,iD 0,Aj<|Ao (Cf #[])] 64 0 Aa Aa Al]<|zZ [] [] [Ae 0 0] [Ae 0 0] (AG _) (by exact h2) ?_;refine v0s<|veT<|vf<|vK<|vA<|vr 6 (ai_ (0<Ad (Af 2<|itC t (↑(k+1):Int) (q:Int) e ab s)))<|vnt [Ah (itC t (↑(k+1):Int) (q:Int) e ab s) 250 0 Aa Aa Al,Ah [iD<|Ap<|Va.mk (0:Int) (0:Int) [],iD<|Aq<|Va.mk (0:Int) (0:Int) [],Aj<|Ao<|bs<|Ar<|Va.mk (0:Int) (0:Int) []] 64 0 Aa Aa Al]<|zZ [] [] [Ae 0 0,iD q] [Ae 0 0,iD q] (AG _) (by exact h3) ?_;refine v0s<|ve (Aa=Aa/\Ac=Ac/\3=3/\3<=3)<|zE<|zN (3<=3) [Am [Aj<|Bc A2<|Ap u,Aj<|Bc A2<|Aq u,Aj<|Ao<|bs<|Ar u],Aj<|AQ Ac] (.inr rfl) ?_ (hc:=by omega);exact⟨by kernel_rfl,by kernel_rfl⟩
 exact key.cut 1 (by simp) (zMn hno _ _ (by simp only[refs,zX,AL]))
abbrev q5_:=Aj (Ao (Cf #[]))
include hno in
theorem keyNo_a(l:Int)(ho:onV l p e=Aa):Acts As 169 [.own 0 0] [itB t l p e ab s] [] (.tup [.agg (vaC ⟨0,0,[]⟩),bD Aa]) [itB t l p e ab s]:=by
 have h2:=(zEq t l p e ab s).atG (args:=[.own 0 0]) (st:=[itB t l p e ab s,⟨vaC ⟨0,0,[]⟩,64,0,Aa,Aa, .plain⟩]) 0 rfl (zA8 hno) (zA8 hno) (zCl []);rw[ho]at h2;have key:Acts As 169 [.own 0 0] [itB t l p e ab s] [] (.tup [.agg (vaC ⟨0,0,[]⟩),bD Aa]) [itB t l p e ab s,⟨vaC ⟨0,0,[]⟩,64,0,Aa,Aa, .plain⟩]:=by
  refine zQ zJl mixed Tryz.func169 rfl (zJa rfl)<|vAu<|zA<|vA<|vrT 1<|vnt [itB t l p e ab s,Ah [iD 0,iD 0,Aj<|Ao (Cf #[])] 64 0 Aa Aa Al]<|zZ [] [] [Ae 0 0] [Ae 0 0] (AG _) (by exact h2) ?_;refine v0s<|veT<|vt<|vA<|ve ((True/\Ac=Ac)/\Aa=Aa/\Ac=Ac/\3=3/\3<=3)<|zE<|zH<|zN (3<=3) [Am [q2_,q2_,q5_],Aj<|AQ Aa] (.inr rfl) ?_ (hc:=by omega);exact⟨by kernel_rfl,by kernel_rfl⟩
 exact key.cut 1 (by simp) (zMn hno _ _ (by simp only[refs,zX,AL]))
abbrev frC(fr:List (Int×Int)):List D:=fr.flatMap λx=>[iD x.1,iD x.2]
theorem zBd(fr:List (Int×Int)):Nor (frC fr):=λj=>by
 induction fr with
 |nil=>simp[zX]
 |cons x fr ih=>simp only[frC,Bb,zL1,zX,refs,AL,BF]at ih⊢;exact ih
theorem zMw(fr:List (Int×Int)):(frC fr).length=fr.length*2:=zDn (c:=2) (λ_=>rfl) fr
theorem fr_len(fr:List (Int×Int))(x a b c d:D)(k:Nat)(hk:k<fr.length):2<=(Af (4+k*2) (a::b::c::d::(frC fr++[x]))).length:=by
 grind [zMw,fr,BS,only,AZ,AD,BD]
theorem fr_read(fr:List (Int×Int))(x a b c d:D)(k:Nat)(hk:k<fr.length):(Af (4+k*2) (a::b::c::d::(frC fr++[x]))).take 2=[iD (fr.getD k (0,0)).1,iD (fr.getD k (0,0)).2]:=by
 have hg:=zC0 (g:=λx:Int×Int=>[iD x.1,iD x.2]) (c:=2) (λ_=>rfl) fr k hk;have hl:=zMw fr;grind
theorem up_a(fr:List (Int×Int))(hf:fr.length=32)(k:Nat)(hk:k<32):Acts As 170 [.own 0 0] [itB t (k+1:Nat) p e (frC fr) s] [] (bD Ac) [itB t (k:Nat) (fr.getD k (0,0)).1 (fr.getD k (0,0)).2 (frC fr) s]:=by
 have e1:((k+1:Nat):Int)-1=(k:Int):=by omega
 have hrd:=λa b c d=>fr_read fr (iD s) a b c d k (by omega);have hln:=λa b c d=>fr_len fr (iD s) a b c d k (by omega);refine zQ zJl mixed Tryz.func170 rfl (zJa rfl)<|vAu<|zA<|vA<|ve (ai_ (0<Ad (Af 1<|AF<|itB t (↑(k+1):Int) p e (frC fr) s)/\True))<|vEf ((↑(k+1):Int)) ((0:Int))<|vK<|vA<|vr 5 (True/\0<Ad (Af 1<|AF<|itB t (↑(k+1):Int) p e (frC fr) s)/\i6 ((↑(k+1):Int)-(1:Int)))<|vs 16 (iD ((↑(k+1):Int)-(1:Int))) (iD (k:Int))<|ve (True/\Bk.fz (itB t (↑(k+1):Int) p e (frC fr) s)=Aa/\Ac=Ac/\1=1/\2<=Ad (AF<|itB t (↑(k+1):Int) p e (frC fr) s))<|zA<|vd [0,1,2,3,4,6,7,5,8,9,10,11,12]<|vr 10 (ai_ (0<Ad (Af 1 (triC t::iD (k:Int)::iD p::iD e::(frC fr++[iD s])))/\((0:Int)<=(k:Int)/\(k:Int)<(↑(32:Nat):Int))/\2<=Ad (Af (4+k*2) (triC t::iD (k:Int)::iD p::iD e::(frC fr++[iD s]))))) (vs 28 (Am<|AK 2<|Af (4+k*2) (triC t::iD (k:Int)::iD p::iD e::(frC fr++[iD s]))) (Am [iD<|BJ<|AE fr k ((0:Int),(0:Int)),iD<|A1<|AE fr k ((0:Int),(0:Int))])<|ve (True/\Bk.fz (Ah (triC t::iD (k:Int)::iD p::iD e::(frC fr++[iD s])) 250 0 Aa Aa Al)=Aa/\Ac=Ac/\2=2/\4<=Ad (triC t::iD (k:Int)::iD p::iD e::(frC fr++[iD s])))<|vAe<|zE ?_) ⟨trivial,trivial,(lb (by kernel_rfl)),(by omega),(by exact hln _ _ _ _)⟩;refine zN (True) [Aj<|AQ Ac] (.inr rfl) ?_;exact⟨by kernel_rfl,by kernel_rfl⟩
end
theorem frC_set(tl:List D)(p e:Int):∀(fr:List (Int×Int))(k:Nat),k<fr.length->((frC fr++tl).set (k*2) (iD p)).set (k*2+1) (iD e)=frC (fr.set k (p,e))++tl
 |[],k,h=>by simp at h
 |x::fr,0,_=>rfl
 |x::fr,k+1,h=>by
  have ih:=frC_set tl p e fr k (by simpa using h);grind
theorem fr_set(fr:List (Int×Int))(x a b c d:D)(p e:Int)(k:Nat)(hk:k<fr.length):setAt (a::b::c::d::(frC fr++[x])) (4+k*2) [iD p,iD e]=a::b::c::d::(frC (fr.set k (p,e))++[x]):=by
 have h:=frC_set [x] p e fr k hk;show((a::b::c::d::(frC fr++[x])).set (4+k*2) (iD p)).set (4+k*2+1) (iD e)=_;grind
section
variable(t:Tri)(p e s:Int)
theorem open0_a(fr:List (Int×Int))(hf:fr.length=32)(ht:0<t.length)(hn:0<(zCw t 0).length):Acts As 166 [.own 0 0] [itB t 0 p e (frC fr) s] [] (bD Ac) [itB t 1 0 ((zCw t 0).length:Nat) (frC (fr.set 0 (p,e))) s]:=by
 have hd:=depth_c t;have hs:Pure As 165 [.agg [triC t],iD (0:Nat)] [] (iD ((zCw t 0).length:Nat)):=size_c t 0;generalize (zCw t 0).length=n at*;obtain⟨x,fr,rfl⟩:∃x f,fr=x::f:=by cases fr with|nil=>simp at hf|cons x f=>exact⟨x,f,rfl⟩
 have key:Acts As 166 [.own 0 0] [itB t 0 p e (frC (x::fr)) s] [] (bD Ac) [itB t 1 0 (n:Nat) (frC ((p,e)::fr)) s,⟨[iD 0,iD (n:Nat)],247,0,Aa,Aa, .plain⟩]:=by
  refine zQ zJl mixed Tryz.func166 rfl (zJa rfl)<|vAu<|zA<|zA<|vd [0,1,2,3,4,5,6,7,8,9,10,11,12,13,14,15,16,17,19,20,21,18,22,23,24,25]<|vr 23 (ai_ (0<Ad (Af 1<|AF<|itB t (0:Int) p e (frC (x::fr)) s)/\True/\True/\0<Ad (Af 1<|AF<|itB t (0:Int) p e (frC (x::fr)) s)/\1<=Ad (Af 0<|AF<|itB t (0:Int) p e (frC (x::fr)) s)))<|vc (hd)<|veT<|vF ((0:Int)>=(Ad t:Int))<|vK<|vA<|vr 4 (True/\1<=Ad (Af 0<|AF<|itB t (0:Int) p e (frC (x::fr)) s))<|vc (hs)<|ve (ah_)<|zA<|vA<|ve (True/\0<Ad (Af 1<|AF<|itB t (0:Int) p e (frC (x::fr)) s))<|vf<|vK<|zA<|vA<|ve (ak_)<|vEf ((0:Int)) ((n:Int))<|vK<|zA<|vd [0,1,2,3,5,6,7,9,10,4,8,11,12]<|ve (aj_ (0<Ad (Af 1<|AF<|itB t (0:Int) p e (frC (x::fr)) s)/\2<=Ad (Af 2<|AF<|itB t (0:Int) p e (frC (x::fr)) s)/\((0:Int)<=(0:Int)/\(0:Int)<(↑(32:Nat):Int))/\Bk.fz (itB t (0:Int) p e (frC (x::fr)) s)=Aa/\Ac=Ac/\2=2/\6<=Ad (AF<|itB t (0:Int) p e (frC (x::fr)) s)))<|vA<|ve (2<=2/\True/\Bk.fz (Ah (triC t::iD 0::iD p::iD e::AT (AT (frC (x::fr)++[iD s]) 0<|iD p) 1 (iD e)) 250 0 Aa Aa Al)=Aa/\Ac=Ac/\2=2/\4<=Ad (triC t::iD 0::iD p::iD e::AT (AT (frC (x::fr)++[iD s]) 0<|iD p) 1 (iD e)))<|vA<|ve (True/\0<Ad (Af 1 (triC t::iD 0::iD 0::iD (n:Int)::AT (AT (frC (x::fr)++[iD s]) 0<|iD p) 1 (iD e)))/\i6 ((0:Int)+(1:Int))/\True/\Bk.fz (Ah (triC t::iD 0::iD 0::iD (n:Int)::AT (AT (frC (x::fr)++[iD s]) 0<|iD p) 1 (iD e)) 250 0 Aa Aa Al)=Aa/\Ac=Ac/\1=1/\2<=Ad (triC t::iD 0::iD 0::iD (n:Int)::AT (AT (frC (x::fr)++[iD s]) 0<|iD p) 1 (iD e)))<|vAe<|zE<|zN (True) [Aj<|AQ Ac] (.inr rfl) ?_;exact⟨by kernel_rfl,by kernel_rfl⟩
 exact key.cut 1 (by simp) (zMn (zBd _) _ _ (by simp only[refs]))
theorem open_a(fr:List (Int×Int))(hf:fr.length=32)(k q:Nat)(hk:k+1<t.length)(hk2:k+1<32)(hq:q+1<(t.getD k Ab).2.length)(hqe:(q:Int)<e)(hb:∀c∈(t.getD k Ab).2,c<=1000000000)(hl:(t.getD k Ab).2.length<=1000000000)(hne:(t.getD k Ab).2.getD q 0≠(t.getD k Ab).2.getD (q+1) 0):Acts As 166 [.own 0 0] [itB t (k+1:Nat) (q:Nat) e (frC fr) s] [] (bD Ac) [itB t (k+1+1:Nat) ((t.getD k Ab).2.getD q 0:Nat) ((t.getD k Ab).2.getD (q+1) 0:Nat) (frC (fr.set (k+1) ((q:Nat),e))) s]:=by
 have hd:=depth_c t;obtain⟨n0,hs⟩:∃n0:Nat,Pure As 165 [.agg [triC t],iD (0:Nat)] [] (iD (n0:Nat)):=⟨_,size_c t 0⟩;have hov:=zEq t (k+1:Nat) (q:Nat) e (frC fr) s;have ho:onV (k+1:Nat) (q:Nat) e=true:=by
  grind [onV]
 rw[ho]at hov;have hset:=λa b c d=>fr_set fr (iD s) a b c d (q:Nat) e (k+1) (by omega);have hg2:=zK0 zG7 t k (by omega);have hnt:=zDe zG7 (by decide) t;generalize t.getD k Ab=x at*;obtain⟨ws,fs⟩:=x;simp only at hq hb hl hne⊢;have ha:=zJ4 fs q (by omega);have hc:=zJ4 fs (q+1) (by omega);have hnf:(fs.map λc=>iD (c:Nat))≠[]:=zAc;have e1:((k+1:Nat):Int)-1=(k:Int):=by omega
 have hln:4+(k+1)*2+2<=(itC t (k+1:Nat) (q:Nat) e (frC fr) s).length:=by
  grind [zMw,fr,only,AZ,AD,BD]
 generalize hA:fs.getD q 0=A at*;generalize hC:fs.getD (q+1) 0=C at*;have key:Acts As 166 [.own 0 0] [itB t (k+1:Nat) (q:Nat) e (frC fr) s] [] (bD Ac) [itB t (k+1+1:Nat) (A:Nat) (C:Nat) (frC (fr.set (k+1) ((q:Nat),e))) s,⟨[iD (A:Nat),iD (C:Nat)],247,0,Aa,Aa, .plain⟩]:=by
  refine zQ zJl mixed Tryz.func166 rfl (zJa rfl)<|vAu<|zA<|zA<|vd [0,1,2,3,4,5,6,7,8,9,10,11,12,13,14,15,16,17,19,20,21,18,22,23,24,25]<|vw 10 [] [(8,Ac)] (ai_ (0<Ad (Af 1<|AF<|itB t (↑(k+1):Int) (q:Int) e (frC fr) s)/\decide ((↑(k+1):Int)>(0:Int))=Ac))<|vnt [itB t (↑(k+1):Int) (q:Int) e (frC fr) s]<|zZ [] [] [Ae 0 0] [Ae 0 0] (AG _) (by exact hov) ?_;refine v0s<|vr 12 (ai_ (0<Ad (Af 1<|itC t (↑(k+1):Int) (q:Int) e (frC fr) s)/\1<=Ad (Af 0<|itC t (↑(k+1):Int) (q:Int) e (frC fr) s)))<|vc hd<|veT<|vF ((↑(k+1):Int)>=(Ad t:Int))<|vK<|vA<|vr 4 (True/\1<=Ad (Af 0<|itC t (↑(k+1):Int) (q:Int) e (frC fr) s))<|vc hs<|ve (ah_)<|zA<|vA<|ve (True/\0<Ad (Af 1<|itC t (↑(k+1):Int) (q:Int) e (frC fr) s))<|vT ((↑(k+1):Int)>(0:Int))<|zA<|vd [0,1,2,3,5,6,7,4,8,9,10,11,12,13]<|vr 10 (aj_ (0<Ad (Af 0<|itC t (↑(k+1):Int) (q:Int) e (frC fr) s)/\0<Ad (Af 1<|itC t (↑(k+1):Int) (q:Int) e (frC fr) s)/\i6 (↑(k+1)-1)))<|vs 51 (iD (↑(k+1)-1)) (iD k)<|vr 1 (ix ↑k ↑(Ad t) (A0 lvC t≠[]))<|vs 52 (A7<|Af (AB (k:Int)*2)<|A0 lvC t) (A7 (AH (zG ws) (Ad ws)::AH (Ak (λ(c:Nat)=>iD c) fs) (Ad fs)::A0 lvC (Af (k+1) t)))<|ve (True/\0<Ad (AH (Ak (λ(c:Nat)=>iD c) fs) (Ad fs)::A0 lvC (Af (k+1) t)))<|vd [0,1,2,3,4,8,9,10,11,12,5,6,7,13,14,15,16,17,18]<|vr 12 (True/\True/\True/\True/\0<Ad (Af 2<|itC t (↑(k+1):Int) (q:Int) e (frC fr) s)/\ix ↑q ↑(Ad fs) (Ak (λ(c:Nat)=>iD c) fs≠[]))<|vp 61 q (Ak (λ(c:Nat)=>iD c) fs)<|vr 1 (0<Ad (Af q<|Ak (λ(c:Nat)=>iD c) fs))<|vsh 62 ha<|vr 3 (0<Ad (Af 2<|itC t (↑(k+1):Int) (q:Int) e (frC fr) s)/\i6 (↑q+1)/\ix ↑(q+1) ↑(Ad fs) (Ak (λ(c:Nat)=>iD c) fs≠[]))<|vp 70 (q+1) (Ak (λ(c:Nat)=>iD c) fs)<|vr 1 (0<Ad (Af (q+1)<|Ak (λ(c:Nat)=>iD c) fs))<|vsh 71 hc<|ve (ah_)<|zA<|vA<|ve (ak_)<|vEf ((A:Int)) ((C:Int))<|zT<|zC ?_;refine zCi<|zA<|vd [0,1,2,3,5,6,7,9,10,4,8,11,12]<|vr 13 (aj_ (0<Ad (Af 1<|itC t (↑(k+1):Int) (q:Int) e (frC fr) s)/\2<=Ad (Af 2<|itC t (↑(k+1):Int) (q:Int) e (frC fr) s)/\((0:Int)<=(↑(k+1):Int)/\(↑(k+1):Int)<(↑(32:Nat):Int))/\Aa=Aa/\Ac=Ac/\2=2/\4+(k+1)*2+2<=Ad (itC t (↑(k+1):Int) (q:Int) e (frC fr) s)))<|vb 0 (Ah (setAt (itC t (↑(k+1):Int) (q:Int) e (frC fr) s) (4+(k+1)*2)<|cellsOf<|Am [iD q,iD e]) 250 0 Aa Aa Al) (Ah (triC t::iD ↑(k+1)::iD ↑q::iD e::(frC (AT fr (k+1) ((q:Int),e))++[iD s])) 250 0 Aa Aa Al)<|veT<|vA<|ve (2<=2/\True/\Aa=Aa/\Ac=Ac/\2=2/\4<=Ad (triC t::iD ↑(k+1)::iD ↑q::iD e::(frC (AT fr (k+1) ((q:Int),e))++[iD s])))<|vA<|ve (True/\0<Ad (Af 1 (triC t::iD ↑(k+1)::iD ↑A::iD ↑C::(frC (AT fr (k+1) ((q:Int),e))++[iD s])))/\i6 (↑(k+1)+1)/\True/\Aa=Aa/\Ac=Ac/\1=1/\2<=Ad (triC t::iD ↑(k+1)::iD ↑A::iD ↑C::(frC (AT fr (k+1) ((q:Int),e))++[iD s])))<|vAe<|zE<|zN (True) [Aj<|AQ Ac] (.inr rfl) ?_;exact⟨by kernel_rfl,by kernel_rfl⟩
 exact key.cut 1 (by simp) (zMn (zBd _) _ _ (by simp only[refs]))
end
end
def gal(L:Nat->Bool)(e:Nat):Nat->Nat->Nat->Nat->Nat×Nat×Nat
 |0,low,step,s=>(low,step,s)
 |n+1,low,step,s=>if low+step<e then(if L (low+step)then gal L e n (low+step) (step*2) (s+1)else(low,step,s+1))else(low,step,s)
def bis(L:Nat->Bool):Nat->Nat->Nat->Nat->Nat×Nat
 |0,_,high,s=>(high,s)
 |n+1,low,high,s=>if 1<high-low then(if L (low+(high-low)/2)then bis L n (low+(high-low)/2) high (s+1)else bis L n low (low+(high-low)/2) (s+1))else(high,s)
def sek(L:Nat->Bool)(q e s:Nat):Nat×Nat:=
 if L q then
  let g:=gal L e e q 1 (s+1)
  let h:=min (g.1+g.2.1) e
  bis L e g.1 h g.2.2
 else(q,s+1)
def Mon(L:Nat->Bool)(q e:Nat):Prop:=∀i j,q<=i->i<=j->j<e->L j=Ac->L i=Ac
def Fst(L:Nat->Bool)(q e h:Nat):Prop:=q<=h/\h<=e/\(∀i,q<=i->i<h->L i=Ac)/\(h<e->L h=Aa)
theorem zYq{L:Nat->Bool}{q e:Nat}(hm:Mon L q e):∀n low step s,q<=low->low<e->1<=step->e-low<=n->L low=Ac->
  q<=(gal L e n low step s).1/\(gal L e n low step s).1<e/\1<=(gal L e n low step s).2.1/\L (gal L e n low step s).1=Ac/\((gal L e n low step s).1+(gal L e n low step s).2.1<e->L ((gal L e n low step s).1+(gal L e n low step s).2.1)=Aa)
   /\s<=(gal L e n low step s).2.2/\(gal L e n low step s).2.2+(e-(gal L e n low step s).1)<=s+(e-low)+1
 |0,low,step,s,h1,h2,h3,h4,h5=>by omega
 | n+1,low,step,s,h1,h2,h3,h4,h5=>by
  unfold gal;by_cases hc:low+step<e
  ·rw[if_pos hc];cases hl:L (low+step)with
   |true=>
    rw[if_pos rfl]
    have:=zYq hm n (low+step) (step*2) (s+1) (by omega) hc (by omega) (by omega) hl
    refine⟨this.1,this.2.1,this.2.2.1,this.2.2.2.1,this.2.2.2.2.1,?_,?_⟩<;>omega
   |false=>
    rw[if_neg (by decide)];exact⟨h1,h2,h3,h5,λ_=>hl,by show s<=s+1;omega,by show s+1+(e-low)<=_;omega⟩
  rw[if_neg hc];exact⟨h1,h2,h3,h5,λh=>absurd h hc,Au _,by show s+(e-low)<=_;omega⟩
theorem zQ9{L:Nat->Bool}{q e:Nat}(hm:Mon L q e):∀n low high s,q<=low->low<high->high<=e->high-low<=n+1->L low=Ac->(high<e->L high=Aa)->
  Fst L q e (bis L n low high s).1/\s<=(bis L n low high s).2/\(bis L n low high s).2<=s+(high-low)
 |0,low,high,s,h1,h2,h3,h4,h5,h6=>by
  obtain rfl:high=low+1:=by omega
  exact⟨⟨by show q<=low+1;omega,h3,λi hi hj=>hm i low hi (by have:i<low+1:=hj;omega) (by omega) h5,h6⟩,Au _,by show s<=_;omega⟩
 | n+1,low,high,s,h1,h2,h3,h4,h5,h6=>by
  unfold bis;by_cases hc:1<high-low
  ·rw[if_pos hc];have hlt:(high-low)/2<high-low:=Cg (by omega) (by omega);have hgt:1<=(high-low)/2:=by omega
   cases hl:L (low+(high-low)/2)with
   |true=>
    rw[if_pos rfl]
    have:=zQ9 hm n (low+(high-low)/2) high (s+1) (by omega) (by omega) h3 (by omega) hl h6
    refine⟨this.1,?_,?_⟩<;>omega
   |false=>
    rw[if_neg (by decide)]
    have:=zQ9 hm n low (low+(high-low)/2) (s+1) h1 (by omega) (by omega) (by omega) h5 (λ_=>hl)
    refine⟨this.1,?_,?_⟩<;>omega
  rw[if_neg hc];obtain rfl:high=low+1:=by omega
  exact⟨⟨by show q<=low+1;omega,h3,λi hi hj=>hm i low hi (by have:i<low+1:=hj;omega) (by omega) h5,h6⟩,Au _,by show s<=_;omega⟩
variable{s q:Nat}
theorem zXa{L:Nat->Bool}{e:Nat}(hm:Mon L q e)(hq:q<e):Fst L q e (sek L q e s).1/\s<=(sek L q e s).2/\(sek L q e s).2<=s+(e-q)+2:=by
 unfold sek;cases hl:L q with
 |false=>
  rw[if_neg (by decide)];exact⟨⟨Au _,by show q<=e;omega,λi h1 h2=>by have:i<q:=h2;omega,λ_=>hl⟩,by show s<=s+1;omega,by show s+1<=_;omega⟩
 | true=>
  rw[if_pos rfl];obtain⟨g1,g2,g3,g4,g5,g6,g7⟩:=zYq hm e q 1 (s+1) (Au _) hq (Au _) (by omega) hl;simp only;generalize gal L e e q 1 (s+1)=g at*
  have:=zQ9 hm e g.1 (min (g.1+g.2.1) e) g.2.2 g1 (by omega) (by omega) (by omega) g4 (λh=>by
   have e1:min (g.1+g.2.1) e=g.1+g.2.1:=by omega
   rw[e1]at h⊢;exact g5 h)
  refine⟨this.1,?_,?_⟩<;>omega
variable{k off:Nat}
section
open Go.RowKit
attribute [local irreducible] seqW awp zAd zAi zY Weak updS zAr retL Pure Acts rP setP setQ cP nP fr
set_option maxRecDepth 4096
theorem only_va(i:Int)(v:Va)(I:Im)(w:World)(β:Be)(vs:List Value)(h:RelT I w β [.own k off,iD i, .agg (vaC v)] vs):RelT I w (only β k) [.own 0 off,iD i, .agg (vaC v)] vs:=by
 simp_all [only,RelT,Rel,RelL,vaC]
theorem zKq:∀k:Nat,2<=k->Ti.keep k=false:=λk hk=>decide_eq_false (by omega)
section
variable(t:Tri)(ab:List D)(hab:ab.length = 64)(hno:Nor ab)
abbrev vlB(v:Va):Bk:=⟨vaC v,64,0,Aa,Aa, .plain⟩
abbrev lsV(t:Tri)(k:Nat)(v:Va)(i:Nat):Bool:=decide (vcmp ((zCw t k).getD i Ab) v<0)
include hab hno in
theorem seek_k(k q e s:Nat)(v:Va)(hk:k<t.length)(hq:q<e)(he:e<=(zCw t k).length)(he2:e<=1000000)(h1:k<=1000000)(hs:s<=100000000000000000)(hm:Mon (lsV t k v) q e):Acts As 183 [.own 0 0, .agg (vaC v)] [itB t (k+1:Nat) (q:Nat) (e:Nat) ab (s:Nat)] [] (bD (decide ((sek (lsV t k v) q e s).1<e))) [itB t (k+1:Nat) ((sek (lsV t k v) q e s).1:Nat) (e:Nat) ab ((sek (lsV t k v) q e s).2:Nat),vlB v]:=by
 have hL:∀i:Nat,i<e->∀s':Nat,s'<=2000000000000000000->Acts As 188 [.own 0 0,iD (i:Nat), .agg (vaC v)] [itB t (k+1:Nat) (q:Nat) (e:Nat) ab (s':Nat),vlB v] [] (bD (lsV t k v i)) [itB t (k+1:Nat) (q:Nat) (e:Nat) ab (s'+1:Nat),vlB v]:=λi hi s' h=>by
  have h2:=(less_a t (q:Nat) (e:Nat) ab (s':Nat) hab hno k i v hk (by omega) h1 (by omega)).atG (args:=[.own 0 0,iD (i:Nat), .agg (vaC v)]) (st:=[itB t (k+1:Nat) (q:Nat) (e:Nat) ab (s':Nat),vlB v]) 0 rfl (zA8 hno) (zA8 hno) (only_va i v);rw[zM9]at h2;exact h2
 have hov:=λ(p:Nat)(s':Nat)=>(zEq t (k+1:Nat) (p:Nat) (e:Nat) ab (s':Nat)).atG (args:=[.own 0 0]) (st:=[itB t (k+1:Nat) (p:Nat) (e:Nat) ab (s':Nat),vlB v]) 0 rfl (zA8 hno) (zA8 hno) (zCl []);have ho:∀p:Nat,onV (k+1:Nat) (p:Nat) (e:Nat)=decide (p<e):=λp=>by
  simp_all [onV,BK]
 simp only[ho]at hov;have hov0:=hov q s;rw[decide_eq_true hq]at hov0;have hl0:=hL q hq s (by omega);generalize hLL:lsV t k v=L at*;unfold sek;cases hb:L q with
 |false=>
  rw[hb]at hl0;rw[if_neg (by decide)];simp only;rw[decide_eq_true hq];refine zQ zJl mixed Tryz.func183 rfl (zJa rfl)<|vAu<|zA<|vA<|vrT 1<|vnt [itB t (↑(k+1):Int) (q:Int) (e:Int) ab (s:Int),Ah [iD<|Ap v,iD<|Aq v,Aj<|Ao<|bs<|Ar v] 64 0 Aa Aa Al]<|zZ [] [] [Ae 0 0] [Ae 0 0] (AG _) (by exact hov0) ?_;refine v0s<|veT<|vf<|vK<|zA<|zA<|vd [0,1,2,3,4,5,6,7,8]<|vr 7 (ai_ (0<Ad (Af 2<|itC t (↑(k+1):Int) (q:Int) (e:Int) ab (s:Int))/\3<=3))<|vnt [Ah (itC t (↑(k+1):Int) (q:Int) (e:Int) ab (s:Int)) 250 0 Aa Aa Al,Ah [iD<|Ap v,iD<|Aq v,Aj<|Ao<|bs<|Ar v] 64 0 Aa Aa Al]<|zZ [] [] [Ae 0 0,iD q,Am [iD<|Ap v,iD<|Aq v,Aj<|Ao<|bs<|Ar v]] [Ae 0 0,iD q,Am [iD<|Ap v,iD<|Aq v,Aj<|Ao<|bs<|Ar v]] (AG _) (by exact hl0) ?_;refine v0s<|veT<|vt<|vAe<|zE<|zH<|zN (True) [Aj<|AQ Ac] (.inr rfl) ?_;exact⟨by kernel_rfl,by kernel_rfl⟩
 | true=>
  rw[hb]at hl0;rw[if_pos rfl];simp only;generalize hG:gal L e e q 1 (s+1)=G;generalize hB:bis L e G.1 (min (G.1+G.2.1) e) G.2.2=B;refine zQ zJl mixed Tryz.func183 rfl (zJa rfl)<|vAu<|zA<|vA<|vrT 1<|vnt [itB t (↑(k+1):Int) (q:Int) (e:Int) ab (s:Int),Ah [iD<|Ap v,iD<|Aq v,Aj<|Ao<|bs<|Ar v] 64 0 Aa Aa Al]<|zZ [] [] [Ae 0 0] [Ae 0 0] (AG _) (by exact hov0) ?_;refine v0s<|veT<|vf<|vK<|zA<|zA<|vd [0,1,2,3,4,5,6,7,8]<|vr 7 (ai_ (0<Ad (Af 2<|itC t (↑(k+1):Int) (q:Int) (e:Int) ab (s:Int))/\3<=3))<|vnt [Ah (itC t (↑(k+1):Int) (q:Int) (e:Int) ab (s:Int)) 250 0 Aa Aa Al,Ah [iD<|Ap v,iD<|Aq v,Aj<|Ao<|bs<|Ar v] 64 0 Aa Aa Al]<|zZ [] [] [Ae 0 0,iD q,Am [iD<|Ap v,iD<|Aq v,Aj<|Ao<|bs<|Ar v]] [Ae 0 0,iD q,Am [iD<|Ap v,iD<|Aq v,Aj<|Ao<|bs<|Ar v]] (AG _) (by exact hl0) ?_;refine v0s<|veT<|vf<|vK<|vA<|ve (ai_ (0<Ad (Af 2<|itC t (↑(k+1):Int) (q:Int) (e:Int) ab (↑(s+1):Int))))<|vB<|zC2 (λ(low:Nat)(step:Nat)(s':Nat)=>fr 80 [(0,Ae 0 0),(3,Ae 1 0),(4,bD Aa),(5,iD low),(6,iD step)]) (λ(low step s':Nat)=>[itB t (k+1:Nat) (q:Nat) (e:Nat) ab (s':Nat),vlB v]) (λ(low step s':Nat)=>e-low) (λ(low step s':Nat)=>q<=low/\low<e/\1<=step/\step<=low+1/\s'+(e-low)<=s+1+(e-q)/\∃n,e-low<=n/\gal L e n low step s'=G) q 1 (s+1) ?_ ?_ ?_
  ·grind
  ·refine vk 2 ?_;exact zKq
  rintro low step s' ⟨c1,c2,c3,c4,c5,n,c6,c7⟩;obtain⟨n,rfl⟩:∃m,n=m+1:=⟨n-1,by omega⟩;unfold gal at c7;have e1:(low:Int)+(step:Nat)=((low+step:Nat):Int):=by omega
  have e2:(step:Int)*2=((step*2:Nat):Int):=by omega
  rcases Az (low+step) e with d1|d1
  ·rw [if_pos d1]at c7;have hl1:=hL (low+step) d1 s' (by omega);cases hb1:L (low+step)with
   |true=>
    rw[hb1]at hl1;rw[hb1,if_pos rfl]at c7;refine zA<|vAs<|vw 15 [] [(9,Ac)] (i6 ((low:Int)+(step:Int))/\True/\True/\0<Ad (Af 3<|AF<|itB t (↑(k+1):Int) (q:Int) (e:Int) ab (s':Int))/\decide ((↑(low+step):Int)<(e:Int))=Ac/\i6 ((low:Int)+(step:Int))/\3<=3)<|vnt [itB t (↑(k+1):Int) (q:Int) (e:Int) ab (s':Int),vlB v]<|zZ [] [] [Ae 0 0,iD ↑(low+step),Am [iD<|Ap v,iD<|Aq v,Aj<|Ao<|bs<|Ar v]] [Ae 0 0,iD ↑(low+step),Am [iD<|Ap v,iD<|Aq v,Aj<|Ao<|bs<|Ar v]] (AG _) (by exact hl1) ?_;refine v0s<|veT<|vt<|vK<|zJ<|vA<|ve (i6 ((low:Int)+(step:Int)))<|zB rfl<|vr 3 (i6 ((step:Int)*(2:Int)))<|vnil<|zD<|zC<|⟨low+step,step*2,s'+1,⟨by omega,d1,by omega,by omega,by omega,n,by omega,c7⟩,by omega,?_⟩;refine vk 2 ?_;exact zKq
   | false=>
    rw[hb1]at hl1;rw[hb1,if_neg (by decide)]at c7;subst c7;simp only at hB;have emin:(if((e:Nat):Int)<((low+step:Nat):Int)then((e:Nat):Int)else((low+step:Nat):Int))=((min (low+step) e:Nat):Int):=by
     omega
    refine zA<|vAs<|vw 15 [] [(9,Ac)] (i6 ((low:Int)+(step:Int))/\True/\True/\0<Ad (Af 3<|AF<|itB t (↑(k+1):Int) (q:Int) (e:Int) ab (s':Int))/\decide ((↑(low+step):Int)<(e:Int))=Ac/\i6 ((low:Int)+(step:Int))/\3<=3)<|vnt [itB t (↑(k+1):Int) (q:Int) (e:Int) ab (s':Int),vlB v]<|zZ [] [] [Ae 0 0,iD ↑(low+step),Am [iD<|Ap v,iD<|Aq v,Aj<|Ao<|bs<|Ar v]] [Ae 0 0,iD ↑(low+step),Am [iD<|Ap v,iD<|Aq v,Aj<|Ao<|bs<|Ar v]] (AG _) (by exact hl1) ?_;refine v0s<|veT<|vf<|vZ2<|vA<|vr 9 (i6 ((low:Int)+(step:Int))/\True/\True/\0<Ad (Af 3<|itC t (↑(k+1):Int) (q:Int) (e:Int) ab (↑(s'+1):Int)))<|vs 56 (iD (if(e:Int)<↑(low+step)then(e:Int)else(↑(low+step):Int))) (iD (↑(min (low+step) e):Int))<|veT<|vB<|zC2 (λ(low:Nat)(high:Nat)(s':Nat)=>fr 80 [(0,Ae 0 0),(3,Ae 1 0),(4,bD Aa),(5,iD low),(7,iD high)]) (λ(low high s':Nat)=>[itB t (k+1:Nat) (q:Nat) (e:Nat) ab (s':Nat),vlB v]) (λ(low high s':Nat)=>high-low) (λ(low high s':Nat)=>q<=low/\low<high/\high<=e/\s'+(high-low)<=s+2+(e-q)/\∃n,high-low<=n+1/\bis L n low high s'=B) low (min (low+step) e) (s'+1) ?_ ?_ ?_
    ·grind
    ·refine vk 2 ?_;exact zKq
    clear hB c1 c2 c3 c4 c5 c6 emin e1 e2;rintro low high s' ⟨c1,c2,c3,c4,n,c5,c6⟩;have e3:(high:Int)-(low:Nat)=((high-low:Nat):Int):=by omega
    rcases Az 1 (high-low)with d2|d2
    ·obtain⟨n,rfl⟩:∃m,n=m+1:=⟨n-1,by omega⟩;unfold bis at c6;rw[if_pos d2]at c6;have hlt:(high-low)/2<high-low:=Cg (by omega) (by omega);have hgt:1<=(high-low)/2:=by omega
     have hl1:=hL (low+(high-low)/2) (by omega) s' (by omega);have e4:((high-low:Nat):Int).tdiv 2=(((high-low)/2:Nat):Int):=(Int.ofNat_tdiv _ _).symm;have e5:(low:Int)+(((high-low)/2:Nat):Int)=((low+(high-low)/2:Nat):Int):=by omega
     have hin:inK .i64 (((high-low:Nat):Int).tdiv 2):=by
      rw[e4];exact⟨by show(-9223372036854775808:Int)<=_;omega,by show _<=(9223372036854775807:Int);omega⟩
     generalize (high-low)/2=dd at*;cases hb2:L (low+dd)with
     |true=>
      rw[hb2]at hl1;rw[hb2,if_pos rfl]at c6;refine zA<|vAs<|vr 3 (i6 ((high:Int)-(low:Int)))<|vs 59 (iD ((high:Int)-(low:Int))) (iD ↑(high-low))<|veT<|vT ((↑(high-low):Int)>(1:Int))<|vK<|zJ<|vA<|vr 4 (i6 ((high:Int)-(low:Int)))<|vs 64 (iD ((high:Int)-(low:Int))) (iD ↑(high-low))<|vr 1 ((2:Int)≠(0:Int)/\inK A2 (Bl (↑(high-low):Int) (2:Int)))<|vs 65 (iD<|Bl (↑(high-low):Int) (2:Int)) (iD dd)<|ve (i6 ((low:Int)+(dd:Int)))<|vA<|vr 3 (3<=3)<|vnt [itB t (↑(k+1):Int) (q:Int) (e:Int) ab (s':Int),vlB v]<|zZ [] [] [Ae 0 0,iD ↑(low+dd),Am [iD<|Ap v,iD<|Aq v,Aj<|Ao<|bs<|Ar v]] [Ae 0 0,iD ↑(low+dd),Am [iD<|Ap v,iD<|Aq v,Aj<|Ao<|bs<|Ar v]] (AG _) (by exact hl1) ?_;refine v0s<|veT<|vt<|zB rfl<|vrT 2<|vnil<|zD<|zC<|⟨low+dd,high,s'+1,⟨by omega,by omega,by omega,by omega,n,by omega,c6⟩,by omega,?_⟩;refine vk 2 ?_;exact zKq
     |false=>
      rw[hb2]at hl1;rw[hb2,if_neg (by decide)]at c6;refine zA<|vAs<|vr 3 (i6 ((high:Int)-(low:Int)))<|vs 59 (iD ((high:Int)-(low:Int))) (iD ↑(high-low))<|veT<|vT ((↑(high-low):Int)>(1:Int))<|vK<|zJ<|vA<|vr 4 (i6 ((high:Int)-(low:Int)))<|vs 64 (iD ((high:Int)-(low:Int))) (iD ↑(high-low))<|vr 1 ((2:Int)≠(0:Int)/\inK A2 (Bl (↑(high-low):Int) (2:Int)))<|vs 65 (iD<|Bl (↑(high-low):Int) (2:Int)) (iD dd)<|ve (i6 ((low:Int)+(dd:Int)))<|vA<|vr 3 (3<=3)<|vnt [itB t (↑(k+1):Int) (q:Int) (e:Int) ab (s':Int),vlB v]<|zZ [] [] [Ae 0 0,iD ↑(low+dd),Am [iD<|Ap v,iD<|Aq v,Aj<|Ao<|bs<|Ar v]] [Ae 0 0,iD ↑(low+dd),Am [iD<|Ap v,iD<|Aq v,Aj<|Ao<|bs<|Ar v]] (AG _) (by exact hl1) ?_;refine v0s<|veT<|vf<|zB rfl<|vrT 2<|vnil<|zD<|zC<|⟨low,low+dd,s'+1,⟨by omega,by omega,by omega,by omega,n,by omega,c6⟩,by omega,?_⟩;refine vk 2 ?_;exact zKq
    have c7:bis L n low high s'=(high,s'):=by
     cases n<;>grind [bis]
    rw[c7]at c6;subst c6;have hv:=hov high s';refine zA<|vAs<|vr 3 (i6 ((high:Int)-(low:Int)))<|vs 59 (iD ((high:Int)-(low:Int))) (iD ↑(high-low))<|veT<|vF ((↑(high-low):Int)>(1:Int))<|vZ2<|vA<|ve (ai_ (Bk.fz (itB t (↑(k+1):Int) (q:Int) (e:Int) ab (s':Int))=Aa/\Ac=Ac/\1=1/\3<=Ad (AF<|itB t (↑(k+1):Int) (q:Int) (e:Int) ab (s':Int))))<|vA<|vrT 1<|vnt [Ah (triC t::iD ↑(k+1)::iD ↑high::iD ↑e::(ab++[iD s'])) (250:TypeId) 0 Aa Aa Al,vlB v]<|zZ [] [] [Ae 0 0] [Ae 0 0] (AG _) (by exact hv) ?_;refine v0s<|veT<|zE<|zN (True) [Aj<|AQ<|decide (high<e)] (.inr rfl) ?_;exact⟨by kernel_rfl,by kernel_rfl⟩
  rw[if_neg (by omega)]at c7;subst c7;simp only at hB;have emin:(if((e:Nat):Int)<((low+step:Nat):Int)then((e:Nat):Int)else((low+step:Nat):Int))=((min (low+step) e:Nat):Int):=by
   omega
  refine zA<|vAs<|vew [] [(9,Aa)] (i6 ((low:Int)+(step:Int))/\True/\True/\0<Ad (Af 3<|AF<|itB t (↑(k+1):Int) (q:Int) (e:Int) ab (s':Int))/\decide ((↑(low+step):Int)<(e:Int))=Aa)<|vf<|vZ2<|vA<|vr 9 (i6 ((low:Int)+(step:Int))/\True/\True/\0<Ad (Af 3<|AF<|itB t (↑(k+1):Int) (q:Int) (e:Int) ab (s':Int)))<|vs 56 (iD (if(e:Int)<↑(low+step)then(e:Int)else(↑(low+step):Int))) (iD (↑(min (low+step) e):Int))<|veT<|vB<|zC2 (λ(low:Nat)(high:Nat)(s':Nat)=>fr 80 [(0,Ae 0 0),(3,Ae 1 0),(4,bD Aa),(5,iD low),(7,iD high)]) (λ(low high s':Nat)=>[itB t (k+1:Nat) (q:Nat) (e:Nat) ab (s':Nat),vlB v]) (λ(low high s':Nat)=>high-low) (λ(low high s':Nat)=>q<=low/\low<high/\high<=e/\s'+(high-low)<=s+2+(e-q)/\∃n,high-low<=n+1/\bis L n low high s'=B) low (min (low+step) e) s' ?_ ?_ ?_
  ·grind
  ·refine vk 2 ?_;exact zKq
  clear hB c1 c2 c3 c4 c5 c6 emin e1 e2;rintro low high s' ⟨c1,c2,c3,c4,n,c5,c6⟩;have e3:(high:Int)-(low:Nat)=((high-low:Nat):Int):=by omega
  rcases Az 1 (high-low)with d2|d2
  ·obtain⟨n,rfl⟩:∃m,n=m+1:=⟨n-1,by omega⟩;unfold bis at c6;rw[if_pos d2]at c6;have hlt:(high-low)/2<high-low:=Cg (by omega) (by omega);have hgt:1<=(high-low)/2:=by omega
   have hl1:=hL (low+(high-low)/2) (by omega) s' (by omega);have e4:((high-low:Nat):Int).tdiv 2=(((high-low)/2:Nat):Int):=(Int.ofNat_tdiv _ _).symm;have e5:(low:Int)+(((high-low)/2:Nat):Int)=((low+(high-low)/2:Nat):Int):=by omega
   have hin:inK .i64 (((high-low:Nat):Int).tdiv 2):=by
    rw[e4];exact⟨by show(-9223372036854775808:Int)<=_;omega,by show _<=(9223372036854775807:Int);omega⟩
   generalize (high-low)/2=dd at*;cases hb2:L (low+dd)with
   |true=>
    rw[hb2]at hl1;rw[hb2,if_pos rfl]at c6;refine zA<|vAs<|vr 3 (i6 ((high:Int)-(low:Int)))<|vs 59 (iD ((high:Int)-(low:Int))) (iD ↑(high-low))<|veT<|vT ((↑(high-low):Int)>(1:Int))<|vK<|zJ<|vA<|vr 4 (i6 ((high:Int)-(low:Int)))<|vs 64 (iD ((high:Int)-(low:Int))) (iD ↑(high-low))<|vr 1 ((2:Int)≠(0:Int)/\inK A2 (Bl (↑(high-low):Int) (2:Int)))<|vs 65 (iD<|Bl (↑(high-low):Int) (2:Int)) (iD dd)<|ve (i6 ((low:Int)+(dd:Int)))<|vA<|vr 3 (3<=3)<|vnt [itB t (↑(k+1):Int) (q:Int) (e:Int) ab (s':Int),vlB v]<|zZ [] [] [Ae 0 0,iD ↑(low+dd),Am [iD<|Ap v,iD<|Aq v,Aj<|Ao<|bs<|Ar v]] [Ae 0 0,iD ↑(low+dd),Am [iD<|Ap v,iD<|Aq v,Aj<|Ao<|bs<|Ar v]] (AG _) (by exact hl1) ?_;refine v0s<|veT<|vt<|zB rfl<|vrT 2<|vnil<|zD<|zC<|⟨low+dd,high,s'+1,⟨by omega,by omega,by omega,by omega,n,by omega,c6⟩,by omega,?_⟩;refine vk 2 ?_;exact zKq
   |false=>
    rw[hb2]at hl1;rw[hb2,if_neg (by decide)]at c6;refine zA<|vAs<|vr 3 (i6 ((high:Int)-(low:Int)))<|vs 59 (iD ((high:Int)-(low:Int))) (iD ↑(high-low))<|veT<|vT ((↑(high-low):Int)>(1:Int))<|vK<|zJ<|vA<|vr 4 (i6 ((high:Int)-(low:Int)))<|vs 64 (iD ((high:Int)-(low:Int))) (iD ↑(high-low))<|vr 1 ((2:Int)≠(0:Int)/\inK A2 (Bl (↑(high-low):Int) (2:Int)))<|vs 65 (iD<|Bl (↑(high-low):Int) (2:Int)) (iD dd)<|ve (i6 ((low:Int)+(dd:Int)))<|vA<|vr 3 (3<=3)<|vnt [itB t (↑(k+1):Int) (q:Int) (e:Int) ab (s':Int),vlB v]<|zZ [] [] [Ae 0 0,iD ↑(low+dd),Am [iD<|Ap v,iD<|Aq v,Aj<|Ao<|bs<|Ar v]] [Ae 0 0,iD ↑(low+dd),Am [iD<|Ap v,iD<|Aq v,Aj<|Ao<|bs<|Ar v]] (AG _) (by exact hl1) ?_;refine v0s<|veT<|vf<|zB rfl<|vrT 2<|vnil<|zD<|zC<|⟨low,low+dd,s'+1,⟨by omega,by omega,by omega,by omega,n,by omega,c6⟩,by omega,?_⟩;refine vk 2 ?_;exact zKq
  have c7:bis L n low high s'=(high,s'):=by
   cases n<;>grind [bis]
  rw[c7]at c6;subst c6;have hv:=hov high s';refine zA<|vAs<|vr 3 (i6 ((high:Int)-(low:Int)))<|vs 59 (iD ((high:Int)-(low:Int))) (iD ↑(high-low))<|veT<|vF ((↑(high-low):Int)>(1:Int))<|vZ2<|vA<|ve (ai_ (Bk.fz (itB t (↑(k+1):Int) (q:Int) (e:Int) ab (s':Int))=Aa/\Ac=Ac/\1=1/\3<=Ad (AF<|itB t (↑(k+1):Int) (q:Int) (e:Int) ab (s':Int))))<|vA<|vrT 1<|vnt [Ah (triC t::iD ↑(k+1)::iD ↑high::iD ↑e::(ab++[iD s'])) (250:TypeId) 0 Aa Aa Al,vlB v]<|zZ [] [] [Ae 0 0] [Ae 0 0] (AG _) (by exact hv) ?_;refine v0s<|veT<|zE<|zN (True) [Aj<|AQ<|decide (high<e)] (.inr rfl) ?_;exact⟨by kernel_rfl,by kernel_rfl⟩
include hab hno in
theorem seek_a(k q e s:Nat)(v:Va)(hk:k<t.length)(hq:q<e)(he:e<=(zCw t k).length)(he2:e<=1000000)(h1:k<=1000000)(hs:s<=100000000000000000)(hm:Mon (lsV t k v) q e):Acts As 183 [.own 0 0, .agg (vaC v)] [itB t (k+1:Nat) (q:Nat) (e:Nat) ab (s:Nat)] [] (bD (decide ((sek (lsV t k v) q e s).1<e))) [itB t (k+1:Nat) ((sek (lsV t k v) q e s).1:Nat) (e:Nat) ab ((sek (lsV t k v) q e s).2:Nat)]:=
 (seek_k t ab hab hno k q e s v hk hq he he2 h1 hs hm).cut 1 (by simp) (zMn hno _ _ (by simp only[refs]))
end
abbrev fr0:List (Int×Int):=AA 32 (0,0)
theorem iter_a(t:Tri):Acts As 145 [.agg [triC t]] [] [] (.own 1 0) [⟨[triC t],222,0,Aa,Aa, .plain⟩,itB t 0 0 0 (frC fr0) 0]:=by
 refine zQ zAx mixed Tryz.func145 rfl (by intro k hk;cases hk)<|vAu<|vA<|ve (1<=1/\(1=1/\1<=69/\True)/\Ac=Ac)<|zE<|zN (True) [Ae 1 0] (.inr rfl) ?_;exact⟨by kernel_rfl,by kernel_rfl⟩
theorem zS6(x:Rw)(n:Nat)(h:n<x.length):x.drop n=x.getD n Ab::x.drop (n+1):=by
 simp_all
theorem shared_c(x y:Rw)(h:x.length<=y.length)(hb:y.length<=1000000):Pure As 164 [rowV x,rowV y] [] (iD (shr x y:Nat)):=by
 have hxl:x.length<=1000000:=by omega
 refine zF zAx mixed Tryz.func164 rfl<|vAu<|vAe<|vB<|zK (λ(n:Nat)=>fr 25 [(0,rowV x),(1,rowV y),(4,iD 0),(5,iD (n:Int))]) (λ(n:Nat)=>[]) (λ(n:Nat)=>x.length-n) (λ(n:Nat)=>n<=x.length/\shr (x.drop n) (y.drop n)+n=shr x y) 0 ?_ ?_ ?_
 ·grind
 ·refine vk 0
 rintro n ⟨c1,c2⟩;rcases Az n x.length with d|d
 ·have hx:=zB5 x n d;have hnx:=zE4 x;have hlx:3<=((zG x).drop (n*3)).length:=zC3 _ _ (h:=d);have hy:=zB5 y n (by omega);have hny:=zE4 y;have hly:3<=((zG y).drop (n*3)).length:=zC3 _ _;have hc:=zDt (x.getD n Ab) (y.getD n Ab);rw[zS6 x n d,zS6 y n (by omega),shr]at c2;rcases Int.decEq (vcmp (x.getD n Ab) (y.getD n Ab)) 0 with e|e
  ·rw[if_neg e]at c2;generalize x.getD n Ab=u at*;generalize y.getD n Ab=v at*;obtain rfl:n=shr x y:=by omega
   refine zA<|zA<|vd [0,1,2,3,4,5,6,7,9,10,11,8,12,13,14,15]<|v0s<|vw 12 [] [(4,Ac)] (decide ((↑(shr x y):Int)<(Ad x:Int))=Ac/\ix ↑(shr x y) ↑(Ad x) (zG x≠[])/\ix ↑(shr x y) ↑(Ad y) (zG y≠[])/\3<=Ad (Af (shr x y*3)<|zG x))<|vs 14 (Am<|AK 3<|Af (shr x y*3)<|zG x) (Am<|vaC u)<|vr 1 (3<=Ad (Af (shr x y*3)<|zG y))<|vs 18 (Am<|AK 3<|Af (shr x y*3)<|zG y) (Am<|vaC v)<|vc hc<|veT<|vEf (vcmp u v) ((0:Int))<|vZ2<|vAe<|zE<|vret (True)<|.inr rfl
  rw[if_pos e]at c2;rw[e]at hc;generalize x.getD n Ab=u at*;generalize y.getD n Ab=v at*;refine zA<|zA<|vd [0,1,2,3,4,5,6,7,9,10,11,8,12,13,14,15]<|v0s<|vw 12 [] [(4,Ac)] (decide ((n:Int)<↑(Ad x))=Ac/\ix ↑n ↑(Ad x) (zG x≠[])/\ix ↑n ↑(Ad y) (zG y≠[])/\3<=Ad (Af (n*3)<|zG x))<|vs 14 (Am<|AK 3<|Af (n*3)<|zG x) (Am<|vaC u)<|vr 1 (3<=Ad (Af (n*3)<|zG y))<|vs 18 (Am<|AK 3<|Af (n*3)<|zG y) (Am<|vaC v)<|vc hc<|veT<|vt<|vK<|zJ<|zB rfl<|vr 3 (i6 (↑n+1))<|vnil<|zD<|zC<|⟨n+1,⟨by omega,by omega⟩,by omega,?_⟩;refine vk 0
 obtain rfl:n=x.length:=by omega
 have c3:shr x y=x.length:=by
  grind [List.drop_length,shr]
 refine zA<|zA<|vd [0,1,2,3,4,5,6,7,9,10,11,8,12,13,14,15]<|v0s<|vew [] [(4,Aa)] (decide ((Ad x:Int)<(Ad x:Int))=Aa)<|vf<|vZ2<|vAe<|zE<|vre (True) (Aj<|Bc A2 (Ad x:Int)) (.inr rfl) ?_;rw[c3]
end
def Sib:Tri->Nat->Nat->Prop
 |[],_,_=>True
 |l::t,a,b=>a<b/\b<=l.1.length/\b<l.2.length/\(∀i j,a<=i->i<j->j<b->vcmp (l.1.getD i Ab) (l.1.getD j Ab)<0)/\∀i,a<=i->i<b->Sib t (l.2.getD i 0) (l.2.getD (i+1) 0)
theorem zW7:∀(t t':Tri)(a b:Nat),InvT t->Goes t t'->b<szT t->Sib (finT t) a b->Sib (finT t') a b
 |[],t',a,b,hi,hg,hb,hs=>by rw[show t'=[]from hg];trivial
 |l::t,[],a,b,hi,hg,hb,hs=>absurd hg (by simp[Goes])
 | l::t,l'::t',a,b,⟨h1,h2,h3⟩,⟨⟨p,hp⟩,⟨r,hr⟩,hg⟩,hb,⟨s1,s2,s3,s4,s5⟩=>by
  simp only[szT]at hb;simp only[finT]at s1 s2 s3 s4 s5⊢;refine⟨s1,by simp only[hp,AD];omega,by simp only[hr,AD,AZ,BD]at s3⊢;omega,λi j i1 i2 i3=>?_,λi i1 i2=>?_⟩
  ·grind
  have:=s5 i i1 i2
  rw[zBk l.2 _ _ i,zBk l.2 _ _ (i+1)]at this;rw[hr,A5,zBk l.2 _ _ i,zBk l.2 _ _ (i+1)];cases t with
  |nil=>rw[show t'=[]from hg];trivial
  |cons m t=>exact zW7 _ _ _ _ h3 hg (h2 (by simp) _ (by omega)) this
theorem zW8:∀(t:Tri)(x:List Va)(a b:Nat),InvT t->x.length=t.length->b<=szT t->Sib (finT t) a b->Sib (finT (adT x 0 t)) a b
 |[],x,a,b,hi,hx,hb,hs=>by cases x<;>trivial
 |l::t,[],a,b,hi,hx,hb,hs=>by simp at hx
 | l ::t,v::x,a,b,⟨h1,h2,h3⟩,hx,hb,⟨s1,s2,s3,s4,s5⟩=>by
  simp only[szT]at hb;simp only[finT]at s1 s2 s3 s4 s5;simp only[adT,finT];refine⟨s1,by simp;omega,by simp;omega,λi j i1 i2 i3=>?_,λi i1 i2=>?_⟩
  ·grind
  have:=s5 i i1 i2
  rw[zBk (l.2++[szT t]) _ _ i (h:=by simp;omega),zBk (l.2++[szT t]) _ _ (i+1) (h:=by simp;omega)];cases t with
  |nil=>cases x with
   |nil=>trivial
   |cons _ _=>simp at hx
  | cons m t=>
   refine zW8 _ _ _ _ h3 (by simpa using hx) ?_ this;rcases Az (i+1) l.1.length with h|h
   ·grind
   rw[show i+1=l.2.length by omega,AW,BL (Au _),BT];exact Au _
theorem zT1:∀(t:Tri)(x:List Va),InvT t->x.length=t.length->Sib (finT (adT x 0 t)) (szT t) (szT t+1)
 |[],x,hi,hx=>by cases x<;>trivial
 |l::t,[],hi,hx=>by simp at hx
 | l::t,v::x,⟨h1,h2,h3⟩,hx=>by
  show Sib (finT ((l.1++[v],l.2++[szT t])::adT x 0 t)) l.1.length (l.1.length+1);simp only[finT];refine⟨by omega,by simp,by simp;omega,λi j i1 i2 i3=>by omega,λi i1 i2=>?_⟩;obtain rfl:i=l.1.length:=by omega
  have e2:(l.2++[szT t]++[szT (adT x 0 t)]).getD l.1.length 0=szT t:=by
   grind
  have e3:(l.2++[szT t]++[szT (adT x 0 t)]).getD (l.1.length+1) 0=szT (adT x 0 t):=by
   grind
  rw[e2,e3];cases t with
  |nil=>cases x with
   |nil=>trivial
   |cons _ _=>simp at hx
  |cons m t=>
   rw[zEa _ _ (by simpa using hx),if_neg (by simp)];exact zT1 _ _ h3 (by simpa using hx)
def Nxt:Nat->List Va->Tri->Nat->Prop
 |0,v::x,l::t,a=>a<=l.1.length/\(a<l.1.length->vcmp (l.1.getD (l.1.length-1) Ab) v<0)
 |f+1,v::x,l::t,a=>a<l.1.length/\l.1.getD (l.1.length-1) Ab=v/\Nxt f x t (l.2.getD (l.1.length-1) 0)
 |_,_,_,_=>False
variable{a:Nat}
theorem sib_snoc{l:List Va×List Nat}{b:Nat}(h:a<b)(h1:Sib (l::t) a b)(h2:Sib (l::t) b (b+1))(hv:vcmp (l.1.getD (b-1) Ab) (l.1.getD b Ab)<0):Sib (l::t) a (b+1):=by
 obtain⟨s1,s2,s3,s4,s5⟩:=h1;obtain⟨r1,r2,r3,r4,r5⟩:=h2;refine⟨by omega,r2,r3,λi j i1 i2 i3=>?_,λi i1 i2=>?_⟩
 ·rcases Az j b with hj|hj
  ·exact s4 i j i1 i2 hj
  obtain rfl:j=b:=by omega
  rcases Az i (j-1)with hi|hi
  ·exact zLj _ _ _ (s4 i (j-1) i1 hi (by omega)) hv
  obtain rfl:i=j-1:=by omega
  exact hv
 grind
theorem sib_add:∀(f:Nat)(x:List Va)(t:Tri)(a:Nat),InvT t->x.length=t.length->Nxt f x t a->(a<szT t->Sib (finT t) a (szT t))->Sib (finT (adT x f t)) a (szT (adT x f t))
 |0,[],t,a,hi,hx,hn,hs=>hn.elim
 |f+1,[],t,a,hi,hx,hn,hs=>hn.elim
 |0,v::x,[],a,hi,hx,hn,hs=>hn.elim
 |f+1,v::x,[],a,hi,hx,hn,hs=>hn.elim
 | 0,v::x,l::t,a,hi,hx,⟨n1,n2⟩,hs=>by
  have hnw:=zT1 (l::t) (v::x) hi hx;rw[zEa _ _ hx,if_neg (by simp)];have hz:szT (l::t)=l.1.length:=rfl;rcases Az a l.1.length with h|h
  ·have h0:=zW8 (l::t) (v::x) a _ hi hx (Au _) (hs h);rw[hz]at hnw h0⊢;simp only[adT,finT]at hnw h0⊢;refine sib_snoc h h0 hnw ?_;grind
  grind
 | f+1,v::x,l::t,a,⟨h1,h2,h3⟩,hx,⟨n1,n2,n3⟩,hs=>by
  have hx':x.length=t.length:=by simpa using hx
  have ht:t≠[]:=λe=>by
   subst e;cases x with
   |nil=>cases f<;>exact n3.elim
   |cons _ _=>simp at hx'
  have hz:szT (l::t)=l.1.length:=rfl;have h0:=hs n1;have hlt:=h2 ht (l.1.length-1) (by omega);have g1:∀z,(l.2++[z]).getD (l.1.length-1) 0=l.2.getD (l.1.length-1) 0:=λz=>zBk _ _ _ _;have g2:∀z,(l.2++[z]).getD (l.1.length-1+1) 0=z:=λz=>by
   grind
  have hg:=zJc f x t hx';rw[zPx _ _ _ hx,hz];rw[hz]at h0;simp only[adT,finT]at h0⊢;obtain⟨s1,s2,s3,s4,s5⟩:=h0;have sl:=s5 (l.1.length-1) (by omega) (by omega);rw[g1,g2]at sl;refine⟨s1,s2,by simp;omega,s4,λi i1 i2=>?_⟩;rcases Az (i+1) l.1.length with hc|hc
  ·have:=s5 i i1 i2
   rw[zBk _ _ _ i,zBk _ _ _ (i+1)]at this⊢;exact zW7 t _ _ _ h3 hg (h2 ht _ hc) this
  obtain rfl:i=l.1.length-1:=by omega
  rw[g1,g2];exact sib_add f x t _ h3 hx' n3 λ_=>sl
def Pth:List Va->Tri->Nat->Prop
 |[],[],_=>True
 |v::x,l::t,a=>a<l.1.length/\l.1.getD (l.1.length-1) Ab=v/\Pth x t (l.2.getD (l.1.length-1) 0)
 |_,_,_=>False
theorem nxt_of:∀(x y:List Va)(t:Tri)(a:Nat),x.length=y.length->rcmp x y<0->Pth x t a->Nxt (shr x y) y t a
 |[],[],t,a,hl,hc,hp=>by simp[rcmp]at hc
 |[],_::_,t,a,hl,hc,hp=>by simp at hl
 |_::_,[],t,a,hl,hc,hp=>by simp at hl
 |u::x,v::y,[],a,hl,hc,hp=>hp.elim
 | u::x,v::y,l::t,a,hl,hc,⟨p1,p2,p3⟩=>by
  rw[rcmp]at hc;rw[shr];split at hc
  ·rename_i e;rw[if_pos e];obtain rfl:=(zAy u v).2.1.1 e;exact⟨p1,p2,nxt_of x y t _ (by simpa using hl) hc p3⟩
  rename_i e;rw[if_neg e];exact⟨BX p1,λ_=>p2▸hc⟩
theorem zVa:∀(x:List Va)(t:Tri),InvT t->x.length=t.length->Pth x (adT x 0 t) (szT t)
 |[],[],_,_=>trivial
 |[],_::_,_,h=>by simp at h
 |_::_,[],_,h=>by simp at h
 | v::x,l::t,⟨h1,h2,h3⟩,hx=>by
  refine⟨by simp[szT],?_,?_⟩
  ·grind
  have e:(l.2++[szT t]).getD ((l.1++[v]).length-1) 0=szT t:=by
   grind
  rw[e];exact zVa x t h3 (by simpa using hx)
theorem pth_add:∀(f:Nat)(x:List Va)(t:Tri)(a:Nat),InvT t->x.length=t.length->Nxt f x t a->Pth x (adT x f t) a
 |0,[],t,a,hi,hx,hn=>hn.elim
 |f+1,[],t,a,hi,hx,hn=>hn.elim
 |0,v::x,[],a,hi,hx,hn=>hn.elim
 |f+1,v::x,[],a,hi,hx,hn=>hn.elim
 |0,v::x,l::t,a,hi,hx,⟨n1,n2⟩=>by
  obtain⟨p1,p2,p3⟩:=zVa (v::x) (l::t) hi hx;exact⟨Nat.lt_of_le_of_lt n1 p1,p2,p3⟩
 |f+1,v::x,l::t,a,⟨h1,h2,h3⟩,hx,⟨n1,n2,n3⟩=>⟨n1,n2,pth_add f x t _ h3 (by simpa using hx) n3⟩
def Rsc(L:List (List Va)):Prop:=L.Pairwise λx y=>rcmp x y<0
theorem sib_bld(n:Nat):∀(L:List (List Va))(last:List Va)(t:Tri),InvT t->t.length=n->last.length=n->(∀x∈L,x.length=n)->Rsc (last::L)->Pth last t 0->Sib (finT t) 0 (szT t)->Sib (finT (bldT last L t)) 0 (szT (bldT last L t))
 |[],last,t,hi,ht,hl,hL,hd,hp,hs=>hs
 |x::L,last,t,hi,ht,hl,hL,hd,hp,hs=>by
  have hxn:=hL x (by simp);have hxt:x.length=t.length:=by omega
  have hd1:=(A8.1 hd).1 x (by simp);have hn:=nxt_of last x t 0 (by omega) hd1 hp;exact sib_bld n L x _ (zJ3 _ _ _ hi hxt) (by rw[zFr];exact ht) hxn (λy hy=>hL y (by simp[hy])) (A8.1 hd).2 (pth_add _ _ _ _ hi hxt hn) (sib_add _ _ _ _ hi hxt hn λ_=>hs)
theorem trie_sib(n:Nat)(hn:0<n)(L:List (List Va))(hL:∀x∈L,x.length=n)(hd:Rsc L)(hne:L≠[]):Sib (zCa n L) 0 (szT (zCa n L)):=by
 cases L with
 |nil=>exact absurd rfl hne
 | cons x L=>
  have hx:x.length=(AA n (([],[]):List Va×List Nat)).length:=by rw[hL x (by simp),Bh]
  have hz:szT (adT x 0 (AA n (([],[]):List Va×List Nat)))=1:=by
   grind [zEa,zPw,Ad]
  have h1:=zT1 _ x (zJ2 n) hx;have h2:=zVa x _ (zJ2 n) hx;simp_all [zPw,zCa,bldT,zP1,szT_fin,sib_bld,zJ3,zJ2,zFr]
theorem dst_of{L:List (List Va)}(hn:0<n)(hL:∀x∈L,x.length=n)(hd:Rsc L):Dst [] L:=by
 have key:∀(L:List (List Va))(last:List Va),Rsc (last::L)->Dst last L:=by
  intro L;induction L with
  |nil=>intro last _;trivial
  |cons x L ih=>
   intro last h;refine⟨λe=>?_,ih x (A8.1 h).2⟩
   have:=(A8.1 h).1 x (by simp)
   grind [zBq]
 cases L with
 |nil=>trivial
 |cons x L=>
  refine⟨λe=>?_,key L x hd⟩;simp_all
structure It where
 t:Tri
 l:Nat
 p:Nat
 e:Nat
 fr:List (Int×Int)
 s:Nat
 deriving Inhabited
abbrev vls(t:Tri)(k:Nat):List Va:=(t.getD k Ab).1
abbrev fst'(t:Tri)(k:Nat):List Nat:=(t.getD k Ab).2
def onI(it:It):Bool:=decide (0<it.l)&&decide (it.p<it.e)
def opI(it:It):It:=match it.l with
 |0=>{it with l:=1,p:=0,e:=szT it.t,fr:=it.fr.set 0 ((it.p:Nat),(it.e:Nat))}
 |k+1=>{it with l:=k+2,p:=(fst' it.t k).getD it.p 0,e:=(fst' it.t k).getD (it.p+1) 0,fr:=it.fr.set (k+1) ((it.p:Nat),(it.e:Nat))}
def upI(it:It):It:={it with l:=it.l-1,p:=(it.fr.getD (it.l-1) (0,0)).1.toNat,e:=(it.fr.getD (it.l-1) (0,0)).2.toNat}
def keyI(it:It):Va:=(vls it.t (it.l-1)).getD it.p Ab
def lsI(v:Va)(it:It)(i:Nat):Bool:=decide (vcmp ((vls it.t (it.l-1)).getD i Ab) v<0)
def skI(v:Va)(it:It):It:={it with p:=(sek (lsI v it) it.p it.e it.s).1,s:=(sek (lsI v it) it.p it.e it.s).2}
def nxI(it:It):It:={it with p:=it.p+1}
def zCe(ix:List Nat)(its:List It):List It:=ix.foldl (λits i=>its.set i (opI (its.getD i Ab))) its
def zGu(ix:List Nat)(its:List It):List It:=ix.foldl (λits i=>its.set i (upI (its.getD i Ab))) its
def mtL(ix:List Nat):Nat->List It->Va->Nat->Nat->Nat->List It×Nat×Bool
 |0,its,key,same,k,s=>(its,s,Ac)
 | f+1,its,key,same,k,s=>if same<ix.length then
   if onI (skI key (its.getD (ix.getD (k%ix.length) 0) Ab))then
    if vcmp (keyI (skI key (its.getD (ix.getD (k%ix.length) 0) Ab))) key=0 then mtL ix f (its.set (ix.getD (k%ix.length) 0) (skI key (its.getD (ix.getD (k%ix.length) 0) Ab))) key (same+1) (k+1) (s+1)
    else mtL ix f (its.set (ix.getD (k%ix.length) 0) (skI key (its.getD (ix.getD (k%ix.length) 0) Ab))) (keyI (skI key (its.getD (ix.getD (k%ix.length) 0) Ab))) 1 (k+1) (s+1)
   else(its.set (ix.getD (k%ix.length) 0) (skI key (its.getD (ix.getD (k%ix.length) 0) Ab)),s,Aa)
  else(its,s,Ac)
def gtI(v:Va)(it:It):Nat:=((AI it.p (it.e-it.p)).filter λj=>decide (vcmp v ((vls it.t (it.l-1)).getD j Ab)<0)).length
def gtA(ix:List Nat)(its:List It)(v:Va):Nat:=(ix.map λi=>gtI v (its.getD i Ab)).sum
def msr(ix:List Nat)(its:List It)(key:Va)(same:Nat):Nat:=gtA ix its key*(ix.length+1)+(ix.length-same)
def metJ(ix:List Nat)(its:List It)(s:Nat):List It×Nat×Bool:=
 if onI (its.getD (ix.getD 0 0) Ab)then mtL ix (msr ix its (keyI (its.getD (ix.getD 0 0) Ab)) 1) its (keyI (its.getD (ix.getD 0 0) Ab)) 1 1 s else(its,s,Aa)
structure Js where
 its:List It
 row:List Va
 s:Nat
 ys:List (List Va)
def lpJ(rec:Js->Js)(ix:List Nat)(v:Nat):Nat->Bool->Js->Js
 |f+1,Ac,S=>
  let S1:=rec {S with row:=S.row.set v (keyI (S.its.getD (ix.getD 0 0) Ab))}
  let it:=nxI (S1.its.getD (ix.getD 0 0) Ab)
  let its2:=S1.its.set (ix.getD 0 0) it
  if onI it then lpJ rec ix v f (metJ ix its2 S1.s).2.2 {S1 with its:=(metJ ix its2 S1.s).1,s:=(metJ ix its2 S1.s).2.1}else{S1 with its:=its2}
 |_,_,S=>S
def extJ(ats:Nat->List Nat):Nat->Nat->Js->Js
 |0,v,S=>{S with s:=S.s+1,ys:=S.ys++[S.row]}
 |m+1,v,S=>
  let its1:=zCe (ats v) S.its
  let r:=metJ (ats v) its1 S.s
  let S2:=lpJ (extJ ats m (v+1)) (ats v) v ((its1.getD ((ats v).getD 0 0) Ab).e) r.2.2 {S with its:=r.1,s:=r.2.1}
  {S2 with its:=zGu (ats v) S2.its}
structure LvI(it:It):Prop where
 l1:1<=it.l
 l2:it.l<=it.t.length
 pe:it.p<=it.e
 sib:it.p<it.e->Sib (it.t.drop (it.l-1)) it.p it.e
variable{l:Nat}
theorem zQ5(h1:1<=l)(h2:l<=t.length):t.drop (l-1)=t.getD (l-1) Ab::t.drop l:=by
 grind [List.drop_eq_getElem_cons,Br]
variable{it:It}{i:Nat}
theorem LvI.asc(h:LvI it)(h1:it.p<=i)(h2:i<j)(h3:j<it.e):vcmp ((vls it.t (it.l-1)).getD i Ab) ((vls it.t (it.l-1)).getD j Ab)<0:=by
 have:=h.sib (by omega)
 rw[zQ5 h.l1 h.l2]at this;exact this.2.2.2.1 i j h1 h2 h3
theorem LvI.len(h:LvI it)(hp:it.p<it.e):it.e<=(vls it.t (it.l-1)).length/\it.e<(fst' it.t (it.l-1)).length:=by
 have:=h.sib hp
 rw[zQ5 h.l1 h.l2]at this;exact⟨this.2.1,this.2.2.1⟩
theorem sib_sub{a' b:Nat}(h:Sib t a b)(h1:a<=a')(h2:a'<b):Sib t a' b:=by
 cases t with
 |nil=>trivial
 |cons l t=>
  obtain⟨s1,s2,s3,s4,s5⟩:=h;exact⟨h2,s2,s3,λi j i1=>s4 i j (by omega),λi i1=>s5 i (by omega)⟩
theorem zHp(a:Va):¬vcmp a a<0:=by grind [zAy]
theorem vcmp_asym{a b:Va}(h:vcmp a b<0):¬vcmp b a<0:=by grind [zAy]
def has(it:It)(d:Va):Prop:=∃j,it.p<=j/\j<it.e/\(vls it.t (it.l-1)).getD j Ab=d
theorem LvI.mon(h:LvI it)(v:Va):Mon (lsI v it) it.p it.e:=λi j h1 h2 h3 h4=>by
 unfold lsI at h4⊢;rw[decide_eq_true_eq]at h4⊢;rcases Az i j with h5|h5
 ·exact zLj _ _ _ (h.asc h1 h5 h3) h4
 obtain rfl:i=j:=by omega
 exact h4
theorem zG2(h:LvI it)(hp:it.p<it.e)(v:Va):LvI (skI v it)/\it.p<=(skI v it).p/\(∀j,it.p<=j->j<(skI v it).p->vcmp ((vls it.t (it.l-1)).getD j Ab) v<0)/\((skI v it).p<it.e->¬vcmp (keyI (skI v it)) v<0):=by
 obtain⟨⟨f1,f2,f3,f4⟩,_⟩:=zXa (s:=it.s) (h.mon v) hp;refine⟨⟨h.l1,h.l2,f2,λhlt=>sib_sub (h.sib hp) f1 hlt⟩,f1,λj j1 j2=>?_,λhlt=>?_⟩
 ·have:=f3 j j1 j2
  grind [lsI]
 have:=f4 hlt
 unfold lsI at this;rwa[decide_eq_false_iff_not]at this
theorem has_sk(h:LvI it)(hp:it.p<it.e){v d:Va}(hd:¬vcmp d v<0):has it d↔has (skI v it) d:=by
 obtain⟨s1,s2,s3,s4⟩:=zG2 h hp v;constructor
 ·rintro⟨j,j1,j2,j3⟩;refine⟨j,?_,j2,j3⟩;grind
 rintro⟨j,j1,j2,j3⟩;exact⟨j,Ax s2 j1,j2,j3⟩
theorem has_ge(h:LvI it){d:Va}(hd:has it d):¬vcmp d (keyI it)<0:=by
 obtain⟨j,j1,j2,rfl⟩:=hd;rcases Az it.p j with hj|hj
 ·exact vcmp_asym (h.asc (Au _) hj j2)
 obtain rfl:j=it.p:=by omega
 exact zHp _
theorem zN1(h:LvI it):onI it=decide (it.p<it.e):=by
 unfold onI;rw[decide_eq_true (show 0<it.l from h.l1),BK]
theorem zVx{α:Type}(p q:α->Bool):∀(l:List α),(∀x∈l,p x=Ac->q x=Ac)->(l.filter p).length<=(l.filter q).length
 |[],_=>Au _
 |a::l,h=>by
  have ih:=zVx p q l λx hx=>h x (BZ _ hx);grind
theorem filt_lt{α:Type}(p q:α->Bool):∀(l:List α),(∀x∈l,p x=Ac->q x=Ac)->(∃x∈l,p x=Aa/\q x=Ac)->(l.filter p).length<(l.filter q).length
 |[],_,⟨x,hx,_⟩=>by simp at hx
 | a::l,h,⟨x,hx,h1,h2⟩=>by
  have le:=zVx p q l λx hx=>h x (BZ _ hx);rw[List.filter_cons,List.filter_cons];rcases Bs.1 hx with rfl|hx
  ·grind
  have ih:=filt_lt p q l (λx hx=>h x (BZ _ hx)) ⟨x,hx,h1,h2⟩;grind
theorem gt_sk(h:LvI it)(hp:it.p<it.e)(v u:Va):gtI u (skI v it)<=gtI u it:=by
 obtain⟨s1,s2,s3,s4⟩:=zG2 h hp v;unfold gtI;have e:AI it.p (it.e-it.p)=AI it.p ((skI v it).p-it.p)++AI (skI v it).p ((skI v it).e-(skI v it).p):=by
  have:=s1.pe
  rw[show it.e-it.p=((skI v it).p-it.p)+((skI v it).e-(skI v it).p) by show _=_+(it.e-_);have:(skI v it).p<=it.e:=s1.pe;omega,<-BW,show it.p+((skI v it).p-it.p)=(skI v it).p by omega]
 rw[e,List.filter_append,AD];exact Nat.le_add_left _ _
variable{key:Va}
theorem gt_key{nx:Va}(h:vcmp key nx<0):gtI nx it<=gtI key it:=by
 unfold gtI;refine zVx _ _ _ λj _ hj=>?_;grind [zLj]
theorem gt_lt(hp:it.p<it.e)(h:vcmp key (keyI it)<0):gtI (keyI it) it<gtI key it:=by
 unfold gtI;refine filt_lt _ _ _ (λj _ hj=>?_) ⟨it.p,by simp;omega,?_,?_⟩
 ·grind [zLj]
 ·rw[decide_eq_false_iff_not];exact zHp _
 rw[decide_eq_true_eq];exact h
theorem zJn(ix:List Nat)(its:List It)(i:Nat)(x:It)(u w:Va)(hi:i<its.length)(h:∀j∈ix,j≠i->gtI w (its.getD j Ab)<=gtI u (its.getD j Ab))(hx:gtI w x<=gtI u (its.getD i Ab)):gtA ix (its.set i x) w<=gtA ix its u:=by
 unfold gtA;induction ix<;>grind
theorem zNu(ix:List Nat)(its:List It)(i:Nat)(x:It)(u w:Va)(hi:i<its.length)(him:i∈ix)(h:∀j∈ix,j≠i->gtI w (its.getD j Ab)<=gtI u (its.getD j Ab))(hx:gtI w x<gtI u (its.getD i Ab)):gtA ix (its.set i x) w<gtA ix its u:=by
 induction ix with
 |nil=>simp at him
 |cons j ix ih=>
  have le:=zJn ix its i x u w hi (λk hk=>h k (BZ _ hk)) (BX hx);show gtI w ((its.set i x).getD j Ab)+gtA ix (its.set i x) w<gtI u (its.getD j Ab)+gtA ix its u;grind
structure Adv(a b:It):Prop where
 t:b.t=a.t
 l:b.l=a.l
 e:b.e=a.e
 fr:b.fr=a.fr
 p:a.p<=b.p
theorem Adv.refl(a:It):Adv a a:=⟨rfl,rfl,rfl,rfl,Au _⟩
theorem Adv.trans{a b c:It}(h:Adv a b)(k:Adv b c):Adv a c:=⟨k.t.trans h.t,k.l.trans h.l,k.e.trans h.e,k.fr.trans h.fr,Ax h.p k.p⟩
theorem Adv.has{a b:It}(h:Adv a b){d:Va}(k:has b d):has a d:=by
 obtain⟨j,j1,j2,j3⟩:=k;exact⟨j,Ax h.p j1,h.e▸j2,by rw[<-j3,h.t,h.l]⟩
variable{x:It}{its:List It}
theorem zAa(h:i<its.length):(its.set i x).getD i Ab=x:=by
 grind
theorem zBf(h:j≠i):(its.set i x).getD j Ab=its.getD j default:=by
 grind
def zJi(ix:List Nat)(its:List It)(d:Va):Prop:=∀i∈ix,has (its.getD i Ab) d
structure Met(ix:List Nat)(its:List It)(r:List It×Nat×Bool):Prop where
 len:r.1.length=its.length
 out:∀i,i∉ix->r.1.getD i Ab=its.getD i Ab
 adv:∀i∈ix,Adv (its.getD i Ab) (r.1.getD i Ab)
 lv:∀i∈ix,LvI (r.1.getD i Ab)
 com:∀d,zJi ix its d↔r.2.2=Ac/\zJi ix r.1 d
 key:r.2.2=Ac->∃c,∀i∈ix,(r.1.getD i Ab).p<(r.1.getD i Ab).e/\keyI (r.1.getD i Ab)=c
variable{same:Nat}
theorem idx_cover{L:Nat}(h1:L<=same)(h2:same<=k)(hq:q<L):∃m,1<=m/\m<=same/\m<=k/\(k-m)%L=q:=by
 have hr:=Ch k L;have hlt:=By k (show 0<L by omega);generalize hR:k%L=r at*;generalize hD:k/L=d at*;rcases Az q r with h|h
 ·refine⟨r-q,by omega,by omega,by omega,?_⟩;rw[show k-(r-q)=q+L*d by omega,Co,Nat.mod_eq_of_lt hq]
 have hd:1<=d:=by
  grind
 obtain⟨d,rfl⟩:∃d',d=d'+1:=⟨d-1,by omega⟩;rw[Nat.mul_succ]at hr;refine⟨r+L-q,by omega,by omega,by omega,?_⟩;rw[show k-(r+L-q)=q+L*d by omega,Co,Nat.mod_eq_of_lt hq]
theorem idx_ne{L:Nat}(h1:1<=m)(h2:m<L)(h3:m<=k):(k-m)%L≠k%L:=by
 intro h;have hr:=Ch k L;have hr2:=Ch (k-m) L;rw[h]at hr2;have e:L*(k/L)=L*((k-m)/L)+m:=by omega
 have:L∣m:=by
  refine⟨k/L-(k-m)/L,?_⟩;rw[Nat.mul_sub];omega
 have:=Nat.le_of_dvd (by omega) this
 omega
theorem zAz{ix:List Nat}(h:q<ix.length):ix.getD q 0∈ix:=by
 grind
theorem zZ9{ix:List Nat}(hn:ix.Nodup){r:Nat}(hq:q<ix.length)(hr:r<ix.length)(h:q≠r):ix.getD q 0≠ix.getD r 0:=by
 simp only[AW,Br hq,Br hr,Option.getD_some];grind [List.getElem_inj]
theorem mtL_spec(ix:List Nat)(hn:ix.Nodup)(h0:0<ix.length):∀(f:Nat)(its:List It)(key:Va)(same k s:Nat),(∀i∈ix,i<its.length/\LvI (its.getD i Ab)/\(its.getD i Ab).p<(its.getD i Ab).e)->1<=same->same<=ix.length->same<=k->(∀m,1<=m->m<=same->keyI (its.getD (ix.getD ((k-m)%ix.length) 0) Ab)=key)->msr ix its key same<=f->Met ix its (mtL ix f its key same k s):=by
 have fin:∀(its:List It)(key:Va)(same k s:Nat),(∀i∈ix,i<its.length/\LvI (its.getD i Ab)/\(its.getD i Ab).p<(its.getD i Ab).e)->ix.length<=same->same<=k->(∀m,1<=m->m<=same->keyI (its.getD (ix.getD ((k-m)%ix.length) 0) Ab)=key)->Met ix its (its,s,Ac):=by
  intro its key same k s hl hs hk hkey;refine⟨rfl,λ_ _=>rfl,λi _=>Adv.refl _,λi hi=>(hl i hi).2.1,λd=>⟨λh=>⟨rfl,h⟩,λh=>h.2⟩,λ_=>⟨key,λi hi=>⟨(hl i hi).2.2,?_⟩⟩⟩;obtain⟨q,hq,rfl⟩:=List.getElem_of_mem hi;obtain⟨m,m1,m2,m3,m4⟩:=idx_cover hs hk hq;grind
 intro f;induction f with
 |zero=>
  intro its key same k s hl s1 s2 hk hkey hm;have:ix.length<=same:=by unfold msr at hm;omega
  exact fin its key same k s hl this hk hkey
 | succ f ih=>
  intro its key same k s hl s1 s2 hk hkey hm;unfold mtL;by_cases hs:same<ix.length
  ·rw [if_pos hs];have hq:k%ix.length<ix.length:=By _ h0;have hi:=zAz hq;generalize hI:ix.getD (k%ix.length) 0=i at*;obtain⟨hil,hlv,hpe⟩:=hl i hi;obtain⟨sk1,sk2,sk3,sk4⟩:=zG2 hlv hpe key;have hgt:=λu=>gt_sk hlv hpe key u;have hhas:=λd hd=>has_sk (d:=d) hlv hpe (v:=key) hd;have hadv:Adv (its.getD i Ab) (skI key (its.getD i Ab)):=⟨rfl,rfl,rfl,rfl,sk2⟩;have hcom:∀d,zJi ix its d->¬vcmp d key<0:=λd hd=>by
    have hq1:(k-1)%ix.length<ix.length:=By _ h0;have h1:=hkey 1 (Au _) s1;have h2:=hl _ (zAz hq1);have h3:=has_ge h2.2.1 (hd _ (zAz hq1));rw[h1]at h3;exact h3
   have hon:=zN1 sk1;generalize hX:skI key (its.getD i Ab)=X at*;have hall:∀d,zJi ix its d↔zJi ix (its.set i X) d:=λd=>by
    constructor
    ·intro h j hj;by_cases e:j=i
     ·subst e;rw[zAa hil];exact(hhas d (hcom d h)).1 (h j hj)
     rw[zBf e];exact h j hj
    intro h j hj
    have:=h j hj
    by_cases e:j=i
    ·subst e;rw[zAa hil]at this;exact hadv.has this
    grind
   have hXe:X.e=(its.getD i Ab).e:=hadv.e;have hkeep:∀m,1<=m->m<=same->keyI ((its.set i X).getD (ix.getD ((k-m)%ix.length) 0) Ab)=key:=λm m1 m2=>by
    have hne:ix.getD ((k-m)%ix.length) 0≠i:=by
     rw[<-hI];exact zZ9 hn (By _ h0) hq (idx_ne m1 (by omega) (by omega))
    grind
   have rest:∀r,Met ix (its.set i X) r->Met ix its r:=λr h=>by
    refine⟨by rw[h.len,AP],λj hj=>by rw[h.out j hj,zBf (λe:j=i=>hj (by rw[e];exact hi))],λj hj=>?_,h.lv,λd=>(hall d).trans (h.com d),h.key⟩
    have:=h.adv j hj
    by_cases e:j=i
    ·subst e;rw[zAa hil]at this;exact hadv.trans this
    grind
   by_cases hp:X.p<X.e
   ·rw [hon,decide_eq_true hp,if_pos rfl];have hl2:∀j∈ix,j<(its.set i X).length/\LvI ((its.set i X).getD j Ab)/\((its.set i X).getD j Ab).p<((its.set i X).getD j Ab).e:=λj hj=>by
     grind
    by_cases he:vcmp (keyI X) key=0
    ·rw[if_pos he];refine rest _ (ih _ _ _ _ _ hl2 (by omega) (by omega) (by omega) (λm m1 m2=>?_) ?_)
     ·rcases Az 1 m with hm1|hm1
      ·have:=hkeep (m-1) (by omega) (by omega)
       rw[show k+1-m=k-(m-1) by omega];exact this
      obtain rfl:m=1:=by omega
      grind [Bt,zAa,zAy]
     have:=zJn ix its i X key key hil (λ_ _ _=>Au _) (hgt key)
     have:=A3 (ix.length+1) this
     unfold msr at hm⊢;omega
    rw[if_neg he];have hlt:vcmp key (keyI X)<0:=by
     grind [zAy,keyI]
    refine rest _ (ih _ _ _ _ _ hl2 (by omega) (by omega) (by omega) (λm m1 m2=>?_) ?_)
    ·obtain rfl:m=1:=by omega
     grind
    have:=zNu ix its i X key (keyI X) hil hi (λj _ _=>gt_key hlt) (Bv (gt_lt hp hlt) (hgt key))
    have:=A3 (ix.length+1) (Nat.succ_le_of_lt this)
    grind [A9,msr]
   rw[hon,decide_eq_false hp,if_neg (by decide)];refine rest _ ⟨rfl,λ_ _=>rfl,λj hj=>Adv.refl _,λj hj=>?_,λd=>⟨λh=>?_,λh=>absurd h.1 Bz⟩,λh=>absurd h Bz⟩
   ·grind
   obtain⟨j,j1,j2,_⟩:=h i hi;grind
  rw[if_neg hs];exact fin its key same k s hl (by omega) hk hkey
theorem zD1(ix:List Nat)(hn:ix.Nodup)(h0:0<ix.length)(its:List It)(s:Nat)(hl:∀i∈ix,i<its.length/\LvI (its.getD i Ab))(hp:∀i∈ix,i≠ix.getD 0 0->(its.getD i Ab).p<(its.getD i Ab).e):Met ix its (metJ ix its s):=by
 have hm:=zAz h0;have hon:=zN1 (hl _ hm).2;unfold metJ;by_cases h:(its.getD (ix.getD 0 0) Ab).p<(its.getD (ix.getD 0 0) Ab).e
 ·rw[hon,decide_eq_true h,if_pos rfl];refine mtL_spec ix hn h0 _ _ _ _ _ _ (λi hi=>⟨(hl i hi).1,(hl i hi).2,?_⟩) (Au _) (by omega) (Au _) (λm m1 m2=>?_) (Au _)
  ·grind
  simp_all
 rw[hon,decide_eq_false h,if_neg (by decide)];refine⟨rfl,λ_ _=>rfl,λj hj=>Adv.refl _,λj hj=>(hl j hj).2,λd=>⟨λh'=>?_,λh=>absurd h.1 Bz⟩,λh=>absurd h Bz⟩;obtain⟨j,j1,j2,_⟩:=h' _ hm;omega
def RSr(it:It):List (List Va):=rws (it.t.drop (it.l-1)) it.p it.e
def RS(it:It):List (List Va):=match it.l with
 |0=>rws it.t 0 (szT it.t)
 |k+1=>rws (it.t.drop (k+1)) ((fst' it.t k).getD it.p 0) ((fst' it.t k).getD (it.p+1) 0)
theorem zJw(h1:1<=it.l)(h2:it.l<=it.t.length)(d:Va)(z:List Va):d::z∈RSr it↔∃j,it.p<=j/\j<it.e/\(vls it.t (it.l-1)).getD j Ab=d/\z∈rws (it.t.drop it.l) ((fst' it.t (it.l-1)).getD j 0) ((fst' it.t (it.l-1)).getD (j+1) 0):=by
 unfold RSr;rw[zQ5 h1 h2];simp only[rws,List.mem_flatMap,List.mem_range'_1,BM,List.cons.injEq];grind
structure Res(a b:It):Prop where
 t:b.t=a.t
 l:b.l=a.l
 p:b.p=a.p
 e:b.e=a.e
 fl:b.fr.length=a.fr.length
 fr:∀j,j<a.l->b.fr.getD j (0,0)=a.fr.getD j (0,0)
theorem Res.refl(a:It):Res a a:=⟨rfl,rfl,rfl,rfl,rfl,λ_ _=>rfl⟩
theorem Res.RS{a b:It}(h:Res a b):RS b=RS a:=by
 unfold Go.Proofs.YtjcofbkhoeockaaGreatDoor.RS;rw[h.l,h.t,h.p]
theorem Res.RSr{a b:It}(h:Res a b):RSr b=RSr a:=by
 unfold Go.Proofs.YtjcofbkhoeockaaGreatDoor.RSr;rw[h.l,h.t,h.p,h.e]
variable{b:It}
theorem Res.lv{a:It}(h:Res a b)(k:LvI a):LvI b:=⟨by rw[h.l];exact k.l1,by rw[h.l,h.t];exact k.l2,by rw[h.p,h.e];exact k.pe,by rw[h.l,h.t,h.p,h.e];exact k.sib⟩
structure AtI(d l:Nat)(it:It):Prop where
 tl:it.t.length=d
 ll:it.l=l
 fl:it.fr.length=32
 d32:d<=32
 root:d≠0->Sib it.t 0 (szT it.t)
 lv:0<l->LvI it/\it.p<it.e
structure InI(d l:Nat)(it:It):Prop where
 tl:it.t.length=d
 ll:it.l=l
 fl:it.fr.length=32
 d32:d<=32
 root:d≠0->Sib it.t 0 (szT it.t)
 lv:LvI it
variable{d:Nat}
theorem InI.at(h:InI d l it)(hp:it.p<it.e):AtI d l it:=⟨h.tl,h.ll,h.fl,h.d32,h.root,λ_=>⟨h.lv,hp⟩⟩
theorem AtI.res{a:It}(h:AtI d l a)(r:Res a b):AtI d l b:=⟨by rw[r.t];exact h.tl,by rw[r.l];exact h.ll,by rw[r.fl];exact h.fl,h.d32,by rw[r.t];exact h.root,λhl=>⟨r.lv (h.lv hl).1,by rw[r.p,r.e];exact(h.lv hl).2⟩⟩
theorem zL9(h:AtI d l it)(hl:l<d):InI d (l+1) (opI it)/\(opI it).p<(opI it).e/\RSr (opI it)=RS it/\(opI it).t=it.t/\(opI it).fr=it.fr.set l ((it.p:Nat),(it.e:Nat)):=by
 obtain⟨h1,h2,h3,h4,h5,h6⟩:=h;cases l with
 | zero=>
  have hs:=h5 (by omega);have e:opI it={it with l:=1,p:=0,e:=szT it.t,fr:=it.fr.set 0 ((it.p:Nat),(it.e:Nat))}:=by unfold opI;rw[h2]
  have hlt:0<szT it.t:=by
   cases ht:it.t with
   |nil=>rw[ht]at h1;simp at h1;omega
   |cons m t=>rw[ht]at hs;exact hs.1
  rw[e];refine⟨⟨h1,rfl,by simpa using h3,h4,h5,⟨Au _,by show 1<=it.t.length;omega,Bf _,λ_=>hs⟩⟩,hlt,?_,rfl,rfl⟩;unfold RSr RS;rw[h2];rfl
 | succ k=>
  obtain⟨lv,hp⟩:=h6 (by omega);have hs:=lv.sib hp;rw[zQ5 lv.l1 lv.l2]at hs;have hs2:=hs.2.2.2.2 it.p (Au _) hp;rw[h2,Bt]at hs2;have e:opI it={it with l:=k+2,p:=(fst' it.t k).getD it.p 0,e:=(fst' it.t k).getD (it.p+1) 0,fr:=it.fr.set (k+1) ((it.p:Nat),(it.e:Nat))}:=by unfold opI;rw[h2]
  have hlt:(fst' it.t k).getD it.p 0<(fst' it.t k).getD (it.p+1) 0:=by
   have:it.t.drop (k+1)≠[]:=by simp;omega
   cases ht:it.t.drop (k+1)with
   |nil=>exact absurd ht this
   |cons m t=>rw[ht]at hs2;exact hs2.1
  rw[e];refine⟨⟨h1,rfl,by simpa using h3,h4,h5,⟨by show 1<=k+2;omega,by show k+2<=it.t.length;omega,BX hlt,λ_=>hs2⟩⟩,hlt,?_,rfl,rfl⟩;unfold RSr RS;rw[h2];rfl
section
variable(n na:Nat)(vs:Nat->List Nat)
def ats(v:Nat):List Nat:=(Aw na).filter λa=>decide (v∈vs a)
def cnt(a v:Nat):Nat:=((vs a).filter λw=>decide (w<v)).length
def prj(a v:Nat)(y:List Va):List Va:=((vs a).filter λw=>decide (v<=w)).map λw=>y.getD w Ab
structure Vok:Prop where
 asc:∀a,a<na->(vs a).Pairwise (· <·)
 lt:∀a,a<na->∀w∈vs a,w<n
 cov:∀v,v<n->∃a,a<na/\v∈vs a
structure AtV(v:Nat)(its:List It):Prop where
 len:its.length=na
 one:∀a,a<na->AtI (vs a).length (cnt vs a v) (its.getD a Ab)
structure InV(v:Nat)(its:List It):Prop where
 len:its.length=na
 inn:∀a,a<na->v∈vs a->InI (vs a).length (cnt vs a v+1) (its.getD a Ab)
 out:∀a,a<na->v∉vs a->AtI (vs a).length (cnt vs a v) (its.getD a Ab)
def Tv(v:Nat)(its:List It)(y:List Va):Prop:=∀a,a<na->if v∈vs a then prj vs a v y∈RSr (its.getD a Ab)else prj vs a v y∈RS (its.getD a Ab)
theorem zV:a∈ats na vs v↔a<na/\v∈vs a:=by simp[ats]
theorem zKv(v:Nat):(ats na vs v).Nodup:=List.Pairwise.filter _ List.nodup_range
variable{n na vs}
theorem Vok.pos(hv:Vok n na vs)(h:v<n):0<(ats na vs v).length:=by
 obtain⟨a,h1,h2⟩:=hv.cov v h;exact List.length_pos_of_mem ((zV na vs).2 ⟨h1,h2⟩)
theorem zJ8:∀(l:List Nat)(v:Nat),l.Pairwise (· <·)->l.filter (λw=>decide (v<=w))=if v∈l then v::l.filter (λw=>decide (v+1<=w))else l.filter λw=>decide (v+1<=w)
 |[],v,h=>by simp
 |a::l,v,h=>by
  have ih:=zJ8 l v (A8.1 h).2;have h1:=(A8.1 h).1;grind
theorem zM5:∀(l:List Nat)(v:Nat),l.Pairwise (· <·)->(l.filter λw=>decide (w<v+1)).length=(l.filter λw=>decide (w<v)).length+if v∈l then 1 else 0
 |[],v,h=>by simp
 |a::l,v,h=>by
  have ih:=zM5 l v (A8.1 h).2;have h1:=(A8.1 h).1;grind
theorem zR9(hv:Vok n na vs)(ha:a<na)(h:v∈vs a)(y:List Va):prj vs a v y=y.getD v Ab::prj vs a (v+1) y:=by
 unfold prj;rw[zJ8 _ v (hv.asc a ha),if_pos h];rfl
theorem prj_out(hv:Vok n na vs)(ha:a<na)(h:v∉vs a)(y:List Va):prj vs a v y=prj vs a (v+1) y:=by
 unfold prj;rw[zJ8 _ v (hv.asc a ha),if_neg h]
theorem cnt_in(hv:Vok n na vs)(ha:a<na)(h:v∈vs a):cnt vs a (v+1)=cnt vs a v+1:=by
 unfold cnt;rw[zM5 _ v (hv.asc a ha),if_pos h]
theorem cnt_out(hv:Vok n na vs)(ha:a<na)(h:v∉vs a):cnt vs a (v+1)=cnt vs a v:=by
 unfold cnt;rw[zM5 _ v (hv.asc a ha),if_neg h];rfl
theorem zKt(hv:Vok n na vs)(ha:a<na)(h:v∈vs a):cnt vs a v<(vs a).length:=by
 have h1:=cnt_in hv ha h;have h2:cnt vs a (v+1)<=(vs a).length:=BV _ _;omega
end
variable{a:It}{r:List It×Nat×Bool}
section
variable{n na:Nat}{vs:Nat->List Nat}
theorem zRk{y:List Va}(hv:Vok n na vs)(hi:InV na vs v its)(h:Tv na vs v its y):zJi (ats na vs v) its (y.getD v Ab):=λa ha=>by
 obtain⟨a1,a2⟩:=(zV na vs).1 ha
 have:=h a a1
 rw[if_pos a2,zR9 hv a1 a2]at this;have hl:=(hi.inn a a1 a2).lv;obtain⟨j,j1,j2,j3,_⟩:=(zJw hl.l1 hl.l2 _ _).1 this;exact⟨j,j1,j2,j3⟩
theorem asc_inj(h:LvI it)(i1:it.p<=i)(i2:i<it.e)(j1:it.p<=j)(j2:j<it.e)(e:(vls it.t (it.l-1)).getD i Ab=(vls it.t (it.l-1)).getD j Ab):i=j:=by
 rcases Nat.lt_trichotomy i j with h1|h1|h1
 ·have:=h.asc i1 h1 j2;rw[e]at this;exact absurd this (zHp _)
 ·exact h1
 have:=h.asc j1 h1 i2;rw[e]at this;exact absurd this (zHp _)
theorem adv_RSr(h:Adv a b)(ha:LvI a){d:Va}(hd:has b d)(z:List Va):d::z∈RSr a↔d::z∈RSr b:=by
 rw[zJw ha.l1 ha.l2,zJw (by rw[h.l];exact ha.l1) (by rw[h.l,h.t];exact ha.l2),h.t,h.l,h.e];constructor
 ·rintro⟨j,j1,j2,j3,j4⟩;obtain⟨k,k1,k2,k3⟩:=hd;rw[h.e]at k2;rw[h.t,h.l]at k3
  have:=asc_inj ha j1 j2 (Ax h.p k1) k2 (j3.trans k3.symm)
  grind
 rintro⟨j,j1,j2,j3,j4⟩;exact⟨j,Ax h.p j1,j2,j3,j4⟩
theorem zFk(hi:InV na vs v its)(hm:Met (ats na vs v) its r):InV na vs v r.1:=by
 refine⟨hm.len.trans hi.len,λa a1 a2=>?_,λa a1 a2=>?_⟩
 ·have hx:=hm.adv a ((zV na vs).2 ⟨a1,a2⟩);obtain⟨h1,h2,h3,h4,h5,h6⟩:=hi.inn a a1 a2;exact⟨by rw[hx.t];exact h1,by rw[hx.l];exact h2,by rw[hx.fr];exact h3,h4,by rw[hx.t];exact h5,hm.lv a ((zV na vs).2 ⟨a1,a2⟩)⟩
 rw[hm.out a λh=>a2 ((zV na vs).1 h).2];exact hi.out a a1 a2
theorem zW2(hv:Vok n na vs)(hi:InV na vs v its)(hm:Met (ats na vs v) its r)(y:List Va):Tv na vs v its y↔Tv na vs v r.1 y:=by
 have key:zJi (ats na vs v) r.1 (y.getD v Ab)->(Tv na vs v its y↔Tv na vs v r.1 y):=λhh=>by
  refine forall_congr' λa=>forall_congr' λha=>?_;by_cases hva:v∈vs a
  ·rw[if_pos hva,if_pos hva,zR9 hv ha hva];have hma:=(zV na vs).2 ⟨ha,hva⟩;exact adv_RSr (hm.adv a hma) (hi.inn a ha hva).lv (hh a hma) _
  rw[if_neg hva,if_neg hva,hm.out a λh=>hva ((zV na vs).1 h).2]
 constructor
 ·intro h;exact(key ((hm.com _).1 (zRk hv hi h)).2).1 h
 grind [zRk,zFk]
structure ExtP(n na:Nat)(vs:Nat->List Nat)(v:Nat)(S S':Js):Prop where
 len:S'.its.length=na
 res:∀a,a<na->Res (S.its.getD a Ab) (S'.its.getD a Ab)
 row:S'.row.length=n
 take:S'.row.take v=S.row.take v
 ys:∃J,S'.ys=S.ys++J/\Rsc J/\∀y,y∈J↔(y.length=n/\y.take v=S.row.take v/\∀a,a<na->prj vs a v y∈RS (S.its.getD a Ab))
structure LpP(n na:Nat)(vs:Nat->List Nat)(v:Nat)(S S':Js):Prop where
 len:S'.its.length=na
 res:∀a,a<na->v∉vs a->Res (S.its.getD a Ab) (S'.its.getD a Ab)
 adv:∀a,a<na->v∈vs a->(S'.its.getD a Ab).t=(S.its.getD a Ab).t/\(S'.its.getD a Ab).l=(S.its.getD a Ab).l/\(S'.its.getD a Ab).fr.length=(S.its.getD a Ab).fr.length/\∀j,j<(S.its.getD a Ab).l->(S'.its.getD a Ab).fr.getD j (0,0)=(S.its.getD a Ab).fr.getD j (0,0)
 row:S'.row.length=n
 take:S'.row.take v=S.row.take v
 ys:∃J,S'.ys=S.ys++J/\Rsc J/\∀y,y∈J↔(y.length=n/\y.take v=S.row.take v/\Tv na vs v S.its y)
theorem zBt(l:List α)(d:α)(v:Nat)(h:v<l.length):l.take (v+1)=l.take v++[l.getD v d]:=by
 simp_all
theorem zPv(l:List α)(c:α)(v:Nat)(h:v<l.length):(l.set v c).take (v+1)=l.take v++[c]:=by
 rw[zBt _ c v (by simpa using h),List.take_set_of_le (Au _),AW,B3 h];rfl
theorem zH3(rec:Js->Js)(ix:List Nat)(v:Nat):∀(f:Nat)(S:Js),lpJ rec ix v f Aa S=S
 |0,_=>rfl
 |_+1,_=>rfl
theorem zQu(rec:Js->Js)(ix:List Nat)(v f:Nat)(S:Js)(S1:Js)(its2:List It)(h1:S1=rec {S with row:=S.row.set v (keyI (S.its.getD (ix.getD 0 0) Ab))})(h2:its2=S1.its.set (ix.getD 0 0) (nxI (S1.its.getD (ix.getD 0 0) Ab)))(hl:ix.getD 0 0<S1.its.length):lpJ rec ix v (f+1) Ac S=
  lpJ rec ix v f (metJ ix its2 S1.s).2.2 {S1 with its:=(metJ ix its2 S1.s).1,s:=(metJ ix its2 S1.s).2.1}:=by
 rw[lpJ];simp only[<-h1,<-h2];split
 ·rfl
 rename_i h;have hx:its2.getD (ix.getD 0 0) Ab=nxI (S1.its.getD (ix.getD 0 0) Ab):=by rw[h2,zAa hl]
 have hm:metJ ix its2 S1.s=(its2,S1.s,Aa):=by
  grind [metJ]
 rw[hm,zH3]
theorem res_inn(h:InI d l a)(r:Res a b):InI d l b:=⟨by rw[r.t];exact h.tl,by rw[r.l];exact h.ll,by rw[r.fl];exact h.fl,h.d32,by rw[r.t];exact h.root,r.lv h.lv⟩
theorem nx_inn(h:InI d l a)(hp:a.p<a.e):InI d l (nxI a):=⟨h.tl,h.ll,h.fl,h.d32,h.root,⟨h.lv.l1,h.lv.l2,hp,λhlt=>sib_sub (h.lv.sib hp) (AJ _) hlt⟩⟩
theorem zSr(hl:LvI a){d:Va}(hd:has (nxI a) d):vcmp (keyI a) d<0:=by
 obtain⟨j,j1,j2,rfl⟩:=hd;exact hl.asc (Au _) j1 j2
theorem key_RSr(hl:LvI a)(hp:a.p<a.e)(z:List Va):keyI a::z∈RSr a↔z∈RS a:=by
 rw[zJw hl.l1 hl.l2];have e:RS a=rws (a.t.drop a.l) ((fst' a.t (a.l-1)).getD a.p 0) ((fst' a.t (a.l-1)).getD (a.p+1) 0):=by
  unfold RS
  have:=hl.l1
  grind
 rw[e];constructor
 ·rintro⟨j,j1,j2,j3,j4⟩
  have:=asc_inj hl j1 j2 (Au _) hp j3
  subst this;exact j4
 intro h;exact⟨a.p,Au _,hp,rfl,h⟩
theorem zVk(hv:Vok n na vs)(hvn:v<n)(rec:Js->Js)(hrec:∀S,AtV na vs (v+1) S.its->S.row.length=n->ExtP n na vs (v+1) S (rec S)):∀(f:Nat)(b:Bool)(S:Js),InV na vs v S.its->S.row.length=n->
  (b=Aa->∀d,¬zJi (ats na vs v) S.its d)->(b=Ac->∃c,∀i∈ats na vs v,(S.its.getD i Ab).p<(S.its.getD i Ab).e/\keyI (S.its.getD i Ab)=c)->(S.its.getD ((ats na vs v).getD 0 0) Ab).e-(S.its.getD ((ats na vs v).getD 0 0) Ab).p<=f->LpP n na vs v S (lpJ rec (ats na vs v) v f b S):=by
 have h0:=hv.pos hvn;have hi0:=zAz h0;have hn:=zKv na vs v;obtain⟨hi1,hi2⟩:=(zV na vs).1 hi0;have no:∀S:Js,InV na vs v S.its->S.row.length=n->(∀d,¬zJi (ats na vs v) S.its d)->LpP n na vs v S S:=λS hi hr hb=>by
  refine⟨hi.len,λa _ _=>Res.refl _,λa _ _=>⟨rfl,rfl,rfl,λ_ _=>rfl⟩,hr,rfl,[],by simp,List.Pairwise.nil,λy=>⟨λh=>by simp at h,λh=>absurd (zRk hv hi h.2.2) (hb _)⟩⟩
 intro f;induction f with
 | zero=>
  intro b S hi hr hb1 hb2 hf;cases b with
  |false=>exact no S hi hr (hb1 rfl)
  |true=>
   grind
 | succ f ih=>
  intro b S hi hr hb1 hb2 hf;cases b with
  |false=>rw[zH3];exact no S hi hr (hb1 rfl)
  | true =>
   obtain⟨c,hc⟩:=hb2 rfl;obtain⟨S1,hS1⟩:∃S1,S1=rec {S with row:=S.row.set v (keyI (S.its.getD ((ats na vs v).getD 0 0) Ab))}:=⟨_,rfl⟩;obtain⟨its2,hits2⟩:∃x,x=S1.its.set ((ats na vs v).getD 0 0) (nxI (S1.its.getD ((ats na vs v).getD 0 0) Ab)):=⟨_,rfl⟩;have hat:AtV na vs (v+1) S.its:=⟨hi.len,λa ha=>by
    by_cases hva:v∈vs a
    ·rw[cnt_in hv ha hva];exact(hi.inn a ha hva).at (hc a ((zV na vs).2 ⟨ha,hva⟩)).1
    rw[cnt_out hv ha hva];exact hi.out a ha hva⟩
   have hk0:keyI (S.its.getD ((ats na vs v).getD 0 0) Ab)=c:=(hc _ hi0).2;have hR:=hrec {S with row:=S.row.set v (keyI (S.its.getD ((ats na vs v).getD 0 0) Ab))} hat (by simpa using hr);rw[<-hS1]at hR;obtain⟨r1,r2,r3,r4,J1,y1,y2,y3⟩:=hR;simp only at r2 r4 y1 y3;rw[hk0,zPv _ _ _ (by omega)]at r4 y3;have hl1:(ats na vs v).getD 0 0<S1.its.length:=by rw[r1];exact hi1
   rw[zQu rec _ v f S S1 its2 hS1 hits2 hl1];have hi2':InV na vs v its2:=by
    rw[hits2];refine⟨by rw[AP];exact r1,λa ha hva=>?_,λa ha hva=>?_⟩
    ·have hh:=res_inn (hi.inn a ha hva) (r2 a ha);by_cases e:a=(ats na vs v).getD 0 0
     ·subst e;rw[zAa hl1];exact nx_inn hh (by rw[(r2 _ ha).p,(r2 _ ha).e];exact(hc _ hi0).1)
     grind
    rw[zBf (λe=>hva (by rw[e];exact hi2))];exact(hi.out a ha hva).res (r2 a ha)
   have hm:=zD1 (ats na vs v) hn h0 its2 S1.s (λa ha=>⟨by rw[hi2'.len];exact((zV na vs).1 ha).1,(hi2'.inn a ((zV na vs).1 ha).1 ((zV na vs).1 ha).2).lv⟩) (λa ha hne=>by
    rw[hits2,zBf hne,(r2 a ((zV na vs).1 ha).1).p,(r2 a ((zV na vs).1 ha).1).e];exact(hc a ha).1)
   generalize hr':metJ (ats na vs v) its2 S1.s=r at*;have h2e:(its2.getD ((ats na vs v).getD 0 0) Ab).e=(S.its.getD ((ats na vs v).getD 0 0) Ab).e:=by
    rw[hits2,zAa hl1];exact(r2 _ hi1).e
   have h2p:(its2.getD ((ats na vs v).getD 0 0) Ab).p=(S.its.getD ((ats na vs v).getD 0 0) Ab).p+1:=by
    rw[hits2,zAa hl1];show(S1.its.getD _ Ab).p+1=_;rw[(r2 _ hi1).p]
   have hL:=ih r.2.2 {S1 with its:=r.1,s:=r.2.1} (zFk hi2' hm) r3 (λhf' d hd=>by
     have:=(hm.com d).1 λi hi=>(hm.adv i hi).has (hd i hi)
     rw[hf']at this;exact absurd this.1 (by decide)) hm.key (by
     have a1:=(hm.adv _ hi0).e;have a2:=(hm.adv _ hi0).p;have a3:=(hc _ hi0).1;show(r.1.getD _ Ab).e-(r.1.getD _ Ab).p<=f;rw[a1,h2e];rw[h2p]at a2;omega)
   obtain⟨l1,l2,l3,l4,l5,J2,z1,z2,z3⟩:=hL;simp only at l2 l3 l5 z1 z3;have t1:S1.row.take v=S.row.take v:=by
    have:=congrArg (AK v) r4
    grind
   rw[t1]at l5 z3;have split:∀y,y.length=n->y.take v=S.row.take v->(Tv na vs v S.its y↔(y.take (v+1)=S.row.take v++[c]/\∀a,a<na->prj vs a (v+1) y∈RS (S.its.getD a Ab))\/Tv na vs v its2 y):=λy hy hyt=>by
    have htk:y.take (v+1)=S.row.take v++[c]↔y.getD v Ab=c:=by
     grind [zBt,Cp]
    rw[htk];by_cases hyc:y.getD v Ab=c
    ·have hno:¬Tv na vs v its2 y:=λh=>by
      have:=zRk hv hi2' h _ hi0
      rw[hits2,zAa hl1]at this
      have:=zSr ((r2 _ hi1).lv (hi.inn _ hi1 hi2).lv) this
      have hk:keyI (S1.its.getD ((ats na vs v).getD 0 0) Ab)=c:=by
       rw[<-hk0];unfold keyI;rw[(r2 _ hi1).t,(r2 _ hi1).l,(r2 _ hi1).p]
      simp_all [zHp]
     constructor
     ·intro h;refine .inl ⟨hyc,λa ha=>?_⟩
      have:=h a ha
      by_cases hva:v∈vs a
      ·have hcc:=hc a ((zV na vs).2 ⟨ha,hva⟩);rw[if_pos hva,zR9 hv ha hva,hyc,<-hcc.2,key_RSr (hi.inn a ha hva).lv hcc.1]at this;exact this
      grind [prj_out]
     rintro(⟨_,h⟩|h)
     ·intro a ha
      have:=h a ha
      by_cases hva:v∈vs a
      ·have hcc:=hc a ((zV na vs).2 ⟨ha,hva⟩);rw[if_pos hva,zR9 hv ha hva,hyc,<-hcc.2,key_RSr (hi.inn a ha hva).lv hcc.1];exact this
      grind [prj_out]
     exact absurd h hno
    have key:Tv na vs v S.its y↔Tv na vs v its2 y:=by
     refine forall_congr' λa=>forall_congr' λha=>?_;by_cases hva:v∈vs a
     ·rw [if_pos hva,if_pos hva,hits2];by_cases e:a=(ats na vs v).getD 0 0
      ·subst e;have hlv:=(hi.inn _ ha hva).lv;rw[zAa hl1,zR9 hv ha hva];have e1:RSr (nxI (S1.its.getD ((ats na vs v).getD 0 0) Ab))=RSr (nxI (S.its.getD ((ats na vs v).getD 0 0) Ab)):=by
        unfold RSr nxI;simp only[(r2 _ hi1).t,(r2 _ hi1).l,(r2 _ hi1).p,(r2 _ hi1).e]
       rw[e1,zJw hlv.l1 hlv.l2,zJw (it:=nxI _) hlv.l1 hlv.l2];constructor
       ·rintro⟨j,j1,j2,j3,j4⟩;refine⟨j,?_,j2,j3,j4⟩;rcases Az (S.its.getD ((ats na vs v).getD 0 0) Ab).p j with h|h
        ·exact h
        have:j=(S.its.getD ((ats na vs v).getD 0 0) Ab).p:=by omega
        subst this;exact absurd (j3.symm.trans hk0) hyc
       rintro⟨j,j1,j2,j3,j4⟩;exact⟨j,Ax (AJ _) j1,j2,j3,j4⟩
      rw[zBf e,(r2 a ha).RSr]
     rw[if_neg hva,if_neg hva,hits2,zBf (λe=>hva (by rw[e];exact hi2)),(r2 a ha).RS]
    grind
   refine⟨l1,λa ha hva=>?_,λa ha hva=>?_,l4,l5,J1++J2,by rw[z1,y1,A5],?_,λy=>?_⟩
   ·have q1:=l2 a ha hva;rw[hm.out a λh=>hva ((zV na vs).1 h).2,hits2,zBf (λe=>hva (by rw[e];exact hi2))]at q1;have q2:=r2 a ha;exact⟨q1.t.trans q2.t,q1.l.trans q2.l,q1.p.trans q2.p,q1.e.trans q2.e,q1.fl.trans q2.fl,λj hj=>(q1.fr j (by rw[q2.l];exact hj)).trans (q2.fr j hj)⟩
   ·obtain⟨q1,q2,q3,q4⟩:=l3 a ha hva;have q5:=hm.adv a ((zV na vs).2 ⟨ha,hva⟩);have q6:=r2 a ha;have q7:(its2.getD a Ab).t=(S.its.getD a Ab).t/\(its2.getD a Ab).l=(S.its.getD a Ab).l/\(its2.getD a Ab).fr=(S1.its.getD a Ab).fr:=by
     rw[hits2];by_cases e:a=(ats na vs v).getD 0 0
     ·subst e;rw[zAa hl1];exact⟨q6.t,q6.l,rfl⟩
     rw[zBf e];exact⟨q6.t,q6.l,rfl⟩
    refine⟨q1.trans (q5.t.trans q7.1),q2.trans (q5.l.trans q7.2.1),by rw[q3,q5.fr,q7.2.2,q6.fl],λj hj=>?_⟩;rw[q4 j (by rw[q5.l,q7.2.1];exact hj),q5.fr,q7.2.2];exact q6.fr j hj
   ·refine List.pairwise_append.2 ⟨y2,z2,λa ha b hb=>?_⟩;obtain⟨a1,a2,a3⟩:=(y3 a).1 ha;obtain⟨b1,b2,b3⟩:=(z3 b).1 hb;have ea:=zBt a Ab v (by omega);have hav:a.take v=S.row.take v:=by
     have:=congrArg (AK v) a2
     grind
    rw[a2,hav,Cp]at ea;simp only[List.cons.injEq,and_true]at ea;have hbv:=zRk hv hi2' ((zW2 hv hi2' hm b).2 b3) _ hi0;rw[hits2,zAa hl1]at hbv;have hgt:=zSr ((r2 _ hi1).lv (hi.inn _ hi1 hi2).lv) hbv;have hk:keyI (S1.its.getD ((ats na vs v).getD 0 0) Ab)=c:=by
     rw[<-hk0];unfold keyI;rw[(r2 _ hi1).t,(r2 _ hi1).l,(r2 _ hi1).p]
    rw[hk]at hgt;rw[rcmp_at v a b (by omega) (by omega) (hav.trans b2.symm) (by rw[<-ea];omega),<-ea];exact hgt
   rw [Bj,y3,z3];constructor
   ·rintro(⟨h1,h2,h3⟩|⟨h1,h2,h3⟩)
    ·have hav:y.take v=S.row.take v:=by
      have:=congrArg (AK v) h2
      grind
     grind
    grind [zW2]
   grind [zW2]
end
section
variable{n na:Nat}{vs:Nat->List Nat}
theorem zKd(g:It->It):∀(ix:List Nat)(its:List It),(ix.foldl (λits i=>its.set i (g (its.getD i Ab))) its).length=its.length
 |[],_=>rfl
 |i::ix,its=>by rw[A_,zKd g ix,AP]
theorem zHi(g:It->It):∀(ix:List Nat)(its:List It),ix.Nodup->(∀i∈ix,i<its.length)->∀j,(ix.foldl (λits i=>its.set i (g (its.getD i Ab))) its).getD j Ab=if j∈ix then g (its.getD j Ab)else its.getD j Ab
 |[],its,hn,hl,j=>by simp
 |i::ix,its,hn,hl,j=>by
  have hn':=Ca.1 hn;rw[A_,zHi g ix _ hn'.2 (λk hk=>by rw[AP];exact hl k (by simp[hk]))];grind
theorem zJf(hv:Vok n na vs):∀(m v:Nat)(S:Js),m+v=n->AtV na vs v S.its->S.row.length=n->ExtP n na vs v S (extJ (ats na vs) m v S):=by
 intro m;induction m with
 | zero=>
  intro v S hmv ha hr;obtain rfl:v=n:=by omega
  unfold extJ;refine⟨ha.len,λa _=>Res.refl _,hr,rfl,[S.row],rfl,List.pairwise_singleton _ _,λy=>?_⟩;rw[Bm];constructor
  ·rintro rfl;refine⟨hr,rfl,λa ha'=>?_⟩;have e1:prj vs a v S.row=[]:=by
    unfold prj;rw[List.filter_eq_nil_iff.2 λw hw=>by have:=hv.lt a ha' w hw;simp;omega];rfl
   have e2:cnt vs a v=(vs a).length:=by
    unfold cnt;rw[List.filter_eq_self.2 λw hw=>by have:=hv.lt a ha' w hw;simp;omega]
   obtain⟨t1,t2,t3,t4,t5,t6⟩:=ha.one a ha';grind [RS,Cm,rws,List.drop_eq_nil_of_le]
  grind
 | succ m ih=>
  intro v S hmv ha hr;have hvn:v<n:=by omega
  have h0:=hv.pos hvn;have hi0:=zAz h0;have hn:=zKv na vs v;have hlt:∀i∈ats na vs v,i<S.its.length:=λi hi=>by rw[ha.len];exact((zV na vs).1 hi).1
  have hop:∀j,(zCe (ats na vs v) S.its).getD j Ab=if j∈ats na vs v then opI (S.its.getD j Ab)else S.its.getD j default:=zHi opI _ _ hn hlt
  have hol:(zCe (ats na vs v) S.its).length=S.its.length:=zKd opI _ _;unfold extJ;simp only;generalize hI1:zCe (ats na vs v) S.its=its1 at*;have hin:∀a,a<na->v∈vs a->its1.getD a Ab=opI (S.its.getD a Ab):=λa h1 h2=>by rw[hop,if_pos ((zV na vs).2 ⟨h1,h2⟩)]
  have hout:∀a,v∉vs a->its1.getD a Ab=S.its.getD a default:=λa h2=>by rw[hop,if_neg λh=>h2 ((zV na vs).1 h).2]
  have hsp:∀a (h1:a<na)(h2:v∈vs a),_:=λa h1 h2=>zL9 (ha.one a h1) (zKt hv h1 h2);have hi1:InV na vs v its1:=⟨by rw[hol];exact ha.len,λa h1 h2=>by rw[hin a h1 h2];exact(hsp a h1 h2).1,λa h1 h2=>by rw[hout a h2];exact ha.one a h1⟩;have hm:=zD1 (ats na vs v) hn h0 its1 S.s (λa h=>⟨by rw[hol];exact hlt a h,(hi1.inn a ((zV na vs).1 h).1 ((zV na vs).1 h).2).lv⟩) (λa h _=>by
   obtain⟨h1,h2⟩:=(zV na vs).1 h;rw[hin a h1 h2];exact(hsp a h1 h2).2.1)
  generalize hr':metJ (ats na vs v) its1 S.s=r at*;have hL:=zVk hv hvn (extJ (ats na vs) m (v+1)) (λS h1 h2=>ih (v+1) S (by omega) h1 h2) ((its1.getD ((ats na vs v).getD 0 0) Ab).e) r.2.2 {S with its:=r.1,s:=r.2.1} (zFk hi1 hm) hr (λhf' d hd=>by
   have:=(hm.com d).1 λi hi=>(hm.adv i hi).has (hd i hi)
   rw[hf']at this;exact absurd this.1 (by decide)) hm.key (by
    show(r.1.getD _ Ab).e-_<=_;rw[(hm.adv _ hi0).e];omega)
  generalize lpJ (extJ (ats na vs) m (v+1)) (ats na vs v) v ((its1.getD ((ats na vs v).getD 0 0) Ab).e) r.2.2 {S with its:=r.1,s:=r.2.1}=S2 at*;obtain⟨l1,l2,l3,l4,l5,J,z1,z2,z3⟩:=hL;simp only at l2 l3 l5 z1 z3;have hul:(zGu (ats na vs v) S2.its).length=S2.its.length:=zKd upI _ _;have hup:∀j,(zGu (ats na vs v) S2.its).getD j Ab=if j∈ats na vs v then upI (S2.its.getD j Ab)else S2.its.getD j default:=zHi upI _ _ hn λi hi=>by rw[l1];exact((zV na vs).1 hi).1
  refine⟨by rw[hul];exact l1,λa h1=>?_,l4,l5,J,z1,z2,λy=>(z3 y).trans ?_⟩
  ·simp only[hup];by_cases h2:v∈vs a
   ·have hma:=(zV na vs).2 ⟨h1,h2⟩;rw[if_pos hma];obtain⟨q1,q2,q3,q4⟩:=l3 a h1 h2;have q5:=hm.adv a hma;rw[hin a h1 h2]at q5;obtain⟨p1,p2,p3,p4,p5⟩:=hsp a h1 h2;have hal:=(ha.one a h1).ll;have hfl:=(ha.one a h1).fl;have hd:=(ha.one a h1).d32;have hc:=zKt hv h1 h2;have ell:(S2.its.getD a Ab).l=cnt vs a v+1:=by rw[q2,q5.l,p1.ll]
    have efr:∀j,j<cnt vs a v+1->(S2.its.getD a Ab).fr.getD j (0,0)=((S.its.getD a Ab).fr.set (cnt vs a v) (((S.its.getD a Ab).p:Nat),((S.its.getD a Ab).e:Nat))).getD j (0,0):=λj hj=>by
     rw[q4 j (by rw[q5.l,p1.ll];exact hj),q5.fr,p5]
    have e0:=efr (cnt vs a v) (Cc _);rw[AW (l:=AT _ _ _),B3 (by omega)]at e0;refine⟨?_,?_,?_,?_,?_,λj hj=>?_⟩
    ·show(S2.its.getD a Ab).t=_;rw[q1,q5.t,p4]
    ·show(S2.its.getD a Ab).l-1=_;rw[ell,hal];rfl
    ·show((S2.its.getD a Ab).fr.getD ((S2.its.getD a Ab).l-1) (0,0)).1.toNat=_;grind
    ·show((S2.its.getD a Ab).fr.getD ((S2.its.getD a Ab).l-1) (0,0)).2.toNat=_;grind
    ·show(S2.its.getD a Ab).fr.length=_;rw[q3,q5.fr,p5,AP]
    show(S2.its.getD a Ab).fr.getD j (0,0)=_;rw[hal]at hj;rw[efr j (by omega),AW,BN (by omega),<-AW]
   rw[if_neg λh=>h2 ((zV na vs).1 h).2]
   have:=l2 a h1 h2
   rw[hm.out a λh=>h2 ((zV na vs).1 h).2,hout a h2]at this;exact this
  refine and_congr_right λ_=>and_congr_right λ_=>?_;rw[<-zW2 hv hi1 hm];refine forall_congr' λa=>forall_congr' λh1=>?_;grind
end
variable{ops:Array Oper}{b:Bk}{dr:Bool}{c:Code}{Q:Exit->List D->List Bk->Prop}{S:Js}{bs:List Bk}{sl:List D}{K:List D->List Bk->Prop}{N:Nat}{T:Par}{P:Program}
section
open Go.RowKit
abbrev itK(it:It):Bk:=itB it.t (it.l:Nat) (it.p:Nat) (it.e:Nat) (frC it.fr) (it.s:Nat)
structure Lay where
 N:Nat
 na:Nat
 n:Nat
 jb:Nat
 rb:Nat
 tb:Nat
 ab:Nat->Nat
 ib:Nat->Nat
 vs:Nat->List Nat
 cb:Nat
 ch:List Nat
 yb:List (List Va)->Nat->Option Bk
 bs:Nat->Bk
abbrev Lay.ix(L:Lay)(v:Nat):List Nat:=ats L.na L.vs v
abbrev jB(L:Lay)(s:Nat):Bk:=⟨[.osl L.rb 0 L.n (L.n*3) Ac, .osl L.tb 0 L.n L.n Ac,iD (s:Nat), .clo (.func 135) [] [.own L.cb 0]],218,0,Aa,Aa, .plain⟩
abbrev roB(r:List Va):Bk:=⟨zG r,64,3,Ac,Aa, .plain⟩
abbrev ixB(L:Lay)(ix:List Nat):Bk:=⟨ix.map λi=> .own (L.ib i) 0,225,1,Ac,Aa, .sh⟩
abbrev tbB(L:Lay):Bk:=⟨(Aw L.n).map λv=> .osl (L.ab v) 0 (L.ix v).length (L.ix v).length Ac,219,1,Ac,Aa, .sh⟩
def blk(L:Lay)(S:Js)(k:Nat):Bk:=if k=L.jb then jB L S.s else if k=L.rb then roB S.row else match(Aw L.na).find? (λi=>L.ib i==k)with
 |some i=>itK (S.its.getD i Ab)
 |none=>(L.yb S.ys k).getD (L.bs k)
def lay(L:Lay)(S:Js):List Bk:=(Aw L.N).map (blk L S)
def namB(N:Nat)(b:Bk):Prop:=b.nob=Ac\/∀j,N<=j->zX j b.cells=Aa
structure LOk(L:Lay):Prop where
 sm:L.N<=100000
 jb:L.jb<L.N
 rb:L.rb<L.N
 tb:L.tb<L.N
 jr:L.rb≠L.jb
 ib:∀i,i<L.na->L.ib i<L.N/\L.ib i≠L.jb/\L.ib i≠L.rb
 ii:∀i j,i<L.na->j<L.na->L.ib i=L.ib j->i=j
 ts:L.tb≠L.jb/\L.tb≠L.rb/\(∀i,i<L.na->L.ib i≠L.tb)/\L.bs L.tb=tbB L/\∀ys,L.yb ys L.tb=AO
 ab:∀v,v<L.n->L.ab v<L.N/\L.ab v≠L.jb/\L.ab v≠L.rb/\(∀i,i<L.na->L.ib i≠L.ab v)/\L.bs (L.ab v)=ixB L (L.ix v)/\∀ys,L.yb ys (L.ab v)=AO
 ch:∀k∈L.ch,k≠L.jb/\k≠L.rb/\k≠L.tb/\(∀v,v<L.n->k≠L.ab v)/\∀i,i<L.na->k≠L.ib i
 cb:L.cb<L.N/\L.cb∉L.ch
 nb:∀k,k<L.N->namB L.N (L.bs k)
 ny:∀ys k b,L.yb ys k=Ai b->namB L.N b
section
variable{L:Lay}{S:Js}
theorem zAs:(lay L S).length=L.N:=by simp[lay]
theorem zD2(h:k<L.N):(lay L S)[k]?=Ai (blk L S k):=by simp[lay,h]
theorem find_ib(h:LOk L)(hi:i<L.na):(Aw L.na).find? (λj=>L.ib j==L.ib i)=Ai i:=by
 rw[List.find?_eq_some_iff_append];refine⟨by simp,Aw i,(AI (i+1) (L.na-i-1)),?_,λj hj=>?_⟩
 ·rw[List.range_eq_range',List.range_eq_range',show L.na=i+(1+(L.na-i-1)) by omega,<-BW,<-BW];simp
 have hj:=AR.1 hj;simp only[Bx,beq_eq_false_iff_ne];exact λe=>by have:=h.ii j i (by omega) hi e;omega
theorem zMy(hk:∀i,i<L.na->L.ib i≠k):(Aw L.na).find? (λi=>L.ib i==k)=none:=by
 grind
theorem blk_j:blk L S L.jb=jB L S.s:=by grind [blk]
theorem blk_r(h:LOk L):blk L S L.rb=roB S.row:=by unfold blk;rw[if_neg h.jr,if_pos rfl]
theorem blk_i(h:LOk L)(hi:i<L.na):blk L S (L.ib i)=itK (S.its.getD i Ab):=by
 unfold blk;rw[if_neg (h.ib i hi).2.1,if_neg (h.ib i hi).2.2,find_ib h hi]
theorem zNn(h:LOk L):(lay L S)[L.jb]?=Ai (jB L S.s):=by rw[zD2 h.jb,blk_j]
theorem lay_r(h:LOk L):(lay L S)[L.rb]?=Ai (roB S.row):=by rw[zD2 h.rb,blk_r h]
theorem zQv(h:LOk L)(hi:i<L.na):(lay L S)[L.ib i]?=Ai (itK (S.its.getD i Ab)):=by rw[zD2 (h.ib i hi).1,blk_i h hi]
theorem lay_t(h:LOk L):(lay L S)[L.tb]?=Ai (tbB L):=by
 obtain⟨h1,h2,h3,h4,h5⟩:=h.ts;rw[zD2 h.tb];simp_all [blk,zMy]
theorem zVm(h:LOk L)(hv:v<L.n):(lay L S)[L.ab v]?=Ai (ixB L (L.ix v)):=by
 obtain⟨h0,h1,h2,h3,h4,h5⟩:=h.ab v hv;simp_all [zD2,blk,zMy]
theorem zVl{S':Js}(h:∀j,j≠k->blk L S j=blk L S' j)(hb:blk L S' k=b):(lay L S).set k b=lay L S':=by
 apply AM;grind [lay,A4,BU,AU,Az]
theorem zMl(h:LOk L)(s:Nat):(lay L S).set L.jb (jB L s)=lay L {S with s:=s}:=by
 grind [zVl,blk_j,blk]
theorem lay_set_r(h:LOk L)(r:List Va):(lay L S).set L.rb (roB r)=lay L {S with row:=r}:=by
 grind [zVl,blk_r,blk]
theorem zH6(h:LOk L)(hi:i<L.na)(hl:i<S.its.length)(x:It):(lay L S).set (L.ib i) (itK x)=lay L {S with its:=S.its.set i x}:=by
 refine zVl (λj hj=>?_) ?_
 ·unfold blk;grind
 simp_all [blk_i,itK,zAa]
theorem zLc(it:It):(itK it).free:=zA8 (zBd _)
theorem blk_nam(h:LOk L)(hk:k<L.N):namB L.N (blk L S k):=by
 unfold blk;split
 ·refine .inr λj hj=>?_;have h1:=h.rb;have h2:=h.tb;have h3:=h.cb.1;simp only[zX,refs,AL,BF,BO,beq_eq_false_iff_ne];omega
 split
 ·exact .inl rfl
 split
 ·exact .inr λj _=>zMm (zBd _) j
 rename_i hq;cases e:L.yb S.ys k with
 |none=>exact h.nb k hk
 |some b=>exact h.ny _ _ b e
end
theorem zHo(hl:st.length=N)(hn:∀b∈st,namB N b)(hs:∀j∈ownL sl,j<N)(hk:∀k,N<=k->T.keep k=Aa):Weak T sl (st++bs) sl st:=by
 have ht:(st++bs).take N=st:=by rw[<-hl,Ci];rfl
 have:=Weak.cut (T:=T) (sl:=sl) (st:=st++bs) N ?_ hk
 ·grind
 unfold zEr;simp only[Bq,AR,BH,Bx,BI];intro i hi;refine⟨zCz sl λj hj=>by have:=hs j hj;omega,λe he=>?_⟩;rw[ht]at he;rcases hn e he with h|h;all_goals grind
def lts(N:Nat):List Nat->Prop
 |[]=>True
 |j::l=>j<N/\lts N l
theorem zQs{N:Nat}:∀{l:List Nat},lts N l->∀j∈l,j<N
 |[],_,j,hj=>by simp at hj
 |i::l,h,j,hj=>by
  rcases Bs.1 hj with rfl|hj
  ·exact h.1
  exact zQs h.2 j hj
theorem zG8{L:Lay}(h:LOk L):∀b∈lay L S,namB L.N b:=λb hb=>by
 obtain⟨k,hk,rfl⟩:=BM.1 hb;exact blk_nam h (AR.1 hk)
theorem zK7(dead:List Nat)(C:Prop)(hl:st.length=N)(hn:∀b∈st,namB N b)(hk:∀k,N<=k->T.keep k=Aa)(hC:lts N (ownL (zAr sl dead))=C)(hs:C)(k:awp P T c Q (zAr sl dead) st):zAi P T c Q sl (st++bs):=
 ⟨_,_,(BP (LeL.dead dead sl)).trans (zHo hl hn (zQs (hC▸hs)) hk),k⟩
theorem zA4{sl':List D}(C:Prop)(hl:st.length=N)(hn:∀b∈st,namB N b)(hk:∀k,N<=k->T.keep k=Aa)(hw:Weak T sl (st++bs) sl' (st++bs))(hs:C)(hC:lts N (ownL sl')=C:=by kernel_rfl):Weak T sl (st++bs) sl' st:=
 hw.trans (zHo hl hn (zQs (hC▸hs)) hk)
theorem zDd{c:List (Nat×Nat)}(h1:zFj P T ops [(q,n)] sl st)(h2:zFj P T ops c sl st):zFj P T ops ((q,n)::c) sl st:=λx hx=>by
 rcases Bs.1 hx with rfl|hx
 ·exact h1 _ (by simp)
 exact h2 x hx
def litL(P:Program)(T:Par)(o:Oper)(sl:List D):Option (Prop×D):=match o.guard with
 |some _=>AO
 | none=>match o.op with
  | .indexAddr t x i=>match zGr P t (evD sl x) (evD sl i)with
   | .lit p d=>Ai (p,d)
   |_=>AO
  | .fieldAddr t x f=>match zGs P t (evD sl x) f with
   | .lit p d=>Ai (p,d)
   |_=>AO
  |_=>AO
theorem zLb(q n:Nat)(p:Prop)(d0 d:D)(h:litL P T (ops.getD q Ab) sl=Ai (p,d0))(ed:d0=d)(hp:p)(hd:((ops.getD q Ab).dst).map (λx=>sl[x]?)=Ai (Ai d)):zFj P T ops [(q,n)] sl st:=λx hx=>by
 rw[Bm.1 hx];subst ed;simp only;generalize ops.getD q Ab=o at*;unfold litL at h;split at h
 ·cases h
 rename_i hg;split at h
 ·rename_i t x i ho;split at h
  ·rename_i p1 d1 hl;cases h;have he:aeff P T o.op o.type (evD sl) (st.take n)= .lit p d0:=by rw[ho];exact hl
   unfold zFt gv;simp only[hg,he];refine⟨by rw[ho];rfl,hp,λx hx=>?_⟩;rw[hx]at hd;simpa using hd
  cases h
 ·rename_i t x f ho;split at h
  ·rename_i p1 d1 hl;cases h;have he:aeff P T o.op o.type (evD sl) (st.take n)= .lit p d0:=by rw[ho];exact hl
   unfold zFt gv;simp only[hg,he];refine⟨by rw[ho];rfl,hp,λx hx=>?_⟩;rw[hx]at hd;simpa using hd
  cases h
 cases h
theorem zYd(q n:Nat)(e:Bk)(k:Nat)(p:Prop)(d0 d:D)(h:ldL P [ops.getD q Ab] sl e=Ai (k,p,d0))(ed:d0=d)(hk:(st.take n)[k]?=Ai e)(hp:p)(hd:((ops.getD q Ab).dst).map (λx=>sl[x]?)=Ai (Ai d)):zFj P T ops [(q,n)] sl st:=by grind [zDi]
theorem zF7(dead:List Nat)(sl':List D)(C:Prop)(hl:st.length=N)(hn:∀b∈st,namB N b)(hk:∀k,N<=k->T.keep k=Aa)(e:zAr sl dead=sl')(hC:lts N (ownL sl')=C)(hs:C)(k:awp P T c Q sl' st):zAi P T c Q sl (st++bs):=
 zK7 dead C hl hn hk (e▸hC) hs (e▸k)
theorem zF1{l:List Oper}(st':List Bk)(e:st=st')(k:seqW P T ops dr l sl st' K):seqW P T ops dr l sl st K:=e▸k
theorem next_st{b:Code}(st':List Bk)(e:st=st')(k:zAi P T b Q sl st'):zAi P T b Q sl st:=e▸k
theorem zMf{b:Code}(dead:List Nat)(sl':List D)(e:zAr sl dead=sl')(k:awp P T b Q sl' st):zAi P T b Q sl st:=⟨_,_,BP (LeL.dead dead sl),e▸k⟩
theorem zDr{o:Oper}{c:List (Nat×Nat)}(h:∀x∈c,st.length<=x.2):freesB o c sl st=true:=by
 unfold freesB;rw[Bq];intro x hx;rw[Nat.ble_eq_true_of_le (h x hx),Bool.true_or]
theorem zD9(h:st.length<=n):st.take n=st:=Bw h
structure BdI(it:It):Prop where
 vl:∀k,(vls it.t k).length<=1000000
 fl:∀k,(fst' it.t k).length<=1000001
 fc:∀k,∀c∈fst' it.t k,c<=1000000
 t32:it.t.length<=32
 f32:it.fr.length=32
theorem BdI.of{b:It}(h:BdI a)(ht:b.t=a.t)(hf:b.fr.length=a.fr.length):BdI b:=⟨by rw[ht];exact h.vl,by rw[ht];exact h.fl,by rw[ht];exact h.fc,by rw[ht];exact h.t32,by rw[hf];exact h.f32⟩
theorem LvI.lt(h:LvI it)(hb:BdI it):it.p<it.e->it.e<=1000000:=λhp=>Ax (h.len hp).1 (hb.vl _)
section
variable{st:List Bk}{k:Nat}{it:It}
theorem key_g(hst:st[k]?=Ai (itK it))(h:LvI it)(hb:BdI it)(hp:it.p<it.e):Acts As 169 [.own k 0] st [] (.tup [.agg (vaC (keyI it)),bD Ac]) st:=by
 obtain⟨t,l,p,e,fr,s⟩:=it;obtain⟨h1,h2,h3,h4⟩:=h;simp only at h1 h2 h3 h4 hp;obtain⟨l,rfl⟩:∃l',l=l'+1:=⟨l-1,by omega⟩;have hl:=LvI.len (it:=⟨t,l+1,p,e,fr,s⟩) ⟨h1,h2,h3,h4⟩ hp;have hx:=hb.vl l;have hy:=hb.t32;simp only[Bt]at hl;simp only at hx hy;have h2:=(key_a t (e:Nat) (frC fr) (s:Nat) (zBd _) l p (by omega) (by show p<(vls t l).length;omega) (by omega) (by omega)).atG (args:=[.own k 0]) (st:=st) k hst (zA8 (zBd _)) (zA8 (zBd _)) (zCl []);rw[zRs hst]at h2;exact h2
theorem keyNo_g(hst:st[k]?=Ai (itK it))(hp:it.e<=it.p):Acts As 169 [.own k 0] st [] (.tup [.agg (vaC ⟨0,0,[]⟩),bD Aa]) st:=by
 have h2:=(keyNo_a it.t (it.p:Nat) (it.e:Nat) (frC it.fr) (it.s:Nat) (zBd _) (it.l:Nat) (by
  unfold onV;rw[decide_eq_false (show¬((it.p:Nat):Int)<(it.e:Nat) by omega),Bool.and_false])).atG (args:=[.own k 0]) (st:=st) k hst (zA8 (zBd _)) (zA8 (zBd _)) (zCl [])
 rw[zRs hst]at h2;exact h2
theorem seek_g(v:Va)(hst:st[k]?=Ai (itK it))(h:LvI it)(hb:BdI it)(hp:it.p<it.e)(hs:it.s<=100000000000000000):Acts As 183 [.own k 0, .agg (vaC v)] st [] (bD (decide ((skI v it).p<(skI v it).e))) (st.set k (itK (skI v it))):=by
 have hm:=h.mon v;obtain⟨t,l,p,e,fr,s⟩:=it;obtain⟨h1,h2,h3,h4⟩:=h;simp only at h1 h2 h3 h4 hp hm hs;obtain⟨l,rfl⟩:∃l',l=l'+1:=⟨l-1,by omega⟩;have hl:=LvI.len (it:=⟨t,l+1,p,e,fr,s⟩) ⟨h1,h2,h3,h4⟩ hp;have hx:=hb.vl l;have hy:=hb.t32;have hf:=hb.f32;simp only[Bt]at hl;simp only at hx hy hf;exact(seek_a t (frC fr) (by rw[zMw,hf]) (zBd _) l p e s v (by omega) hp hl.1 (by omega) (by omega) hs hm).atG (args:=[.own k 0, .agg (vaC v)]) (st:=st) k hst (zA8 (zBd _)) (zA8 (zBd _)) (λI w β vs h=>by
  simp only[RelT,Rel,RelL,vaC]at h⊢;simpa[only]using h)
theorem next_g(hst:st[k]?=Ai (itK it))(h:LvI it)(hb:BdI it)(hp:it.p<it.e):Acts As 168 [.own k 0] st [] (bD (onI (nxI it))) (st.set k (itK (nxI it))):=by
 have hl:=h.lt hb hp;have h1:=h.l1;have h2:=(next_a it.t (it.l:Nat) (it.p:Nat) (it.e:Nat) (frC it.fr) (it.s:Nat) (by omega)).atG (args:=[.own k 0]) (st:=st) k hst (zLc _) (by
  split<;>exact zA8 (zBd _)) (zCl [])
 have e1:onV (it.l:Nat) (it.p:Nat) (it.e:Nat)=true:=by
  grind [onV]
 have e2:onV (it.l:Nat) (((it.p:Nat):Int)+1) (it.e:Nat)=onI (nxI it):=by
  unfold onV onI nxI;grind
 rw[e1,e2,BK,if_pos rfl]at h2;exact h2
theorem open_g(hst:st[k]?=Ai (itK it))(h:AtI d l it)(hb:BdI it)(hl:l<d):Acts As 166 [.own k 0] st [] (bD Ac) (st.set k (itK (opI it))):=by
 obtain⟨o1,o2,o3,o4,o5⟩:=zL9 h hl;obtain⟨h1,h2,h3,h4,h5,h6⟩:=h;have hx:=hb.vl;have hy:=hb.fl;have hz:=hb.fc;obtain⟨t,l',p,e,fr,s⟩:=it;simp only at h1 h2 h3 h5 h6 hx hy hz;subst h2;cases l' with
 |zero=>
  have ht:szT t=(zCw t 0).length:=by cases t<;>rfl
  have hn:0<(zCw t 0).length:=by rw[<-ht];exact o2
  have:=(open0_a t (p:Nat) (e:Nat) (s:Nat) fr h3 (by omega) hn).atG (args:=[.own k 0]) (st:=st) k hst (zLc ⟨t,0,p,e,fr,s⟩) (zA8 (zBd _)) (zCl [])
  rw[<-ht]at this;exact this
 |succ q=>
  obtain⟨lv,hp⟩:=h6 (by omega);have hlen:=lv.len hp;simp only[Bt]at hlen;try simp only at hp
  have hne:(fst' t q).getD p 0≠(fst' t q).getD (p+1) 0:=Nat.ne_of_lt o2
  have:=(open_a t (e:Nat) (s:Nat) fr h3 q p (by omega) (by omega) (by show p+1<(fst' t q).length;omega) (by omega) (λc hc=>by have:=hz q c hc;omega) (by have:=hy q;show(fst' t q).length<=_;omega) hne).atG (args:=[.own k 0]) (st:=st) k hst (zLc ⟨t,q+1,p,e,fr,s⟩) (zA8 (zBd _)) (zCl [])
  exact this
theorem up_g(hst:st[k]?=Ai (itK it))(hb:BdI it)(hl:1<=it.l)(hl2:it.l<=32)(h0:0<=(it.fr.getD (it.l-1) (0,0)).1/\0<=(it.fr.getD (it.l-1) (0,0)).2):Acts As 170 [.own k 0] st [] (bD Ac) (st.set k (itK (upI it))):=by
 have hf:=hb.f32;obtain⟨t,l,p,e,fr,s⟩:=it;simp only at hl hl2 h0 hf;obtain⟨l,rfl⟩:∃l',l=l'+1:=⟨l-1,by omega⟩;simp only[Bt]at h0;have h2:=(up_a t (p:Nat) (e:Nat) (s:Nat) fr hf l (by omega)).atG (args:=[.own k 0]) (st:=st) k hst (zLc ⟨t,l+1,p,e,fr,s⟩) (zA8 (zBd _)) (zCl []);have e1:(fr.getD l (0,0)).1=(((fr.getD l (0,0)).1.toNat:Nat):Int):=by omega
 have e2:(fr.getD l (0,0)).2=(((fr.getD l (0,0)).2.toNat:Nat):Int):=by omega
 rw[e1,e2]at h2;exact h2
theorem steps_g(hst:st[k]?=Ai (itK it))(hb:BdI it):Acts As 147 [.own k 0] st [] (iD (it.s:Nat)) st:=by
 have h2:=(steps_a it.t (it.l:Nat) (it.p:Nat) (it.e:Nat) (frC it.fr) (it.s:Nat) (by rw[zMw,hb.f32])).atG (args:=[.own k 0]) (st:=st) k hst (zA8 (zBd _)) (zA8 (zBd _)) (zCl []);rw[zRs hst]at h2;exact h2
end
end
theorem sk_cost(h:LvI it)(hp:it.p<it.e)(v:Va):it.s<=(skI v it).s/\(skI v it).s<=it.s+(it.e-it.p)+2:=(zXa (s:=it.s) (h.mon v) hp).2
abbrev big:Nat:=100000000000000000
structure MI(ix:List Nat)(na M:Nat)(its:List It)(key:Va)(same k s f:Nat):Prop where
 len:its.length=na
 lt:∀i∈ix,i<na
 lv:∀i∈ix,LvI (its.getD i Ab)/\(its.getD i Ab).p<(its.getD i Ab).e/\(its.getD i Ab).e-(its.getD i Ab).p<=M
 st:∀i∈ix,(its.getD i Ab).s+f*(M+2)<=big
 s1:1<=same
 s2:same<=ix.length
 kf:k+f<=big
 sf:s+f<=big
 ms:msr ix its key same<=f
abbrev ixk(ix:List Nat)(k:Nat):Nat:=ix.getD (k%ix.length) 0
variable{M:Nat}
theorem MI.mem{ix:List Nat}{na:Nat}(h:MI ix na M its key same k s f):ixk ix k∈ix:=zAz (By _ (Bv h.s1 h.s2))
theorem MI.pos{ix:List Nat}{na:Nat}(h:MI ix na M its key same k s f)(hs:same<ix.length):∃f',f=f'+1:=by
 have:=h.ms
 unfold msr at this;exact⟨f-1,by omega⟩
variable{X:It}
section
variable{ix:List Nat}{na M:Nat}{its:List It}{key:Va}{same k s f:Nat}
theorem MI.lvs(h:MI ix na M its key same k s (f+1))(hX:X=skI key (its.getD (ixk ix k) Ab))(hp:X.p<X.e):∀i∈ix,LvI ((its.set (ixk ix k) X).getD i Ab)/\((its.set (ixk ix k) X).getD i Ab).p<((its.set (ixk ix k) X).getD i Ab).e/\((its.set (ixk ix k) X).getD i Ab).e-((its.set (ixk ix k) X).getD i Ab).p<=M/\((its.set (ixk ix k) X).getD i Ab).s+f*(M+2)<=big:=by
 subst hX;intro i hi;have hm:=h.mem;obtain⟨a1,a2,a3⟩:=h.lv _ hm;have a4:=h.st _ hm;obtain⟨c1,c2⟩:=sk_cost a1 a2 key;obtain⟨d1,d2,d3,d4⟩:=zG2 a1 a2 key;rw[A9]at a4;by_cases e:i=ixk ix k
 ·subst e;rw[zAa (by rw[h.len];exact h.lt _ hm)];refine⟨d1,hp,?_,by omega⟩;show(its.getD (ixk ix k) Ab).e-_<=M;omega
 rw[zBf e];have b4:=h.st i hi;rw[A9]at b4;exact⟨(h.lv i hi).1,(h.lv i hi).2.1,(h.lv i hi).2.2,by omega⟩
theorem MI.eqv(h:MI ix na M its key same k s (f+1))(hs:same<ix.length)(hX:X=skI key (its.getD (ixk ix k) Ab))(hp:X.p<X.e):MI ix na M (its.set (ixk ix k) X) key (same+1) (k+1) (s+1) f:=by
 have hm:=h.mem;have hv:=h.lvs hX hp;subst hX;obtain⟨a1,a2,a3⟩:=h.lv _ hm;refine⟨by rw[AP];exact h.len,h.lt,λi hi=>⟨(hv i hi).1,(hv i hi).2.1,(hv i hi).2.2.1⟩,λi hi=>(hv i hi).2.2.2,by omega,by omega,by have:=h.kf;omega,by have:=h.sf;omega,?_⟩
 have:=zJn ix its (ixk ix k) _ key key (by rw[h.len];exact h.lt _ hm) (λ_ _ _=>Au _) (gt_sk a1 a2 key key)
 have:=A3 (ix.length+1) this
 have hm:=h.ms;unfold msr at hm⊢;omega
theorem MI.other(h:MI ix na M its key same k s (f+1))(hs:same<ix.length)(hX:X=skI key (its.getD (ixk ix k) Ab))(hp:X.p<X.e)(hne:vcmp (keyI X) key≠0):MI ix na M (its.set (ixk ix k) X) (keyI X) 1 (k+1) (s+1) f:=by
 have hm:=h.mem;have hv:=h.lvs hX hp;subst hX;obtain⟨a1,a2,a3⟩:=h.lv _ hm;obtain⟨d1,d2,d3,d4⟩:=zG2 a1 a2 key;refine⟨by rw[AP];exact h.len,h.lt,λi hi=>⟨(hv i hi).1,(hv i hi).2.1,(hv i hi).2.2.1⟩,λi hi=>(hv i hi).2.2.2,by omega,by omega,by have:=h.kf;omega,by have:=h.sf;omega,?_⟩;have hlt:vcmp key (keyI (skI key (its.getD (ixk ix k) Ab)))<0:=by
  have:=d4 hp
  have:=zAy (keyI (skI key (its.getD (ixk ix k) Ab))) key
  omega
 have:=zNu ix its (ixk ix k) _ key _ (by rw[h.len];exact h.lt _ hm) hm (λj _ _=>gt_key hlt) (Bv (gt_lt hp hlt) (gt_sk a1 a2 key key))
 have:=A3 (ix.length+1) (Nat.succ_le_of_lt this)
 rw[A9]at this;have hm:=h.ms;unfold msr at hm⊢;omega
end
theorem mtL_end(ix:List Nat)(f:Nat)(its:List It)(key:Va)(same k s:Nat)(h:ix.length<=same):mtL ix f its key same k s=(its,s,Ac):=by
 cases f<;>grind [mtL]
theorem mtL_no(ix:List Nat)(f:Nat)(its:List It)(key:Va)(same k s:Nat)(h:same<ix.length)(hX:X=skI key (its.getD (ixk ix k) Ab))(hp:onI X=Aa):mtL ix (f+1) its key same k s=(its.set (ixk ix k) X,s,Aa):=by
 grind [mtL]
theorem zX2(ix:List Nat)(f:Nat)(its:List It)(key:Va)(same k s:Nat)(h:same<ix.length)(hX:X=skI key (its.getD (ixk ix k) Ab))(hp:onI X=Ac)(he:vcmp (keyI X) key=0):mtL ix (f+1) its key same k s=mtL ix f (its.set (ixk ix k) X) key (same+1) (k+1) (s+1):=by
 grind [mtL]
theorem zSh(ix:List Nat)(f:Nat)(its:List It)(key:Va)(same k s:Nat)(h:same<ix.length)(hX:X=skI key (its.getD (ixk ix k) Ab))(hp:onI X=Ac)(he:vcmp (keyI X) key≠0):mtL ix (f+1) its key same k s=mtL ix f (its.set (ixk ix k) X) (keyI X) 1 (k+1) (s+1):=by
 grind [mtL]
theorem mtL_cost(ix:List Nat)(na M:Nat):∀(f:Nat)(its:List It)(key:Va)(same k s:Nat),MI ix na M its key same k s f->(mtL ix f its key same k s).2.1<=s+f/\∀i∈ix,((mtL ix f its key same k s).1.getD i Ab).s<=(its.getD i Ab).s+f*(M+2):=by
 intro f;induction f with
 |zero=>intro its key same k s h;exact⟨Au _,λi _=>by show(its.getD i Ab).s<=_;omega⟩
 | succ f ih=>
  intro its key same k s h;rw[A9];by_cases hs:same<ix.length
  ·have hm:=h.mem;obtain⟨a1,a2,a3⟩:=h.lv _ hm;obtain⟨X,hX⟩:∃X,X=skI key (its.getD (ixk ix k) Ab):=⟨_,rfl⟩;have hc:=sk_cost a1 a2 key;have hsp:=(zG2 a1 a2 key).1;rw[<-hX]at hc hsp;have hset:∀i,((its.set (ixk ix k) X).getD i Ab).s<=(its.getD i Ab).s+(M+2):=λi=>by
    grind
   have hon:=zN1 hsp;by_cases hp:X.p<X.e
   ·rw[decide_eq_true hp]at hon;by_cases he:vcmp (keyI X) key=0
    ·rw[zX2 ix f its key same k s hs hX hon he];obtain⟨i1,i2⟩:=ih _ _ _ _ _ (h.eqv hs hX hp);grind
    rw[zSh ix f its key same k s hs hX hon he];obtain⟨i1,i2⟩:=ih _ _ _ _ _ (h.other hs hX hp he);grind
   rw[decide_eq_false hp]at hon;rw[mtL_no ix f its key same k s hs hX hon];grind
  rw[mtL_end ix _ its key same k s (by omega)];grind
theorem gtI_le(v:Va)(it:It):gtI v it<=it.e-it.p:=by
 grind [gtI,Ax,BV]
theorem gtA_le(ix:List Nat)(its:List It)(v:Va)(M:Nat)(h:∀i∈ix,(its.getD i Ab).e-(its.getD i Ab).p<=M):gtA ix its v<=ix.length*M:=by
 unfold gtA;induction ix with
 |nil=>simp
 |cons i ix ih=>
  simp only[Bn,List.sum_cons,AZ,A9];grind [gtI_le]
def mtF(k M:Nat):Nat:=k*M*(k+1)+k
theorem msr_le(ix:List Nat)(its:List It)(v:Va)(same M:Nat)(h:∀i∈ix,(its.getD i Ab).e-(its.getD i Ab).p<=M):msr ix its v same<=mtF ix.length M:=by
 unfold msr mtF
 have:=A3 (ix.length+1) (gtA_le ix its v M h)
 omega
variable{b':Bk}{L:Lay}
section
open Go.RowKit
attribute [local irreducible] seqW awp zAd zAi zY Weak updS zAr retL Pure Acts rP setP setQ cP nP fr
set_option maxRecDepth 4096
def Tj(N:Nat)(ch:List Nat):Par:=⟨λf=>f==169||f==183||f==166||f==170||f==168||f==167||f==146||f==135,λ_ _=>AO,λk=>decide (k<N)&&!ch.contains k,λo=>match o with
 | .call {callee:= .value (.tmp _),..}=>Ac
 |_=>Aa,λt=>t==225||t==219⟩
theorem Tj_ok(N:Nat)(ch:List Nat):zA9 As (Tj N ch):=by intro t n f h;cases h
theorem Tj_keep:∀k,k<(lay L S).length->(Tj L.N []).keep k=true:=λk hk=>by
 rw[zAs]at hk;show(decide (k<L.N)&&!([]:List Nat).contains k)=Ac;rw[decide_eq_true hk];rfl
theorem zTo(N:Nat)(ch:List Nat):∀k,N<=k->(Tj N ch).keep k=false:=λk hk=>by
 show(decide (k<N)&&!ch.contains k)=Aa;rw[decide_eq_false (by omega)];rfl
theorem zSo(h:i∈L.ix v):i<L.na:=((zV _ _).1 h).1
theorem zAt(h:st.length=N):(st++[b])[N]?=Ai b:=by subst h;simp
theorem zA2(h:st[k]?=Ai b):(st++bs)[k]?=Ai b:=by
 grind
theorem zEi(h:st.length=N):(st++[b]).set N b'=st++[b']:=by subst h;simp
theorem zBh(h:k<st.length):(st++bs).set k b=st.set k b++bs:=by
 grind
theorem zX1{v:Va}(h:∀b∈st,namB N b):∀b∈st++[vlB v],namB (N+1) b:=λb hb=>by
 rcases Bj.1 hb with hb|hb
 ·exact(h b hb).imp id λh j hj=>h j (by omega)
 rw[Bm.1 hb];exact .inr λj _=>by simp only[zX,refs,AL]
theorem hd_ix(L:Lay)(ix:List Nat)(q:Nat)(h:q<ix.length):((ix.map λi=>Ae (L.ib i) 0).drop q).headD .unk= .own (L.ib (ix.getD q 0)) 0:=by simp_all
abbrev q6_:=Ah [iD 0,iD 0,q5_] 64 0 Aa Aa Al
theorem meet_a(L:Lay)(hL:LOk L)(S:Js)(v M:Nat)(hv:v<L.n)(hn:S.its.length=L.na)(h0:0<(L.ix v).length)(h32:(L.ix v).length<=1000000)
  (hi:∀i∈L.ix v,LvI (S.its.getD i Ab)/\BdI (S.its.getD i Ab)/\(S.its.getD i Ab).e-(S.its.getD i Ab).p<=M/\(S.its.getD i Ab).s+mtF (L.ix v).length M*(M+2)<=big)(hs:S.s+mtF (L.ix v).length M+1<=big)
  (hp:∀i∈L.ix v,i≠(L.ix v).getD 0 0->(S.its.getD i Ab).p<(S.its.getD i Ab).e):
  Acts As 167 [.own L.jb 0, .osl (L.ab v) 0 (L.ix v).length (L.ix v).length Ac] (lay L S) [] (bD (metJ (L.ix v) S.its S.s).2.2) (lay L {S with its:=(metJ (L.ix v) S.its S.s).1,s:=(metJ (L.ix v) S.its S.s).2.1}):=by
 have hm:=zAz h0;have hla:=zVm (S:=S) hL hv;have hix:=hd_ix L (L.ix v) 0 h0;rw[AY]at hix;obtain⟨g1,g2,g3,g4⟩:=hi _ hm;have hon:=zN1 g1;unfold metJ;by_cases h:(S.its.getD ((L.ix v).getD 0 0) Ab).p<(S.its.getD ((L.ix v).getD 0 0) Ab).e
 ·rw [decide_eq_true h]at hon;rw[hon,if_pos rfl];have hk:=key_g (zQv (S:=S) hL (zSo hm)) g1 g2 h;have hb1:∀i∈L.ix v,BdI (S.its.getD i Ab):=λi hi'=>(hi i hi').2.1;have hms:=msr_le (L.ix v) S.its (keyI (S.its.getD ((L.ix v).getD 0 0) Ab)) 1 M λi hi'=>(hi i hi').2.2.1;have hMI:MI (L.ix v) L.na M S.its (keyI (S.its.getD ((L.ix v).getD 0 0) Ab)) 1 1 S.s (msr (L.ix v) S.its (keyI (S.its.getD ((L.ix v).getD 0 0) Ab)) 1):=by
   have hmul:=A3 (M+2) hms;refine⟨hn,λi hi'=>zSo hi',λi hi'=>⟨(hi i hi').1,?_,(hi i hi').2.2.1⟩,λi hi'=>by have:=(hi i hi').2.2.2;omega,Au _,h0,by omega,by omega,Au _⟩;grind
  generalize keyI (S.its.getD ((L.ix v).getD 0 0) Ab)=key0 at*;generalize msr (L.ix v) S.its key0 1=f0 at*;generalize hG:mtL (L.ix v) f0 S.its key0 1 1 S.s=G;clear hp hi hms g1 g2 g3 g4 h hs;refine zQ (Tj_ok L.N []) mixed Tryz.func167 rfl Tj_keep<|vA<|zAb [] [(4,bD Aa)] ?_;refine vA<|zR 2 [] [] ((0:Int)<=(0:Int)/\(0:Int)<(Ad (Lay.ix L v):Int)) [(13,Ag (Lay.ab L v) 0 (Ad<|Lay.ix L v) (Ad<|Lay.ix L v) Ac),(14,Ae (Lay.ab L v) 0)] ?_;refine zAh (Ah (Ak (λ(i:Nat)=>Ae (Lay.ib L i) 0)<|Lay.ix L v) 225 1 Ac Aa AN) (Lay.ab L v) (Ay 1<|Ad<|Af 0<|Ak (λ(i:Nat)=>Ae (Lay.ib L i) 0)<|Lay.ix L v) (AC (Af 0<|Ak (λ(i:Nat)=>Ae (Lay.ib L i) 0)<|Lay.ix L v) Uk) hla (by(simp;omega)) ?_;refine zZ [] [] [AC (Af 0<|Ak (λ(i:Nat)=>Ae (Lay.ib L i) 0)<|Lay.ix L v) Uk] [Ae (Lay.ib L<|AE (Lay.ix L v) 0 0) 0] (BQ (by simp(disch:=omega) only[AY,hix])) (by exact hk) ?_;refine zR 3 [] [] (0<2/\1<2) [(12,D.tup [Am [iD<|Ap key0,iD<|Aq key0,Aj<|Ao<|bs<|Ar key0],bD Ac]),(17,Am [iD<|Ap key0,iD<|Aq key0,Aj<|Ao<|bs<|Ar key0]),(18,bD Ac)] ?_;refine zBa (Lay.N L) (True) (q6_) (Ae 0 0) (zAs (L:=L) (S:=S)) ?_;refine zB6 (q6_) (Lay.N L) (Aa=Aa/\Ac=Ac/\3=3/\3<=3) (Ah [iD<|Ap key0,iD<|Aq key0,Aj<|Ao<|bs<|Ar key0] 64 0 Aa Aa Al) (zAt<|zAs (L:=L) (S:=S)) ⟨(by kernel_rfl),⟨(by kernel_rfl),(by omega)⟩⟩ ?_;rw[zEi zAs];refine zAb [12,13,14,15,16,17,18] [(6,bD Ac)] ?_;refine zA<|vA<|zAb [6,19] [(20,bD Aa)] ?_;refine vf<|vK<|zA<|vA<|zAb [20] [(7,iD 1),(8,iD 1)] ?_;refine zJ<|awp_loop5 (λ(J:Js)(key:Va)(same:Nat)(k:Nat)(f:Nat)=>fr 57 [(0,Ae (Lay.jb L) 0),(1,Ag (Lay.ab L v) 0 (Ad<|Lay.ix L v) (Ad<|Lay.ix L v) Ac),(5,Ae (Lay.N L) 0),(7,iD same),(8,iD k)]) (λ(J:Js)(key:Va)(same k f:Nat)=>lay L J++[vlB key]) (λ(J:Js)(key:Va)(same k f:Nat)=>f) (λ(J:Js)(key:Va)(same k f:Nat)=>(J.row=S.row/\J.ys=S.ys)/\MI (L.ix v) L.na M J.its key same k J.s f/\(∀i∈L.ix v,BdI<|J.its.getD i Ab)/\mtL (L.ix v) f J.its key same k J.s=G) S key0 1 1 f0 ?_ ?_ ?_
  ·grind
  ·refine vkp [0,1,5,7,8]
  clear hMI hb1 hG hon hk hm hix;rintro J key same k f ⟨⟨e1,e2⟩,hM,hB,hG⟩;have fin:∀its s,G=(its,s,G.2.2)->lay L {J with its:=its,s:=s}=lay L {S with its:=G.1,s:=G.2.1}:=λits s h=>by
   grind
  rcases Az same (L.ix v).length with hs|hs
  ·obtain⟨f,rfl⟩:=hM.pos hs;have hq:k%(L.ix v).length<(L.ix v).length:=By _ h0;have hrem:((k:Nat):Int).tmod ((L.ix v).length:Nat)=((k%(L.ix v).length:Nat):Int):=(Int.ofNat_tmod _ _).symm;have hix:_=Ae (L.ib (ixk (L.ix v) k)) 0:=hd_ix L (L.ix v) (k%(L.ix v).length) hq;have hkk:=hM.kf;have hm:=hM.mem;have hil:=zSo hm;obtain⟨a1,a2,a3⟩:=hM.lv _ hm;have a4:=hM.st _ hm;have hb:=hB _ hm;have hsk:=(zG2 a1 a2 key).1;have hX:=seek_g key (zA2 (bs:=[vlB key]) (zQv (S:=J) hL hil)) a1 hb a2 (Ax (Nat.le_add_right _ _) a4);have hbX:BdI (skI key (J.its.getD (ixk (L.ix v) k) Ab)):=hb.of rfl rfl;have hlen:=hM.len;have hset:=λx=>zH6 (S:=J) hL hil (by rw[hlen];exact hil) x;have hJs:=hM.sf;have hlvs:=λhp=>hM.lvs rfl hp;have hno:=mtL_no (L.ix v) f J.its key same k J.s hs rfl;have hsa:=zX2 (L.ix v) f J.its key same k J.s hs rfl;have hot:=zSh (L.ix v) f J.its key same k J.s hs rfl;have hsaM:=hM.eqv hs rfl;have hotM:=hM.other hs rfl;have honX:=zN1 hsk;generalize hXX:skI key (J.its.getD (ixk (L.ix v) k) Ab)=X at*;generalize hqq:k%(L.ix v).length=q at*;generalize hii:ixk (L.ix v) k=i at*;have hl2:∀J':Js,(lay L J'++[vlB key]).length=L.N+1:=λJ'=>by rw[AD,zAs];rfl
   have hal:∀J':Js,(lay L J'++[vlB key])[L.ab v]?=Ai (ixB L (L.ix v)):=λJ'=>zA2 (zVm hL hv);have hiN:L.ib i<L.N:=(hL.ib i hil).1;have hjj:(lay L {J with its:=J.its.set i X})[L.jb]?=Ai (jB L J.s):=zNn hL;have hJs2:J.s+f+1<=100000000000000000:=hJs;have hkk2:k+f+1<=100000000000000000:=hkk;by_cases hp:X.p<X.e
   ·rw[decide_eq_true hp]at hX honX;have hBX:∀j∈L.ix v,BdI ((J.its.set i X).getD j Ab):=λj hj=>by
     grind
    have hkX:=key_g (it:=X) (st:=lay L {J with its:=J.its.set i X}++[vlB key]) (k:=L.ib i) (zA2 (by rw[zQv hL hil];simp only;rw[zAa (by rw[hlen];exact hil)])) hsk hbX hp;have hcm:=zDt (keyI X) key;generalize keyI X=nx at*;refine zA<|vA<|zAb [21,22,23] [(24,bD<|decide ((same:Int)<(Ad (Lay.ix L v):Int)))] ?_;refine vT ((same:Int)<(Ad (Lay.ix L v):Int))<|vKB<|vA<|zR 5 [] [] ((Ad (Lay.ix L v):Int)≠(0:Int)) [(27,Ag (Lay.ab L v) 0 (Ad<|Lay.ix L v) (Ad<|Lay.ix L v) Ac),(28,iD k),(29,Ag (Lay.ab L v) 0 (Ad<|Lay.ix L v) (Ad<|Lay.ix L v) Ac),(30,iD (Ad (Lay.ix L v):Int)),(31,iD<|Int.tmod (k:Int) (Ad (Lay.ix L v):Int))] ?_;refine zAo 31 (iD<|Int.tmod (k:Int) (Ad (Lay.ix L v):Int)) (iD q) (by simp(disch:=omega) only[hrem]) ?_;refine zR 1 [] [] ((0:Int)<=(q:Int)/\(q:Int)<(Ad (Lay.ix L v):Int)) [(32,Ae (Lay.ab L v) (0+AB (q:Int)*1))] ?_;refine zAo 32 (Ae (Lay.ab L v) (0+AB (q:Int)*1)) (Ae (Lay.ab L v) q) (by simp(disch:=omega) only[AS,Ba,AV]) ?_;refine zAh (Ah (Ak (λ(i:Nat)=>Ae (Lay.ib L i) 0)<|Lay.ix L v) 225 1 Ac Aa AN) (Lay.ab L v) (Ay 1<|Ad<|Af q<|Ak (λ(i:Nat)=>Ae (Lay.ib L i) 0)<|Lay.ix L v) (AC (Af q<|Ak (λ(i:Nat)=>Ae (Lay.ib L i) 0)<|Lay.ix L v) Uk) (hal J) (by(simp;omega)) ?_;refine zA3 1 [(9,AC (Af q<|Ak (λ(i:Nat)=>Ae (Lay.ib L i) 0)<|Lay.ix L v) Uk)] ?_;refine zAo 9 (AC (Af q<|Ak (λ(i:Nat)=>Ae (Lay.ib L i) 0)<|Lay.ix L v) Uk) (Ae (Lay.ib L i) 0) (by simp(disch:=omega) only[hix]) ?_;refine zAk ?_ (by kernel_rfl);refine vN<|zA<|vA<|zA3 1 [(34,Ae (Lay.ib L i) 0)] ?_;refine zAh (Ah [iD<|Ap key,iD<|Aq key,Aj<|Ao<|bs<|Ar key] 64 0 Aa Aa Al) (Lay.N L) (Ay 3 3) (Am [iD<|Ap key,iD<|Aq key,Aj<|Ao<|bs<|Ar key]) (zAt<|zAs (L:=L) (S:=J)) (by simp) ?_;refine zZ [] [] [Ae (Lay.ib L i) 0,Am [iD<|Ap key,iD<|Aq key,Aj<|Ao<|bs<|Ar key]] [Ae (Lay.ib L i) 0,Am [iD<|Ap key,iD<|Aq key,Aj<|Ao<|bs<|Ar key]] (AG _) (by exact hX) ?_;refine zAb [24,27,28,29,30,31,32,33,34,35,36] [(37,bD Aa)] ?_;refine vf<|vK<|vA<|zA3 1 [(39,Ae (Lay.ib L i) 0)] ?_;rw[zBh (by rw[zAs];exact hiN),hset];refine zZ [] [] [Ae (Lay.ib L i) 0] [Ae (Lay.ib L i) 0] (AG _) (by exact hkX) ?_;refine zR 3 [] [] (0<2/\1<2) [(38,D.tup [Am [iD<|Ap nx,iD<|Aq nx,Aj<|Ao<|bs<|Ar nx],bD Ac]),(41,Am [iD<|Ap nx,iD<|Aq nx,Aj<|Ao<|bs<|Ar nx]),(42,bD Ac)] ?_;refine zBa (Lay.N L+1) (True) (q6_) (Ae 0 0) (hl2 {J with its:=J.its.set i X}) ?_;refine zB6 (q6_) (Lay.N L+1) (Aa=Aa/\Ac=Ac/\3=3/\3<=3) (Ah [iD<|Ap nx,iD<|Aq nx,Aj<|Ao<|bs<|Ar nx] 64 0 Aa Aa Al) (zAt<|hl2 {J with its:=J.its.set i X}) ⟨(by kernel_rfl),⟨(by kernel_rfl),(by omega)⟩⟩ ?_;rw[zEi (hl2 {J with its:=J.its.set i X})];refine zAb [9,11,37,38,39,40,41,42] [] ?_;refine vA<|zA3 3 [(43,Ae (Lay.jb L) 0),(44,Ae (Lay.jb L) 0),(45,Ae (Lay.jb L) 2)] ?_;refine zAh (Ah [Ag (Lay.rb L) 0 (Lay.n L) (Lay.n L*3) Ac,Ag (Lay.tb L) 0 (Lay.n L) (Lay.n L) Ac,iD ↑(Js.s J),AX (Fn.func 135) [] [Ae (Lay.cb L) 0]] 218 0 Aa Aa Al) (Lay.jb L) (Ay 1 2) (iD ↑(Js.s J)) (zA2<|zA2 hjj) (by simp) ?_;refine zR 3 [] [] (i6 (↑(Js.s J)+1)/\True) [(47,iD ↑(Js.s J+1)),(48,Ae (Lay.jb L) 0),(49,Ae (Lay.jb L) 2)] ?_ (hc:=⟨(by omega),trivial⟩);refine zB6 (Ah [Ag (Lay.rb L) 0 (Lay.n L) (Lay.n L*3) Ac,Ag (Lay.tb L) 0 (Lay.n L) (Lay.n L) Ac,iD ↑(Js.s J),AX (Fn.func 135) [] [Ae (Lay.cb L) 0]] 218 0 Aa Aa Al) (Lay.jb L) (Aa=Aa/\Ac=Ac/\1=1/\3<=4) (Ah [Ag (Lay.rb L) 0 (Lay.n L) (Lay.n L*3) Ac,Ag (Lay.tb L) 0 (Lay.n L) (Lay.n L) Ac,iD ↑(Js.s J+1),AX (Fn.func 135) [] [Ae (Lay.cb L) 0]] 218 0 Aa Aa Al) (zA2<|zA2 hjj) ⟨(by kernel_rfl),⟨(by kernel_rfl),(by omega)⟩⟩ ?_;rw[zBh (by rw[hl2];have:=hL.jb;omega),zBh (by rw[zAs];exact hL.jb),zMl hL];refine zAb [43,44,45,46,47,48,49] [] ?_;refine vA<|zAh (Ah [iD<|Ap nx,iD<|Aq nx,Aj<|Ao<|bs<|Ar nx] 64 0 Aa Aa Al) (Lay.N L+1) (Ay 3 3) (Am [iD<|Ap nx,iD<|Aq nx,Aj<|Ao<|bs<|Ar nx]) (zAt<|hl2 _) (by simp) ?_;refine zAh (Ah [iD<|Ap key,iD<|Aq key,Aj<|Ao<|bs<|Ar key] 64 0 Aa Aa Al) (Lay.N L) (Ay 3 3) (Am [iD<|Ap key,iD<|Aq key,Aj<|Ao<|bs<|Ar key]) (zA2<|zAt zAs) (by simp) ?_;by_cases he:vcmp nx key=0
    ·rw[he]at hcm;refine zTz [Am [iD<|Ap nx,iD<|Aq nx,Aj<|Ao<|bs<|Ar nx],Am [iD<|Ap key,iD<|Aq key,Aj<|Ao<|bs<|Ar key]] (by exact hcm) ?_;refine zAb [50,51,52] [(53,bD Ac)] ?_;refine vt<|zB rfl<|zR 3 [] [] (i6 (↑same+1)) [(7,iD ↑(same+1)),(54,iD same),(55,iD ↑(same+1))] ?_;refine zAk ?_ (by kernel_rfl);refine zD<|vN<|zB rfl<|zR 3 [] [] (i6 (↑k+1)) [(8,iD ↑(k+1)),(25,iD k),(26,iD ↑(k+1))] ?_;refine zAk ?_ (by kernel_rfl);refine zC<|⟨{J with its:=J.its.set i X,s:=J.s+1},key,same+1,k+1,f,⟨⟨e1,e2⟩,hsaM hp,hBX,(hsa honX he).symm.trans hG⟩,by omega,?_⟩;refine zA4 (N:=L.N+1) (L.jb<L.N+1/\L.ab v<L.N+1/\L.N<L.N+1/\True) (by rw[AD,zAs];rfl) (zX1<|zG8 hL) (λk hk=>zTo _ _ k (by omega)) ?_ ⟨by have:=hL.jb;omega,by have:=(hL.ab v hv).1;omega,by omega,trivial⟩;refine vkp [0,1,5,7,8]
    refine st_call0 [Am [iD<|Ap nx,iD<|Aq nx,Aj<|Ao<|bs<|Ar nx],Am [iD<|Ap key,iD<|Aq key,Aj<|Ao<|bs<|Ar key]] [Am [iD<|Ap nx,iD<|Aq nx,Aj<|Ao<|bs<|Ar nx],Am [iD<|Ap key,iD<|Aq key,Aj<|Ao<|bs<|Ar key]] (by kernel_rfl) (AG _) (by exact hcm) ?_;refine zAb [50,51,52] [(53,bD (vcmp nx key==(0:Int)))] ?_;refine vEf (vcmp nx key) ((0:Int))<|zB rfl<|zAh (Ah [iD<|Ap nx,iD<|Aq nx,Aj<|Ao<|bs<|Ar nx] 64 0 Aa Aa Al) (Lay.N L+1) (Ay 3 3) (Am [iD<|Ap nx,iD<|Aq nx,Aj<|Ao<|bs<|Ar nx]) (zAt<|hl2 _) (by simp) ?_;refine zB6 (Ah [iD<|Ap key,iD<|Aq key,Aj<|Ao<|bs<|Ar key] 64 0 Aa Aa Al) (Lay.N L) (Aa=Aa/\Ac=Ac/\3=3/\3<=3) (Ah [iD<|Ap nx,iD<|Aq nx,Aj<|Ao<|bs<|Ar nx] 64 0 Aa Aa Al) (zA2<|zAt zAs) ⟨(by kernel_rfl),⟨(by kernel_rfl),(by omega)⟩⟩ ?_;rw[zBh (by rw[hl2];omega),zEi zAs];refine zA3 1 [(7,iD 1)] ?_;refine zAk ?_ (by kernel_rfl);refine zD<|vN<|zB rfl<|zR 3 [] [] (i6 (↑k+1)) [(8,iD ↑(k+1)),(25,iD k),(26,iD ↑(k+1))] ?_;refine zAk ?_ (by kernel_rfl);refine zC<|⟨{J with its:=J.its.set i X,s:=J.s+1},nx,1,k+1,f,⟨⟨e1,e2⟩,hotM hp he,hBX,(hot honX he).symm.trans hG⟩,by omega,?_⟩;refine zA4 (N:=L.N+1) (st:=lay L {J with its:=J.its.set i X,s:=J.s+1}++[vlB nx]) (L.jb<L.N+1/\L.ab v<L.N+1/\L.N<L.N+1/\True) (by rw[AD,zAs];rfl) (zX1<|zG8 hL) (λk hk=>zTo _ _ k (by omega)) ?_ ⟨by have:=hL.jb;omega,by have:=(hL.ab v hv).1;omega,by omega,trivial⟩;refine vkp [0,1,5,7,8]
   rw[decide_eq_false hp]at hX honX;have hGe:=hG.symm.trans (hno honX);subst hGe;refine zA<|vA<|zAb [21,22,23] [(24,bD<|decide ((same:Int)<(Ad (Lay.ix L v):Int)))] ?_;refine vT ((same:Int)<(Ad (Lay.ix L v):Int))<|vKB<|vA<|zR 5 [] [] ((Ad (Lay.ix L v):Int)≠(0:Int)) [(27,Ag (Lay.ab L v) 0 (Ad<|Lay.ix L v) (Ad<|Lay.ix L v) Ac),(28,iD k),(29,Ag (Lay.ab L v) 0 (Ad<|Lay.ix L v) (Ad<|Lay.ix L v) Ac),(30,iD (Ad (Lay.ix L v):Int)),(31,iD<|Int.tmod (k:Int) (Ad (Lay.ix L v):Int))] ?_;refine zAo 31 (iD<|Int.tmod (k:Int) (Ad (Lay.ix L v):Int)) (iD q) (by simp(disch:=omega) only[hrem]) ?_;refine zR 1 [] [] ((0:Int)<=(q:Int)/\(q:Int)<(Ad (Lay.ix L v):Int)) [(32,Ae (Lay.ab L v) (0+AB (q:Int)*1))] ?_;refine zAo 32 (Ae (Lay.ab L v) (0+AB (q:Int)*1)) (Ae (Lay.ab L v) q) (by simp(disch:=omega) only[AS,Ba,AV]) ?_;refine zAh (Ah (Ak (λ(i:Nat)=>Ae (Lay.ib L i) 0)<|Lay.ix L v) 225 1 Ac Aa AN) (Lay.ab L v) (Ay 1<|Ad<|Af q<|Ak (λ(i:Nat)=>Ae (Lay.ib L i) 0)<|Lay.ix L v) (AC (Af q<|Ak (λ(i:Nat)=>Ae (Lay.ib L i) 0)<|Lay.ix L v) Uk) (hal J) (by(simp;omega)) ?_;refine zA3 1 [(9,AC (Af q<|Ak (λ(i:Nat)=>Ae (Lay.ib L i) 0)<|Lay.ix L v) Uk)] ?_;refine zAo 9 (AC (Af q<|Ak (λ(i:Nat)=>Ae (Lay.ib L i) 0)<|Lay.ix L v) Uk) (Ae (Lay.ib L i) 0) (by simp(disch:=omega) only[hix]) ?_;refine zAk ?_ (by kernel_rfl);refine vN<|zA<|vA<|zA3 1 [(34,Ae (Lay.ib L i) 0)] ?_;refine zAh (Ah [iD<|Ap key,iD<|Aq key,Aj<|Ao<|bs<|Ar key] 64 0 Aa Aa Al) (Lay.N L) (Ay 3 3) (Am [iD<|Ap key,iD<|Aq key,Aj<|Ao<|bs<|Ar key]) (zAt<|zAs (L:=L) (S:=J)) (by simp) ?_;refine zZ [] [] [Ae (Lay.ib L i) 0,Am [iD<|Ap key,iD<|Aq key,Aj<|Ao<|bs<|Ar key]] [Ae (Lay.ib L i) 0,Am [iD<|Ap key,iD<|Aq key,Aj<|Ao<|bs<|Ar key]] (AG _) (by exact hX) ?_;refine zA3 1 [(37,bD Ac)] ?_;refine zAk ?_ (by kernel_rfl);refine zC ?_;rw[zBh (by rw[zAs];exact hiN),hset];refine zK7 [5,9,27,29,32,33,34] (L.jb<L.N/\L.ab v<L.N/\True) zAs (zG8 hL) (zTo _ _) (by kernel_rfl) ⟨hL.jb,(hL.ab v hv).1,trivial⟩ ?_;refine vt<|vA<|zAb [24,28,30,31,35,36,37] [(4,bD Aa)] ?_;refine zE<|zH<|zL<|zH<|zH<|zL<|zH<|zN (True) [Aj<|AQ Aa] (.inr rfl) ?_;exact⟨by kernel_rfl,fin _ _ rfl⟩
  have hGe:=hG.symm.trans (mtL_end (L.ix v) f J.its key same k J.s hs);subst hGe;refine zA<|vA<|zAb [21,22,23] [(24,bD<|decide ((same:Int)<(Ad (Lay.ix L v):Int)))] ?_;refine vF ((same:Int)<(Ad (Lay.ix L v):Int))<|vY2<|zC<|zK7 [5] (L.jb<L.N/\L.ab v<L.N/\True) zAs (zG8 hL) (zTo _ _) (by kernel_rfl) ⟨hL.jb,(hL.ab v hv).1,trivial⟩ ?_;refine vA<|zAb [0,1,7,8,24] [(4,bD Ac)] ?_;refine zE<|zN (True) [Aj<|AQ Ac] (.inr rfl) ?_;exact⟨by kernel_rfl,fin J.its J.s rfl⟩
 rw[decide_eq_false h]at hon;rw[hon,if_neg (by decide)];have hk:=keyNo_g (zQv (S:=S) hL (zSo hm)) (Nat.le_of_not_lt h);refine zQ (Tj_ok L.N []) mixed Tryz.func167 rfl Tj_keep<|vA<|zAb [] [(4,bD Aa)] ?_;refine vA<|zR 2 [] [] ((0:Int)<=(0:Int)/\(0:Int)<(Ad (Lay.ix L v):Int)) [(13,Ag (Lay.ab L v) 0 (Ad<|Lay.ix L v) (Ad<|Lay.ix L v) Ac),(14,Ae (Lay.ab L v) 0)] ?_;refine zAh (Ah (Ak (λ(i:Nat)=>Ae (Lay.ib L i) 0)<|Lay.ix L v) 225 1 Ac Aa AN) (Lay.ab L v) (Ay 1<|Ad<|Af 0<|Ak (λ(i:Nat)=>Ae (Lay.ib L i) 0)<|Lay.ix L v) (AC (Af 0<|Ak (λ(i:Nat)=>Ae (Lay.ib L i) 0)<|Lay.ix L v) Uk) hla (by(simp;omega)) ?_;refine zZ [] [] [AC (Af 0<|Ak (λ(i:Nat)=>Ae (Lay.ib L i) 0)<|Lay.ix L v) Uk] [Ae (Lay.ib L<|AE (Lay.ix L v) 0 0) 0] (BQ (by simp(disch:=omega) only[AY,hix])) (by exact hk) ?_;refine zR 3 [] [] (0<2/\1<2) [(12,D.tup [Am [iD 0,iD 0,Aj<|Ao<|bs []],bD Aa]),(17,Am [iD 0,iD 0,Aj<|Ao<|bs []]),(18,bD Aa)] ?_;refine zBa (Lay.N L) (True) (q6_) (Ae 0 0) (zAs (L:=L) (S:=S)) ?_;refine zB6 (q6_) (Lay.N L) (Aa=Aa/\Ac=Ac/\3=3/\3<=3) (Ah [iD 0,iD 0,Aj<|Ao<|bs []] 64 0 Aa Aa Al) (zAt<|zAs (L:=L) (S:=S)) ⟨(by kernel_rfl),⟨(by kernel_rfl),(by omega)⟩⟩ ?_;rw[zEi zAs];refine zAb [12,13,14,15,16,17,18] [(6,bD Aa)] ?_;refine zA<|vA<|zA3 2 [(19,bD Aa),(20,bD Ac)] ?_;refine zAk ?_ (by kernel_rfl);refine zC<|zK7 [5,13,14,15,16] (L.jb<L.N/\L.ab v<L.N/\True) zAs (zG8 hL) (zTo _ _) (by kernel_rfl) ⟨hL.jb,(hL.ab v hv).1,trivial⟩ ?_;refine vt<|vA<|zAb [6,19,20] [] ?_;refine zE<|zH<|zN (True) [Aj<|AQ Aa] (.inr rfl) ?_;exact⟨by kernel_rfl,rfl⟩
end
variable{f:FuncId}{args:List D}{ch:List Nat}{x:List Va×List Nat}
section
open Go.RowKit
abbrev vaA(l:List Va):Bk:=⟨zG l,64,3,Ac,Aa, .plain⟩
abbrev inA(l:List Nat):Bk:=⟨l.map λc=>iD (c:Nat),3,1,Ac,Aa, .plain⟩
abbrev lvP(o:Nat)(t:Tri)(l:Nat):List D:=[.osl (o+2*l) 0 (vls t l).length ((vls t l).length*3) Ac, .osl (o+2*l+1) 0 (fst' t l).length (fst' t l).length Ac]
def lvCs(o:Nat)(t:Tri):List D:=(Aw t.length).flatMap (lvP o t)
abbrev lvB(o:Nat)(t:Tri):Bk:=⟨lvCs o t,244,2,Ac,Aa, .sh⟩
def tblk(m o:Nat)(base:Nat->Bk)(t:Tri)(k:Nat):Bk:=if k=m then lvB o t else if k<o then base k else if(k-o)%2=0 then vaA (vls t ((k-o)/2))else inA (fst' t ((k-o)/2))
def tlay(m o:Nat)(base:Nat->Bk)(t:Tri):List Bk:=(Aw (o+2*t.length)).map (tblk m o base t)
section
variable{m o:Nat}{base:Nat->Bk}{t:Tri}
theorem zCb:(tlay m o base t).length=o+2*t.length:=by simp[tlay]
theorem zDk(h:k<o+2*t.length):(tlay m o base t)[k]?=Ai (tblk m o base t k):=by simp[tlay,h]
theorem tl_m(h:m<o):(tlay m o base t)[m]?=Ai (lvB o t):=by grind [zDk,tblk]
theorem tl_v(hm:m<o)(h:l<t.length):(tlay m o base t)[o+2*l]?=Ai (vaA (vls t l)):=by
 grind [zDk,tblk]
theorem tl_f(hm:m<o)(h:l<t.length):(tlay m o base t)[o+2*l+1]?=Ai (inA (fst' t l)):=by
 grind [zDk,tblk]
theorem lvP_len(l:Nat):(lvP o t l).length=2:=rfl
theorem zN6:(lvCs o t).length=t.length*2:=by
 unfold lvCs;rw[zDn (c:=2) lvP_len];simp
theorem lv_at(h:l<t.length):(lvCs o t).drop (l*2)=lvP o t l++((Aw t.length).drop (l+1)).flatMap (lvP o t):=by
 unfold lvCs;rw[zK0 lvP_len (Aw t.length) l (by simpa using h)];grind
theorem lv_hd(h:l<t.length):((lvCs o t).drop (l*2)).headD .unk= .osl (o+2*l) 0 (vls t l).length ((vls t l).length*3) true:=by rw[lv_at h];rfl
theorem lv_hd1(h:l<t.length):((lvCs o t).drop (l*2+1)).headD .unk= .osl (o+2*l+1) 0 (fst' t l).length (fst' t l).length true:=by
 rw[<-List.drop_drop,lv_at h];rfl
def Bss(o:Nat)(base:Nat->Bk):Prop:=∀k,k<o->namB o (base k)
theorem zSg{o:Nat}(h:namB o b)(hk:o<=k):zAn k b=b:=by
 unfold zAn;rcases h with h|h
 ·rw[if_pos h]
 split
 ·rfl
 rename_i hn;have hl:b.cells.map (zAl k)=b.cells:=by
  have:=h k hk
  have key:∀cs:List D,zX k cs=Aa->cs.map (zAl k)=cs:=by
   intro cs;induction cs with
   |nil=>exact λ_=>rfl
   |cons d cs ih=>
    simp_all [only,zX,BO,Bn,zAl]
  exact key _ this
 rw[hl]
theorem zB7(h:b.nob=Ac):zAn k b=b:=by grind [zAn]
theorem tl_mk(hm:m<o)(k:Nat):((tlay m o base t).map (zAn k))[m]?=Ai ⟨(lvCs o t).map (zAl k),244,2,Ac,Aa, .sh⟩:=by
 rw[Bi,tl_m hm];rfl
theorem zKp(i:Nat):(lvCs o t)[i]?=if i<t.length*2 then(if i%2=0 then Ai (.osl (o+2*(i/2)) 0 (vls t (i/2)).length ((vls t (i/2)).length*3) Ac)else Ai (.osl (o+2*(i/2)+1) 0 (fst' t (i/2)).length (fst' t (i/2)).length Ac))else none:=by
 split
 ·rename_i h;have h2:=lv_at (o:=o) (t:=t) (l:=i/2) (by omega);have h3:(lvCs o t)[i]?=((lvCs o t).drop (i/2*2))[i%2]?:=by
   grind
  grind
 grind [AU,zN6]
theorem zTt{l':Nat}(h:l<t.length):(t.set l x).getD l' Ab=if l'=l then x else t.getD l' default:=by
 grind
theorem tl_app(hm:m<o)(hb:Bss o base){t':Tri}(k c:Nat)(b':Bk)(d:D)(ht:t'.length=t.length)(hk:o<=k)(hc:c<t.length*2)(hkc:k=o+c)(hb':tblk m o base t' k=b')(hd:(lvCs o t')[c]?=Ai d)(ho:∀i,i≠c->(lvCs o t')[i]?=(lvCs o t)[i]?)(hoo:∀j,j≠k->j≠m->tblk m o base t' j=tblk m o base t j):
  ((((tlay m o base t).map (zAn k)).set k b').set m ⟨((lvCs o t).map (zAl k)).set c d,244,2,Ac,Aa, .sh⟩)=tlay m o base t':=by
 subst hkc;apply AM;intro j;rw[Bo,AP,A4,zCb];split
 ·rename_i e;subst e;rw[if_pos (by omega),tl_m hm];congr 2;apply AM;intro i;rw[Bo,A4,zN6];split
  ·grind
  rename_i e;rw[ho i (Ne.symm e),Bi,zKp];split
  ·split
   ·simp only[BA,BB.injEq];unfold zAl;rw[show refs (o+c) (.osl (o+2*(i/2)) 0 (vls t (i/2)).length ((vls t (i/2)).length*3) Ac)=Aa by simp only[refs,beq_eq_false_iff_ne];omega];rfl
   simp only[BA,BB.injEq];unfold zAl;rw[show refs (o+c) (.osl (o+2*(i/2)+1) 0 (fst' t (i/2)).length (fst' t (i/2)).length Ac)=Aa by simp only[refs,beq_eq_false_iff_ne];omega];rfl
  rfl
 rename_i e;rw[Bo,A4,zCb];split
 ·grind [zDk]
 rename_i e2;rw[Bi];rcases Az j (o+2*t.length)with hj|hj
 ·rw[zDk hj,zDk (by omega),hoo j (Ne.symm e2) (Ne.symm e)];simp only[BA,BB.injEq];unfold tblk;rw[if_neg (Ne.symm e)];split
  ·rename_i h;exact zSg (hb j h) (by omega)
  split<;>exact zB7 rfl
 grind [AU,zCb]
theorem tl_appv(hm:m<o)(hb:Bss o base)(h:l<t.length)(ws:List Va):((((tlay m o base t).map (zAn (o+2*l))).set (o+2*l) (vaA ws)).set m ⟨((lvCs o t).map (zAl (o+2*l))).set (l*2) (.osl (o+2*l) 0 ws.length (ws.length*3) Ac),244,2,Ac,Aa, .sh⟩)=tlay m o base (t.set l (ws,fst' t l)):=by
 have hv:=λl'=>zTt (l':=l') (x:=(ws,fst' t l)) h;refine tl_app hm hb _ _ _ _ (by simp) (by omega) (by omega) (by omega) ?_ ?_ (λi hi=>?_) (λj hj hjm=>?_)
 ·unfold tblk;grind
 ·simp_all [zKp,AP,vls]
 ·rw[zKp,zKp,AP];grind
 unfold tblk;grind
theorem tl_appf(hm:m<o)(hb:Bss o base)(h:l<t.length)(fs:List Nat):((((tlay m o base t).map (zAn (o+2*l+1))).set (o+2*l+1) (inA fs)).set m ⟨((lvCs o t).map (zAl (o+2*l+1))).set (l*2+1) (.osl (o+2*l+1) 0 fs.length fs.length Ac),244,2,Ac,Aa, .sh⟩)=tlay m o base (t.set l (vls t l,fs)):=by
 have hv:=λl'=>zTt (l':=l') (x:=(vls t l,fs)) h;refine tl_app hm hb _ _ _ _ (by simp) (by omega) (by omega) (by omega) ?_ ?_ (λi hi=>?_) (λj hj hjm=>?_)
 ·unfold tblk;grind
 ·rw[zKp,AP,if_pos (by omega),if_neg (by omega),show(l*2+1)/2=l by omega,show o+2*l+1=o+2*l+1 from rfl];unfold fst';rw[hv,if_pos rfl]
 ·rw[zKp,zKp,AP];grind
 unfold tblk;grind
theorem tl_appv1(hm:m<o)(hb:Bss o base)(h:l<t.length)(v:Va):((((tlay m o base t).map (zAn (o+2*l))).set (o+2*l) ⟨zG (vls t l)++vaC v,64,3,Ac,Aa, .plain⟩).set m ⟨((lvCs o t).map (zAl (o+2*l))).set (l*2) (.osl (o+2*l) 0 ((vls t l).length+1) (((vls t l).length+1)*3) Ac),244,2,Ac,Aa, .sh⟩)=tlay m o base (t.set l (vls t l++[v],fst' t l)):=by
 have h1:=tl_appv (base:=base) hm hb h (vls t l++[v]);simp_all [vaA,vls,zG,vaC,zC8,AD]
theorem zW5(hm:m<o)(hb:Bss o base)(h:l<t.length)(c:Nat):((((tlay m o base t).map (zAn (o+2*l+1))).set (o+2*l+1) ⟨((fst' t l).map λc=>iD (c:Nat))++[iD (c:Nat)],3,1,Ac,Aa, .plain⟩).set m ⟨((lvCs o t).map (zAl (o+2*l+1))).set (l*2+1) (.osl (o+2*l+1) 0 ((fst' t l).length+1) ((fst' t l).length+1) Ac),244,2,Ac,Aa, .sh⟩)=tlay m o base (t.set l (vls t l,fst' t l++[c])):=by
 have h1:=tl_appf (base:=base) hm hb h (fst' t l++[c]);grind
theorem kst{T B:Bk}(hk:k<o+2*t.length)(hT:zAn k T=T)(hB:zAn k B=B):((tlay m o base t++[T]++[B]).map (zAn k)).set k b'=((tlay m o base t).map (zAn k)).set k b'++[T]++[B]:=by
 grind [List.set_append_left,zCb]
theorem ks_m(hm:m<o)(hk:k≠m):(((tlay m o base t).map (zAn k)).set k b')[m]?=Ai ⟨(lvCs o t).map (zAl k),244,2,Ac,Aa, .sh⟩:=by
 grind [BN,tl_mk]
theorem zEv:(((tlay m o base t).map (zAn k)).set k b').length=o+2*t.length:=by
 rw[AP,A4,zCb]
theorem zRm(hb:Bss o base):∀b∈tlay m o base t,namB (o+2*t.length) b:=λb h=>by
 obtain⟨k,hk,rfl⟩:=BM.1 h;unfold tblk;split
 ·refine .inr λj hj=>?_;refine zCz _ λi hi=>?_;have key:∀(ls:List Nat),(∀l∈ls,l<t.length)->∀i∈ownL (ls.flatMap (lvP o t)),i<o+2*t.length:=by
   intro ls;induction ls with
   |nil=>intro _ i hi;simp[ownL]at hi
   |cons l ls ih=>
    intro h i hi
    have:=h l (by simp)
    simp only[Bb,lvP,BG,BY,ownL,ownN,List.singleton_append,Bs]at hi;rcases hi with rfl|rfl|hi
    ·omega
    ·omega
    exact ih (λl hl=>h l (by simp[hl])) i hi
  have:=key (Aw t.length) (λl hl=>AR.1 hl) i hi
  omega
 split
 ·rename_i h;exact(hb k h).imp id λh j hj=>h j (by omega)
 split<;>exact .inl rfl
end
theorem Acts.tail{s:List Bk}{x:D}(h:Acts P f args st ch x (s++bs))(hl:s.length=N)(hm:st.length<=N)(hn:∀b∈s,namB N b)(hx:∀j,N<=j->refs j x=Aa):Acts P f args st ch x s:=by
 subst hl
 have:=h.cut s.length hm (by
  unfold zEr;simp only[Bq,AR,BH,Bx,BI];intro i hi;refine⟨by simp only[zX,hx _ (Nat.le_add_right _ _),AL],λe he=>?_⟩;rw[Ci rfl]at he;exact(hn e he).imp id λh=>h _ (by omega))
 grind
end
def stA(x:List Va)(t:Tri)(l:Nat):Tri:=t.set l (vls t l++[x.getD l Ab],fst' t l++[(vls t (l+1)).length])
def stF(t:Tri)(l:Nat):Tri:=t.set l (vls t l,fst' t l++[(vls t (l+1)).length])
theorem stA_cons(v:Va)(x:List Va)(h:List Va×List Nat)(t:Tri)(k:Nat):stA (v::x) (h::t) (k+1)=h::stA x t k:=rfl
theorem stF_cons(h:List Va×List Nat)(t:Tri)(k:Nat):stF (h::t) (k+1)=h::stF t k:=rfl
theorem zJ7(v:Va)(x:List Va)(h:List Va×List Nat):∀(n k:Nat)(t:Tri),(AI (k+1) n).foldl (stA (v::x)) (h::t)=h::(AI k n).foldl (stA x) t
 |0,k,t=>rfl
 |n+1,k,t=>by
  rw[Bp,Bp,A_,A_,stA_cons,zJ7 v x h n (k+1)]
theorem zPc(h:List Va×List Nat):∀(n k:Nat)(t:Tri),(AI (k+1) n).foldl stF (h::t)=h::(AI k n).foldl stF t
 |0,k,t=>rfl
 |n+1,k,t=>by
  rw[Bp,Bp,A_,A_,stF_cons,zPc h n (k+1)]
theorem zTw(t:Tri):szT t=(vls t 0).length:=by cases t<;>rfl
theorem foldA:∀(f:Nat)(x:List Va)(t:Tri),x.length=t.length->(AI f (t.length-f)).foldl (stA x) t=adT x f t
 |0,[],[],_=>rfl
 |f+1,[],[],_=>by simp[adT]
 |_,_::_,[],h=>by simp at h
 |_,[],_::_,h=>by simp at h
 |0,v::x,l::t,h=>by
  rw[AZ,Nat.sub_zero,Bp,A_];have e:stA (v::x) (l::t) 0=(l.1++[v],l.2++[szT t])::t:=by rw[zTw];rfl
  rw[e,zJ7]
  have:=foldA 0 x t (by simpa using h)
  rw[Nat.sub_zero]at this;rw[this];rfl
 |f+1,v::x,l::t,h=>by
  rw[AZ,show t.length+1-(f+1)=t.length-f by omega,zJ7,foldA f x t (by simpa using h)];rfl
theorem foldF:∀(t:Tri),(AI 0 t.length).foldl stF t=finT t
 |[]=>rfl
 |l::t=>by
  rw[AZ,Bp,A_];have e:stF (l::t) 0=(l.1,l.2++[szT t])::t:=by rw[zTw];rfl
  rw[e,zPc,foldF t];rfl
theorem stA_len(x:List Va)(t:Tri)(l:Nat):(stA x t l).length=t.length:=by simp[stA]
theorem zT0(t:Tri)(l:Nat):(stF t l).length=t.length:=by simp[stF]
theorem zSw(x:List Va):∀(ls:List Nat)(t:Tri),(ls.foldl (stA x) t).length=t.length
 |[],t=>rfl
 |l::ls,t=>by rw[A_,zSw x ls,stA_len]
theorem zSv:∀(ls:List Nat)(t:Tri),(ls.foldl stF t).length=t.length
 |[],t=>rfl
 |l::ls,t=>by rw[A_,zSv ls,zT0]
def SzT(B:Nat)(t:Tri):Prop:=∀k,(vls t k).length<=B/\(fst' t k).length<=B/\∀c∈fst' t k,c<=B
theorem zSs:(t.set l x).getD k Ab=if k=l/\l<t.length then x else t.getD k default:=by
 grind
variable{B:Nat}
theorem stA_sz{x:List Va}(h:SzT B t):SzT (B+1) (stA x t l):=λk=>by
 unfold stA vls fst';rw[zSs];split
 ·refine⟨by rw[AD];exact B5 (h l).1,by rw[AD];exact B5 (h l).2.1,λc hc=>?_⟩;rcases Bj.1 hc with hc|hc
  ·have:=(h l).2.2 c hc;omega
  rw[Bm.1 hc];have:=(h (l+1)).1;exact Ax this (AJ _)
 exact⟨Ax (h k).1 (AJ _),Ax (h k).2.1 (AJ _),λc hc=>Ax ((h k).2.2 c hc) (AJ _)⟩
variable{o:Nat}{base:Nat->Bk}
section
open Go.RowKit
attribute [local irreducible] seqW awp zAd zAi zY Weak updS zAr retL Pure Acts rP setP setQ cP nP fr
set_option maxRecDepth 4096
def Tt(o:Nat):Par:=⟨λf=>f==165||f==163,λ_ _=>AO,λk=>decide (k<o),λ_=>Aa,λt=>t==244⟩
theorem Tt_ok(o:Nat):zA9 As (Tt o):=by intro t n f h;cases h
def Ts(N:Nat):Par:=⟨λ_=>Aa,λ_ _=>AO,λk=>decide (k<N),λ_=>Aa,λt=>t==244⟩
theorem Ts_ok(N:Nat):zA9 As (Ts N):=by intro t n f h;cases h
abbrev tvB(m n:Nat):Bk:=⟨[.osl m 0 n (n*2) Ac],222,0,Aa,Aa, .plain⟩
theorem size_g(hst:st[m]?=Ai (lvB o t))(hn:∀b∈st,namB st.length b)(l:Nat)(hb:t.length<=1000000):Acts As 165 [.agg [.osl m 0 t.length (t.length*2) Ac],iD (l:Nat)] st [] (iD ((vls t l).length:Nat)) st:=by
 have key:∀b,Acts As 165 [.agg [.osl m 0 t.length (t.length*2) Ac],iD (l:Nat)] st [] (iD ((vls t l).length:Nat)) (st++[b])->Acts As 165 [.agg [.osl m 0 t.length (t.length*2) Ac],iD (l:Nat)] st [] (iD ((vls t l).length:Nat)) st:=λb h=>by
  have:=h.cut st.length (Au _) (by
   unfold zEr;simp only[Bq,AR,BH,Bx,BI];intro i hi;refine⟨rfl,λe he=>?_⟩;rw[Ci rfl]at he;exact(hn e he).imp id λh=>h _ (by omega))
  grind
 refine key (tvB m t.length) ?_;have hl1:(st++[tvB m t.length])[st.length]?=Ai (tvB m t.length):=zAt rfl;refine zQ (Ts_ok st.length) mixed Tryz.func165 rfl (by intro k hk;show decide (k<st.length)=Ac;rw[decide_eq_true_eq];exact hk) ?_;rcases Az l t.length with h|h
 ·have hhd:=lv_hd (o:=o) h;have hll:=zN6 (o:=o) (t:=t);refine vA<|zBa (Ad st) (True) (Ah [Ag m 0 (Ad t) (Ad t*2) Ac] 222 0 Aa Aa Al) (Ae 0 0) (rfl:st.length=st.length) ?_;refine zAb [0] [(4,iD 0)] ?_;refine zA<|vA<|zA3 2 [(5,iD l),(6,Ae (Ad st) 0)] ?_;refine zAh (Ah [Ag m 0 (Ad t) (Ad t*2) Ac] 222 0 Aa Aa Al) (Ad st) (Ay 1 1) (Ag m 0 (Ad t) (Ad t*2) Ac) hl1 (by simp) ?_;refine zAb [5,6,7,8] [(9,bD<|decide ((l:Int)>=(Ad t:Int)))] ?_;refine vF ((l:Int)>=(Ad t:Int))<|vK<|vA<|zA3 1 [(10,Ae (Ad st) 0)] ?_;refine zAh (Ah [Ag m 0 (Ad t) (Ad t*2) Ac] 222 0 Aa Aa Al) (Ad st) (Ay 1 1) (Ag m 0 (Ad t) (Ad t*2) Ac) hl1 (by simp) ?_;refine zR 2 [] [] ((0:Int)<=(l:Int)/\(l:Int)<↑(Ad t)) [(12,iD l),(13,Ae m (0+AB (l:Int)*2))] ?_;refine zAo 13 (Ae m (0+AB (l:Int)*2)) (Ae m (l*2)) (by simp(disch:=omega) only[AS,AV]) ?_;refine zA3 1 [(14,Ae m (l*2))] ?_;refine zAh (Ah (lvCs o t) 244 2 Ac Aa AN) (m) (Ay 1<|Ad<|Af (l*2)<|lvCs o t) (AC (Af (l*2)<|lvCs o t) Uk) (zA2 hst) (by(simp;omega)) ?_;rw[hhd];refine zAb [1,2,9,10,11,12,13,14,15,16] [(4,iD (Ad (vls t l):Int))] ?_;refine zE<|zN (True) [Aj<|Bc A2 (Ad (vls t l):Int)] (.inr rfl) ?_;exact⟨by kernel_rfl,rfl⟩
 have e:vls t l=[]:=by unfold vls;rw[AW,AU h];rfl
 rw[e];refine vA<|zBa (Ad st) (True) (Ah [Ag m 0 (Ad t) (Ad t*2) Ac] 222 0 Aa Aa Al) (Ae 0 0) (rfl:st.length=st.length) ?_;refine zAb [0] [(4,iD 0)] ?_;refine zA<|vA<|zA3 2 [(5,iD l),(6,Ae (Ad st) 0)] ?_;refine zAh (Ah [Ag m 0 (Ad t) (Ad t*2) Ac] 222 0 Aa Aa Al) (Ad st) (Ay 1 1) (Ag m 0 (Ad t) (Ad t*2) Ac) hl1 (by simp) ?_;refine zAb [5,6,7,8] [(9,bD<|decide ((l:Int)>=(Ad t:Int)))] ?_;refine vT ((l:Int)>=(Ad t:Int))<|vA<|zAb [9] [] ?_;refine zE<|zH<|zN (True) [q2_] (.inr rfl) ?_;exact⟨by kernel_rfl,rfl⟩
abbrev adN(x:List Va)(f l:Nat)(t:Tri):Tri:=(AI f (l-f)).foldl (stA x) t
theorem adN_succ(x:List Va)(f l:Nat)(t:Tri)(h:f<=l):adN x f (l+1) t=stA x (adN x f l t) l:=by
 unfold adN;rw[show l+1-f=(l-f)+1 by omega,Cj,BR];grind
theorem zTv(h:m≠k):zAn k (tvB m n)=tvB m n:=by
 simp_all [zAn,tvB,Bz,zAl,refs]
abbrev q7_(x0:Nat)(x1:List Va):=Am (AK 3 (Af (x0*3) (zG x1)))
theorem add_k(hm:m<o)(hbs:Bss o base)(x:List Va)(t:Tri)(f:Nat)(hx:x.length=t.length)(hf:f<=t.length)(h32:t.length<=1000)(ho:o<=1000)(B:Nat)(hB:B+t.length<=1000000)(hS:SzT B t)(ch:List Nat)(hch:∀k,k<o+2*t.length->k<o\/k∈ch):
  Acts As 163 [.agg [.osl m 0 t.length (t.length*2) Ac],rowV x,iD (f:Nat)] (tlay m o base t) ch (.tup []) (tlay m o base (adT x f t)++[tvB m t.length]):=by
 have hlen:∀l,(adN x f l t).length=t.length:=λl=>zSw x _ t;refine zAm (Tt_ok o) mixed Tryz.func163 rfl (λk hk=>by
  rw[zCb]at hk;refine(hch k hk).imp (λh=>?_) id;show decide (k<o)=Ac;rw[decide_eq_true h]) ?_
 refine vA<|zBa (o+2*Ad t) (True) (Ah [Ag m 0 (Ad t) (Ad t*2) Ac] 222 0 Aa Aa Al) (Ae 0 0) (zCb (m:=m) (o:=o) (base:=base) (t:=t)) ?_;refine zAb [0] [] ?_;refine vA<|zAb [2,7] [(6,iD f)] ?_;refine zJ<|zK (λ(l:Nat)=>fr 48 [(1,rowV x),(3,Ae (o+2*Ad t) 0),(6,iD l)]) (λ(l:Nat)=>tlay m o base (adN x f l t)++[tvB m t.length]) (λ(l:Nat)=>t.length-l) (λ(l:Nat)=>f<=l/\l<=t.length/\SzT (B+l) (adN x f l t)) f ?_ ?_ ?_
 ·refine⟨Au _,hf,?_⟩;rw[show adN x f f t=t by unfold adN;rw[BT];rfl];exact λk=>⟨by have:=(hS k).1;omega,by have:=(hS k).2.1;omega,λc hc=>by have:=(hS k).2.2 c hc;omega⟩
 ·rw[show adN x f f t=t by unfold adN;rw[BT];rfl];refine vkp [1,3,6]
 rintro l ⟨c1,c2,c3⟩;rcases Az l t.length with hl|hl
 ·have hsu:=adN_succ x f l t c1;have hln:=hlen l;have hsz:=c3;have hx1:=zB5 x l (by omega);have hnx:=zE4 x;have hlx:3<=((zG x).drop (l*3)).length:=zC3 _ _;generalize adN x f l t=u at*;have hul:l<u.length:=by omega
  have hhd:=lv_hd (o:=o) hul;have hll:=zN6 (o:=o) (t:=u);have htB:(tlay m o base u++[tvB m t.length])[o+2*t.length]?=Ai (tvB m t.length):=zAt (by rw[zCb,hln]);have hl2:(tlay m o base u++[tvB m t.length]).length=o+2*t.length+1:=by rw[AD,zCb,hln];rfl
  obtain⟨v,hvv⟩:∃v,v=x.getD l default:=⟨_,rfl⟩;rw[<-hvv]at hx1;have hcl:=zAg (vls u l);have hvl:=(hsz l).1;have hfl:=(hsz l).2.1;refine zA<|vA<|zAb [8,9,10] [(11,bD<|decide ((l:Int)<↑(Ad x)))] ?_;refine vT ((l:Int)<↑(Ad x))<|vKB<|zA<|zA6 [0,2,3,5,9,10,11,1,4,6,7,8,12,13] [(14,[(1,100000)],[15,16,17])] rfl ?_;refine zR 7 [] [] (True/\True/\ix ↑l ↑(Ad x) (zG x≠[])) [(14,Ae (o+2*Ad t) 0),(16,iD l),(17,Ae (o+2*Ad t) 0),(19,iD l),(23,(q3_ x)),(24,iD l),(25,A7<|Af (l*3)<|zG x)] ?_ (hc:=⟨trivial,trivial,⟨(by omega),⟨(by omega),(by assumption)⟩⟩⟩);refine zAh (Ah [Ag m 0 (Ad t) (Ad t*2) Ac] 222 0 Aa Aa Al) (o+2*Ad t) (Ay 1 1) (Ag m 0 (Ad t) (Ad t*2) Ac) htB (by simp) ?_;refine zAh (Ah [Ag m 0 (Ad t) (Ad t*2) Ac] 222 0 Aa Aa Al) (o+2*Ad t) (Ay 1 1) (Ag m 0 (Ad t) (Ad t*2) Ac) htB (by simp) ?_;refine zR 1 [] [] ((0:Int)<=(l:Int)/\(l:Int)<↑(Ad t)) [(20,Ae m (0+AB (l:Int)*2))] ?_;refine zAo 20 (Ae m (0+AB (l:Int)*2)) (Ae m (l*2)) (by simp(disch:=omega) only[AS,AV]) ?_;refine zA3 1 [(21,Ae m (l*2))] ?_;refine zAh (Ah (lvCs o u) 244 2 Ac Aa AN) (m) (Ay 1<|Ad<|Af (l*2)<|lvCs o u) (AC (Af (l*2)<|lvCs o u) Uk) (zA2<|tl_m hm) (by(simp;omega)) ?_;rw[hhd];refine zR 1 [] [] (3<=Ad (Af (l*3)<|zG x)) [(26,(q7_ l x))] ?_;refine zAo 26 (Am<|AK 3<|Af (l*3)<|zG x) (Am<|vaC v) (by simp(disch:=omega) only[hx1]) ?_;refine zBa (o+2*Ad t+1) ((3=3/\3<=3/\True)/\0<3/\3=3/\3<=16777216/\1<=9223372036854775807) (Ah [iD<|Ap v,iD<|Aq v,Aj<|Ao<|bs<|Ar v] 64 3 Ac Aa Al) (Ag 0 0 1 3 Ac) hl2 ?_ (hp:=⟨⟨(by kernel_rfl),⟨(by omega),trivial⟩⟩,(by omega)⟩);refine zAk ?_ (by kernel_rfl);refine zBy rfl rfl ?_ (hf:=zDr (λx hx=>by rw[AD,hl2];simp at hx;subst hx;show _+1<=100000;omega));refine zLs (Ah (zG<|vls u l) 64 3 Ac Aa Al) (Ah [iD<|Ap v,iD<|Aq v,Aj<|Ao<|bs<|Ar v] 64 3 Ac Aa Al) 22 (o+2*l) (o+2*Ad t+1) (Ac=Ac/\Ad (zG<|vls u l)=Ad (vls u l)*3/\Ad (vls u l)*3=Ad (vls u l)*3/\64=64/\3=3/\3=3/\0<3/\0<32/\64=64/\(Ad (vls u l)+1)*32<=140737488355328/\3=3/\BE Al=Aa/\(zCt As (Tt o) 53=Aa\/Kd.isSh Al=Ac)) (o+2*Ad t≠o+2*l/\o+2*Ad t≠o+2*l/\m≠o+2*l/\o+2*Ad t≠o+2*l/\m≠o+2*l/\m≠o+2*l/\m≠o+2*l/\o+2*Ad t+1≠o+2*l/\True) (Ah (zG (vls u l)++[iD<|Ap v,iD<|Aq v,Aj<|Ao<|bs<|Ar v]) 64 3 Ac Aa Al) (Ag (o+2*l) 0 (Ad (vls u l)+1) ((Ad (vls u l)+1)*3) Ac) (by kernel_rfl) (zA2<|zA2<|tl_v hm hul) (zAt hl2) ?_ (by kernel_rfl) ⟨(by omega),⟨(by omega),⟨(by omega),⟨(by omega),⟨(by omega),⟨(by omega),⟨(by omega),⟨(by omega),trivial⟩⟩⟩⟩⟩⟩⟩⟩ ?_ ?_
  ·exact⟨rfl,hcl,rfl,rfl,rfl,rfl,by decide,by decide,rfl,by omega,rfl,rfl, .inl (by kernel_rfl)⟩
  ·exact decide_eq_false (by omega)
  rw[kst (t:=u) (k:=o+2*l) (by omega) (zTv (by omega)) (zB7 rfl)];refine zAk ?_ (by kernel_rfl);refine zDo (by rw[AD,hl2,AD,AD,zEv,hln];exact Au _) (zDi 1 100000 (tvB m t.length) (o+2*t.length) (0<1) (.osl m 0 t.length (t.length*2) Ac) (by kernel_rfl) (by rw[zD9 (by rw[AD,AD,zEv,hln];show _+1+1<=100000;omega)];exact zA2 (zAt (by rw[zEv,hln]))) (by decide) (by kernel_rfl)) ?_;refine zR 1 [] [] ((0:Int)<=(l:Int)/\(l:Int)<↑(Ad t)) [(29,Ae m (0+AB (l:Int)*2))] ?_;refine zAo 29 (Ae m (0+AB (l:Int)*2)) (Ae m (l*2)) (by simp(disch:=omega) only[AS,AV]) ?_;refine zA3 1 [(30,Ae m (l*2))] ?_;refine zB6 (Ah (Ak (zAl (o+2*l))<|lvCs o u) 244 2 Ac Aa AN) (m) (Aa=Aa/\Ac=Ac/\1=1/\l*2+1<=Ad (Ak (zAl (o+2*l))<|lvCs o u)) (Ah (setAt (Ak (zAl (o+2*l))<|lvCs o u) (l*2)<|cellsOf<|Ag (o+2*l) 0 (Ad (vls u l)+1) ((Ad (vls u l)+1)*3) Ac) 244 2 Ac Aa AN) (zA2<|zA2<|ks_m hm (by omega:o+2*l≠m)) ⟨(by kernel_rfl),⟨(by kernel_rfl),⟨(by kernel_rfl),(by(simp;omega))⟩⟩⟩ ?_;have hA:=tl_appv1 (base:=base) hm hbs hul v;refine zF1 (tlay m o base (u.set l (vls u l++[v],fst' u l))++[tvB m t.length]++[⟨vaC v,64,3,Ac,Aa,.plain⟩]) ?_ ?_
  ·rw[zBh (by rw[AD,zEv];omega),zBh (by rw[zEv];omega)];exact congrArg (λs=>s++[tvB m t.length]++[_]) hA
  refine zAk ?_ (by kernel_rfl);refine zBv<|zC ?_;obtain⟨u2,hu2⟩:∃u2,u2=u.set l (vls u l++[v],fst' u l):=⟨_,rfl⟩;rw[<-hu2];have hln2:u2.length=t.length:=by rw[hu2,AP,hln]
  have hul2:l<u2.length:=by omega
  have hv2:∀k,vls u2 k=if k=l then vls u l++[v]else vls u k:=λk=>by
   grind
  have hf2:fst' u2 l=fst' u l:=by unfold fst';rw[hu2,zTt hul,if_pos rfl]
  have hnm:∀b∈tlay m o base u2++[tvB m t.length],namB (o+2*t.length+1) b:=λb hb=>by
   rcases Bj.1 hb with hb|hb
   ·have:=zRm hbs b hb
    rw[hln2]at this;exact this.imp id λh j hj=>h j (by omega)
   rw[Bm.1 hb];exact .inr λj hj=>by simp only[zX,refs,AL,beq_eq_false_iff_ne];omega
  have hl3:(tlay m o base u2++[tvB m t.length]).length=o+2*t.length+1:=by rw[AD,zCb,hln2];rfl
  have hkp:∀k,o+2*t.length+1<=k->(Tt o).keep k=false:=λk hk=>decide_eq_false (by omega);refine zF7 (AI 7 41) ([Uk,rowV x,Uk,.own (o+2*t.length) 0,Uk,Uk,iD (l:Nat)]++AA 41 Uk) (o+2*t.length<o+2*t.length+1/\True) hl3 hnm hkp (by kernel_rfl) (by kernel_rfl) ⟨by omega,trivial⟩ ?_;have hsz2:=size_g (m:=m) (o:=o) (t:=u2) (st:=tlay m o base u2++[tvB m t.length]) (zA2 (tl_m hm)) (λb hb=>by rw[hl3];exact hnm b hb) (l+1) (by omega);rw[hln2]at hsz2;have hvv2:vls u2 (l+1)=vls u (l+1):=by rw[hv2,if_neg (by omega)]
  rw[hvv2]at hsz2;have htB2:(tlay m o base u2++[tvB m t.length])[o+2*t.length]?=Ai (tvB m t.length):=zAt (by rw[zCb,hln2]);have hhd2:=lv_hd1 (o:=o) hul2;rw[hf2]at hhd2;have hll2:=zN6 (o:=o) (t:=u2);refine zA6 [0,2,3,5,10,11,1,4,6,7,8,9] [(12,[(1,100000),(4,100000),(6,100000),(7,100000),(8,100000)],[13]),(14,[(1,100000)],[15,16,17])] rfl ?_;refine zR 6 [] [] (True/\True/\i6 (↑l+1)) [(31,Ae (o+2*Ad t) 0),(33,iD l),(34,Ae (o+2*Ad t) 0),(36,iD l),(41,iD l),(42,iD (↑l+1))] ?_ (hc:=⟨trivial,trivial,(by omega)⟩);refine zAh (Ah [Ag m 0 (Ad t) (Ad t*2) Ac] 222 0 Aa Aa Al) (o+2*Ad t) (Ay 1 1) (Ag m 0 (Ad t) (Ad t*2) Ac) htB2 (by simp) ?_;refine zAh (Ah [Ag m 0 (Ad t) (Ad t*2) Ac] 222 0 Aa Aa Al) (o+2*Ad t) (Ay 1 1) (Ag m 0 (Ad t) (Ad t*2) Ac) htB2 (by simp) ?_;refine zR 1 [] [] ((0:Int)<=(l:Int)/\(l:Int)<↑(Ad t)) [(37,Ae m (0+AB (l:Int)*2))] ?_;refine zAo 37 (Ae m (0+AB (l:Int)*2)) (Ae m (l*2)) (by simp(disch:=omega) only[AS,AV]) ?_;refine zA3 1 [(38,Ae m (l*2+1))] ?_;refine zAh (Ah (lvCs o u2) 244 2 Ac Aa AN) (m) (Ay 1<|Ad<|Af (l*2+1)<|lvCs o u2) (AC (Af (l*2+1)<|lvCs o u2) Uk) (zA2<|tl_m hm) (by(simp;omega)) ?_;rw[hhd2];refine zAh (Ah [Ag m 0 (Ad t) (Ad t*2) Ac] 222 0 Aa Aa Al) (o+2*Ad t) (Ay 1 1) (Am [Ag m 0 (Ad t) (Ad t*2) Ac]) htB2 (by simp) ?_;refine zAk ?_ (by kernel_rfl);refine zBy rfl rfl ?_ (hf:=zDr (λx hx=>by rw[hl3];simp at hx;rcases hx with rfl|rfl|rfl|rfl|rfl<;>(show _+1<=100000;omega)));refine zZ [] [] [Am [Ag m 0 (Ad t) (Ad t*2) Ac],iD (↑l+1)] [Am [Ag m 0 (Ad t) (Ad t*2) Ac],iD ↑(l+1)] (AG _) (by exact hsz2) ?_;refine zAk ?_ (by kernel_rfl);have htk:∀st:List Bk,st.length<=100000->st.take 100000=st:=λst h=>zD9 h;have htB3:((tlay m o base u2++[tvB m t.length]).take 100000)[o+2*t.length]?=Ai (tvB m t.length):=by rw[htk _ (by rw[hl3];omega)];exact htB2
  have htm3:((tlay m o base u2++[tvB m t.length]).take 100000)[m]?=Ai (lvB o u2):=by rw[htk _ (by rw[hl3];omega)];exact zA2 (tl_m hm)
  refine zDo (Au _) (zDd (zDi 1 100000 (tvB m t.length) (o+2*t.length) (0<1) (.osl m 0 t.length (t.length*2) Ac) (by kernel_rfl) htB3 (by decide) (by kernel_rfl))
   (zDd (zDi 4 100000 (tvB m t.length) (o+2*t.length) (0<1) (.osl m 0 t.length (t.length*2) Ac) (by kernel_rfl) htB3 (by decide) (by kernel_rfl))
   (zDd (zLb 6 100000 ((0:Int)<=(l:Nat)/\((l:Nat):Int)<(t.length:Nat)) (.own m (0+AB (l:Nat)*2)) (.own m (l*2)) (by kernel_rfl) (by simp) (by omega) (by kernel_rfl))
   (zDd (zLb 7 100000 True (.own m (l*2+1)) (.own m (l*2+1)) (by kernel_rfl) rfl trivial (by kernel_rfl))
   (zYd 8 100000 (lvB o u2) m (0<((lvCs o u2).drop (l*2+1)).length) (((lvCs o u2).drop (l*2+1)).headD .unk) (.osl (o+2*l+1) 0 (fst' u l).length (fst' u l).length Ac) (by kernel_rfl) hhd2 htm3 (by rw[BS,hll2];omega) (by kernel_rfl)))))) ?_
  rotate_left;refine zBa (o+2*Ad t+1) ((1=1/\1<=1/\True)/\0<1/\1=1/\1<=16777216/\1<=9223372036854775807) (Ah [iD (↑(Ad<|vls u (l+1)):Int)] 3 1 Ac Aa Al) (Ag 0 0 1 1 Ac) hl3 ?_ (hp:=⟨⟨(by kernel_rfl),⟨(by omega),trivial⟩⟩,(by omega)⟩);refine zAk ?_ (by kernel_rfl);refine zBy rfl rfl ?_ (hf:=zDr (λx hx=>by rw[AD,hl3];simp at hx;subst hx;show _+1<=100000;omega));have hfb:(tlay m o base u2)[o+2*l+1]?=Ai (inA (fst' u l)):=by rw[tl_f hm hul2,hf2]
  refine zLs (Ah (Ak (λ(c:Nat)=>iD c)<|fst' u l) 3 1 Ac Aa Al) (Ah [iD (↑(Ad<|vls u (l+1)):Int)] 3 1 Ac Aa Al) 39 (o+2*l+1) (o+2*Ad t+1) (Ac=Ac/\Ad (Ak (λ(c:Nat)=>iD c)<|fst' u l)=Ad (fst' u l)*1/\Ad (fst' u l)=Ad (fst' u l)*1/\3=3/\1=1/\1=1/\0<1/\0<8/\3=3/\(Ad (fst' u l)+1)*8<=140737488355328/\1=1/\BE Al=Aa/\(zCt As (Tt o) 23=Aa\/Kd.isSh Al=Ac)) (o+2*Ad t≠o+2*l+1/\o+2*Ad t≠o+2*l+1/\m≠o+2*l+1/\o+2*Ad t≠o+2*l+1/\m≠o+2*l+1/\m≠o+2*l+1/\m≠o+2*l+1/\m≠o+2*l+1/\o+2*Ad t+1≠o+2*l+1/\True) (Ah (Ak (λ(c:Nat)=>iD c) (fst' u l)++[iD (↑(Ad<|vls u (l+1)):Int)]) 3 1 Ac Aa Al) (Ag (o+2*l+1) 0 (Ad (fst' u l)+1) ((Ad (fst' u l)+1)*1) Ac) (by kernel_rfl) (zA2<|zA2 hfb) (zAt hl3) ?_ (by kernel_rfl) ⟨(by omega),⟨(by omega),⟨(by omega),⟨(by omega),⟨(by omega),⟨(by omega),⟨(by omega),⟨(by omega),⟨(by omega),trivial⟩⟩⟩⟩⟩⟩⟩⟩⟩ ?_ ?_
  ·exact⟨rfl,by rw[A4,Ba],(Ba _).symm,rfl,rfl,rfl,by decide,by decide,rfl,by omega,rfl,rfl, .inl (by kernel_rfl)⟩
  ·exact decide_eq_false (by omega)
  rw[kst (t:=u2) (k:=o+2*l+1) (by omega) (zTv (by omega)) (zB7 rfl)];rw[Ba];refine zAk ?_ (by kernel_rfl);refine zDo (by rw[AD,hl3,AD,AD,zEv,hln2];exact Au _) (zDi 1 100000 (tvB m t.length) (o+2*t.length) (0<1) (.osl m 0 t.length (t.length*2) Ac) (by kernel_rfl) (by rw[zD9 (by rw[AD,AD,zEv,hln2];show _+1+1<=100000;omega)];exact zA2 (zAt (by rw[zEv,hln2]))) (by decide) (by kernel_rfl)) ?_;refine zR 1 [] [] ((0:Int)<=(l:Int)/\(l:Int)<↑(Ad t)) [(46,Ae m (0+AB (l:Int)*2))] ?_;refine zAo 46 (Ae m (0+AB (l:Int)*2)) (Ae m (l*2)) (by simp(disch:=omega) only[AS,AV]) ?_;refine zA3 1 [(47,Ae m (l*2+1))] ?_;refine zB6 (Ah (Ak (zAl (o+2*l+1))<|lvCs o u2) 244 2 Ac Aa AN) (m) (Aa=Aa/\Ac=Ac/\1=1/\l*2+1+1<=Ad (Ak (zAl (o+2*l+1))<|lvCs o u2)) (Ah (setAt (Ak (zAl (o+2*l+1))<|lvCs o u2) (l*2+1)<|cellsOf<|Ag (o+2*l+1) 0 (Ad (fst' u l)+1) (Ad (fst' u l)+1) Ac) 244 2 Ac Aa AN) (zA2<|zA2<|ks_m hm (by omega:o+2*l+1≠m)) ⟨(by kernel_rfl),⟨(by kernel_rfl),⟨(by kernel_rfl),(by(simp;omega))⟩⟩⟩ ?_;have hA2:=zW5 (base:=base) hm hbs hul2 (vls u (l+1)).length;rw[hf2]at hA2;have hst2:u2.set l (vls u2 l,fst' u l++[(vls u (l+1)).length])=stA x u l:=by
   rw[hv2,if_pos rfl,hu2,List.set_set,hvv];rfl
  rw[hst2]at hA2;refine zF1 (tlay m o base (stA x u l)++[tvB m t.length]++[⟨[iD ((vls u (l+1)).length:Nat)],3,1,Ac,Aa,.plain⟩]) ?_ ?_
  ·rw[zBh (by rw[AD,zEv];omega),zBh (by rw[zEv];omega)];exact congrArg (λs=>s++[tvB m t.length]++[_]) hA2
  refine zAk ?_ (by kernel_rfl);refine zBv<|zD<|zC ?_;have hln3:(stA x u l).length=t.length:=by rw[stA_len,hln]
  have hnm3:∀b∈tlay m o base (stA x u l)++[tvB m t.length],namB (o+2*t.length+1) b:=λb hb=>by
   rcases Bj.1 hb with hb|hb
   ·have:=zRm hbs b hb
    rw[hln3]at this;exact this.imp id λh j hj=>h j (by omega)
   grind
  refine zF7 (AI 7 41) ([Uk,rowV x,Uk,.own (o+2*t.length) 0,Uk,Uk,iD (l:Nat)]++AA 41 Uk) (o+2*t.length<o+2*t.length+1/\True) (by rw[AD,zCb,hln3];rfl) hnm3 hkp (by kernel_rfl) (by kernel_rfl) ⟨by omega,trivial⟩ ?_;refine zB rfl<|zR 3 [] [] (i6 (↑l+1)) [(6,iD ↑(l+1)),(12,iD l),(13,iD ↑(l+1))] ?_;refine zAk ?_ (by kernel_rfl);refine zC<|⟨l+1,⟨by omega,hl,?_⟩,by omega,?_⟩
  ·grind [stA_sz]
  rw[hsu];refine vkp [1,3,6]
 obtain rfl:l=t.length:=by omega
 have hfA:=foldA f x t hx;rw[<-hfA];refine zA<|vA<|zAb [8,9,10] [(11,bD<|decide ((Ad t:Int)<(Ad x:Int)))] ?_;refine vF ((Ad t:Int)<↑(Ad x))<|vY2<|zN (True) [] (.inl rfl) ?_;exact⟨by kernel_rfl,rfl⟩
theorem add_a(hm:m<o)(hbs:Bss o base)(x:List Va)(t:Tri)(f:Nat)(hx:x.length=t.length)(hf:f<=t.length)(h32:t.length<=1000)(ho:o<=1000)(B:Nat)(hB:B+t.length<=1000000)(hS:SzT B t)(ch:List Nat)(hch:∀k,k<o+2*t.length->k<o\/k∈ch):
  Acts As 163 [.agg [.osl m 0 t.length (t.length*2) Ac],rowV x,iD (f:Nat)] (tlay m o base t) ch (.tup []) (tlay m o base (adT x f t)):=
 (add_k hm hbs x t f hx hf h32 ho B hB hS ch hch).tail (N:=o+2*t.length) (by rw[zCb,zFr]) (by rw[zCb];exact Au _) (λb hb=>by have:=zRm hbs b hb;rwa[zFr]at this) (λj _=>by simp only[refs,zX])
end
variable{e:Bk}{wh:Bool}
section
open Go.RowKit
abbrev nlD:D:= .val (.slice AO 0 0)
def zJv(o c k:Nat):List D:=(Aw c).map λi=>if i<k then .osl (o+i) 0 0 0 Ac else nlD
def zSd(k:Nat):List Bk:=(Aw k).map λi=>if i%2=0 then vaA []else inA []
theorem zH1(o c k i:Nat):(zJv o c k)[i]?=if i<c then Ai (if i<k then .osl (o+i) 0 0 0 Ac else nlD)else none:=by
 grind [zJv,AU]
theorem zRi{T:Par}{sl:List D}(B0 B1 B2 B4:Bk)(c:Nat):∀k,k<=c->Weak T sl [B0,B1,B2,⟨zJv 5 c 0,244,2,Ac,Aa, .sh⟩,B4] sl ([B0,B1,B2,⟨zJv 5 c k,244,2,Ac,Aa, .sh⟩,B4]++zSd k)
 |0,_=>Weak.refl _ _
 | k+1,hk=>by
  refine(zRi B0 B1 B2 B4 c k (by omega)).trans ?_;have h:=Weak.nilC (T:=T) (sl:=sl) (st:=[B0,B1,B2,⟨zJv 5 c k,244,2,Ac,Aa, .sh⟩,B4]++zSd k) (j:=3) (i:=k) (if k%2=0 then vaA []else inA []) rfl rfl rfl (by
   show(zJv 5 c k)[k]?=_;rw[zH1,if_pos (by omega),if_neg (by omega)])
  have hl:([B0,B1,B2,⟨zJv 5 c k,244,2,Ac,Aa, .sh⟩,B4]++zSd k).length=5+k:=by
   simp[zSd];omega
  have e1:(zJv 5 c k).set k (.osl (5+k) 0 0 0 Ac)=zJv 5 c (k+1):=by
   apply AM;grind [zH1,zJv]
  simp_all [zSd,vaA,inA,BC,Ce,A5]
theorem zP4(n k:Nat):vls (AA n (([],[]):List Va×List Nat)) k=[]/\fst' (AA n (([],[]):List Va×List Nat)) k=[]:=by
 unfold vls fst';rw[AW,List.getElem?_replicate];split<;>exact⟨rfl,rfl⟩
theorem nils_tlay(B0 B1 B2 B4:Bk)(base:Nat->Bk)(n:Nat)(h0:base 0=B0)(h1:base 1=B1)(h2:base 2=B2)(h4:base 4=B4):[B0,B1,B2,⟨zJv 5 (n*2) (n*2),244,2,Ac,Aa, .sh⟩,B4]++zSd (n*2)=tlay 3 5 base (AA n ([],[])):=by
 apply AM;intro j;have hv:=λk=>(zP4 n k).1;have hf:=λk=>(zP4 n k).2;rcases Az j 5 with hj|hj
 ·rw[B6 (by simpa using hj),zDk (by omega)];unfold tblk;match j,hj with
  |0,_=>rw[if_neg (by decide),if_pos (by decide),h0];rfl
  |1,_=>rw[if_neg (by decide),if_pos (by decide),h1];rfl
  |2,_=>rw[if_neg (by decide),if_pos (by decide),h2];rfl
  |4,_=>rw[if_neg (by decide),if_pos (by decide),h4];rfl
  | 3,_=>
   rw[if_pos rfl];have:zJv 5 (n*2) (n*2)=lvCs 5 (AA n ([],[])):=by
    apply AM;intro i;rw[zH1,zKp,Bh];grind
   rw[this];rfl
 rw[BL (by simpa using hj)];show(zSd (n*2))[j-5]?=_;unfold zSd;rcases Az (j-5) (n*2)with h|h
 ·grind [zDk,Bh,only,Ck,BB.injEq,tblk]
 grind [AU,zCb,Bh]
theorem weak_mk(B0 B1 B2 B4:Bk)(base:Nat->Bk)(n:Nat)(h0:base 0=B0)(h1:base 1=B1)(h2:base 2=B2)(h4:base 4=B4):Weak T sl [B0,B1,B2,⟨repL n [nlD,nlD],244,2,Ac,Aa, .sh⟩,B4] sl (tlay 3 5 base (AA n ([],[]))):=by
 have e:repL n [nlD,nlD]=zJv 5 (n*2) 0:=by
  apply AM;intro i;rw[zH1];have key:∀(n i:Nat),(repL n [nlD,nlD])[i]?=if i<n*2 then Ai nlD else none:=by
   intro n;induction n with
   |zero=>intro i;simp[repL]
   |succ n ih=>
    intro i;have:repL (n+1) [nlD,nlD]=nlD::nlD::repL n [nlD,nlD]:=by simp[repL,List.replicate_succ]
    grind
  grind
 rw[e,<-nils_tlay B0 B1 B2 B4 base n h0 h1 h2 h4];exact zRi B0 B1 B2 B4 (n*2) (n*2) (Au _)
theorem zYr(h:st[k]?=Ai e)(hm:e.kd.isMap=Aa)(hn:e.nob=Ac):frz Ac st (n+1) (.osl k off l m wh)=Ai (.row ((e.cells.drop off).take m) l,[k]):=by
 grind [only,frz,Bool.false_eq_true]
theorem frz_oslS(h:st[k]?=Ai e)(hm:e.kd.isMap=Aa)(hn:e.nob=Aa):frz Ac st (n+1) (.osl k off l m wh)=(mapF (frz Ac st n) e.cells).map λx=>(.row ((x.1.drop off).take m) l,k::x.2):=by
 grind [only,frz,Bool.false_eq_true]
theorem zX9{m o:Nat}{base:Nat->Bk}{t:Tri}(hm:m<o)(n:Nat):∀ls:List Nat,(∀l∈ls,l<t.length)->∃ks,mapF (frz Ac (tlay m o base t) (n+1)) (ls.flatMap (lvP o t))=Ai (ls.flatMap (λl=>lvC (t.getD l Ab)),ks)/\∀k∈ks,o<=k
 |[],_=>⟨[],rfl,by simp⟩
 | l::ls,h=>by
  obtain⟨ks,h1,h2⟩:=zX9 hm n ls λl hl=>h l (by simp[hl]);have hl:=h l (by simp);have hv:=zYr (n:=n) (off:=0) (l:=(vls t l).length) (m:=(vls t l).length*3) (wh:=Ac) (tl_v (base:=base) hm hl) rfl rfl;have hf:=zYr (n:=n) (off:=0) (l:=(fst' t l).length) (m:=(fst' t l).length) (wh:=Ac) (tl_f (base:=base) hm hl) rfl rfl;rw[AY,Bw (by rw[zAg];exact Au _)]at hv;rw[AY,Bw (by simp)]at hf;refine⟨(o+2*l)::(o+2*l+1)::ks,?_,λk hk=>?_⟩
  ·simp only[Bb,lvP,BG,BY,mapF,hv,hf];try simp only[lvP]at h1
   rw[h1]
  grind
theorem zZy(t:Tri):(Aw t.length).flatMap (λl=>lvC (t.getD l Ab))=t.flatMap lvC:=by
 have:t=(Aw t.length).map λl=>t.getD l default:=by
  apply AM;grind
 grind [List.flatMap_map]
theorem weak_trie(B0:Bk)(h0:base 0=B0)(h1:base 1=⟨[.osl 3 0 t.length (t.length*2) Ac],222,0,Aa,Aa, .plain⟩)(hb0:namB 2 B0)(hk:∀k,2<=k->T.keep k=Aa)(hs:∀j∈ownL sl,j<2):Weak T sl (tlay 3 5 base t) sl [B0,⟨[triC t],222,0,Aa,Aa, .plain⟩]:=by
 obtain⟨ks,hx,hks⟩:=zX9 (m:=3) (o:=5) (base:=base) (t:=t) (by decide) 7 (Aw t.length) λl hl=>AR.1 hl;rw[zZy]at hx;have hfr:frz Ac (tlay 3 5 base t) zAe (.osl 3 0 t.length (t.length*2) Ac)=Ai (triC t,3::ks):=by
  have e:mapF (frz Ac (tlay 3 5 base t) 8) (lvCs 5 t)=Ai (t.flatMap lvC,ks):=hx;have hl:(t.flatMap lvC).length=t.length*2:=zDn zG7 t;have h8:=frz_oslS (n:=8) (off:=0) (l:=t.length) (m:=t.length*2) (wh:=Ac) (tl_m (m:=3) (o:=5) (base:=base) (t:=t) (by decide)) rfl rfl;rw[e]at h8;simp only[BA]at h8;rw[AY,Bw (by omega)]at h8;exact h8
 have hg1:(tlay 3 5 base t)[1]?=Ai ⟨[.osl 3 0 t.length (t.length*2) Ac],222,0,Aa,Aa, .plain⟩:=by
  rw[zDk (by omega),<-h1];rfl
 have hg0:(tlay 3 5 base t)[0]?=Ai B0:=by rw[zDk (by omega),<-h0];rfl
 have w1:=Weak.fzCell (T:=T) (sl:=sl) (j:=1) (i:=0) hg1 rfl rfl rfl hfr (by
  intro h;rcases Bs.1 h with h|h
  ·cases h
  have:=hks 1 h;omega)
 refine w1.trans ?_;have hlen:((zA0 (tlay 3 5 base t) (3::ks)).set 1 ⟨[triC t],222,0,Aa,Aa, .plain⟩).length=5+2*t.length:=by
  rw[AP,zS,zCb]
 have htk:((zA0 (tlay 3 5 base t) (3::ks)).set 1 ⟨[triC t],222,0,Aa,Aa, .plain⟩).take 2=[B0,⟨[triC t],222,0,Aa,Aa, .plain⟩]:=by
  apply AM;grind [BN,zBw,only,B3,zS,zCb]
 rw[<-htk];refine Weak.cut 2 ?_ hk;unfold zEr;simp only[Bq,AR,BH,Bx,BI];intro i hi;refine⟨zCz sl λj hj=>by have:=hs j hj;omega,λe he=>?_⟩;have he:e∈[B0,(⟨[triC t],222,0,Aa,Aa, .plain⟩:Bk)]:=by rw[<-htk];exact he
 rcases Bs.1 he with rfl|he
 ·exact hb0.imp id λh=>h _ (by omega)
 simp_all [Bm,only,zX,refs,AL]
theorem next_trie(B0:Bk)(dead:List Nat)(sl':List D)(C:Prop)(h0:base 0=B0)(h1:base 1=⟨[.osl 3 0 t.length (t.length*2) Ac],222,0,Aa,Aa, .plain⟩)(hb0:namB 2 B0)(hk:∀k,2<=k->T.keep k=Aa)(e:zAr sl dead=sl')(hC:lts 2 (ownL sl')=C)(hs:C)(k:awp P T c Q sl' [B0,⟨[triC t],222,0,Aa,Aa, .plain⟩]):zAi P T c Q sl (tlay 3 5 base t):=
 by
 subst e;exact⟨_,_,(BP (LeL.dead dead sl)).trans (weak_trie B0 h0 h1 hb0 hk (zQs (by rw[hC];exact hs))),k⟩
end
section
open Go.RowKit
attribute [local irreducible] seqW awp zAd zAi zY Weak updS zAr retL Pure Acts rP setP setQ cP nP fr
set_option maxRecDepth 4096
theorem zZh{B:Nat}:∀(f:Nat)(x:List Va)(t:Tri),SzT B t->SzT (B+1) (adT x f t)
 |0,[],t,h=>λk=>⟨Ax (h k).1 (AJ _),Ax (h k).2.1 (AJ _),λc hc=>Ax ((h k).2.2 c hc) (AJ _)⟩
 |f+1,[],t,h=>λk=>by
  rw[show adT [] (f+1) t=t by cases t<;>rfl];exact⟨Ax (h k).1 (AJ _),Ax (h k).2.1 (AJ _),λc hc=>Ax ((h k).2.2 c hc) (AJ _)⟩
 |0,v::x,[],h=>λk=>⟨Ax (h k).1 (AJ _),Ax (h k).2.1 (AJ _),λc hc=>Ax ((h k).2.2 c hc) (AJ _)⟩
 |f+1,v::x,[],h=>λk=>⟨Ax (h k).1 (AJ _),Ax (h k).2.1 (AJ _),λc hc=>Ax ((h k).2.2 c hc) (AJ _)⟩
 | 0,v::x,l::t,h=>λk=>by
  have ht:SzT B t:=λk=>h (k+1);cases k with
  | zero=>
   obtain⟨h1,h2,h3⟩:=h 0;refine⟨?_,?_,λc hc=>?_⟩
   ·show(l.1++[v]).length<=B+1;grind
   ·show(l.2++[szT t]).length<=B+1;grind
   have hc:c∈l.2++[szT t]:=hc;rcases Bj.1 hc with hc|hc
   ·grind
   rw[Bm.1 hc,zTw];exact Ax (ht 0).1 (AJ _)
  |succ k=>exact zZh 0 x t ht k
 | f+1,v::x,l::t,h=>λk=>by
  have ht:SzT B t:=λk=>h (k+1);cases k with
  |zero=>
   obtain⟨h1,h2,h3⟩:=h 0;exact⟨Ax h1 (AJ _),Ax h2 (AJ _),λc hc=>Ax (h3 c hc) (AJ _)⟩
  |succ k=>exact zZh f x t ht k
theorem stF_sz(h:SzT B t):SzT (B+1) (stF t l):=λk=>by
 unfold stF vls fst';rw[zSs];split
 ·refine⟨Ax (h l).1 (AJ _),by rw[AD];exact B5 (h l).2.1,λc hc=>?_⟩;rcases Bj.1 hc with hc|hc
  ·have:=(h l).2.2 c hc;omega
  rw[Bm.1 hc];have:=(h (l+1)).1;exact Ax this (AJ _)
 exact⟨Ax (h k).1 (AJ _),Ax (h k).2.1 (AJ _),λc hc=>Ax ((h k).2.2 c hc) (AJ _)⟩
theorem kst1{B:Bk}(hk:k<o+2*t.length)(hB:zAn k B=B):((tlay m o base t++[B]).map (zAn k)).set k b'=((tlay m o base t).map (zAn k)).set k b'++[B]:=by
 grind [List.set_append_left,zCb]
theorem shr_le:∀(x y:List Va),shr x y<=y.length
 |[],y=>by rw[zP1];exact Bf _
 |a::x,[]=>Bf _
 |a::x,b::y=>by
  rw[shr];split
  ·have:=shr_le x y;simpa using this
  exact Bf _
theorem zTf(x:List Va):∀(L:List (List Va))(last:List Va)(t:Tri),bldT last (L++[x]) t=adT x (shr (L.getLastD last) x) (bldT last L t)
 |[],last,t=>rfl
 |y::L,last,t=>by
  rw[BG,bldT,zTf x L y,List.getLastD_cons];rfl
theorem uqA_id:∀(L:List Rw)(p:Rw),Rsc (p::L)->uqA p L=L
 |[],p,h=>rfl
 | b::L,p,h=>by
  obtain⟨h1,h2⟩:=A8.1 h;have hne:b≠p:=λe=>by
   have:=h1 b (by simp)
   grind [zBq]
  rw[uqA,if_neg hne,uqA_id L b h2]
theorem relR_id{L:List Rw}(h:Rsc L):relR L=L:=by
 have hs:srtB L=true:=by
  unfold srtB;rw[Bq];intro j hj;have hj:=AR.1 hj;unfold zTs;rcases Nat.eq_zero_or_pos j with h0|h0
  ·grind
  have:=List.pairwise_iff_getElem.1 h (j-1) j (by omega) hj (by omega)
  grind [only,Br,zBq,rcmp]
 unfold relR;rw[hs,if_pos rfl];cases L with
 |nil=>rfl
 |cons a L=>show a::uqA a L=_;rw[uqA_id L a h]
theorem zJs{r:Rw}(h:r.length=n):zM r (Aw n)=r:=by
 unfold zM;apply AM;grind
abbrev rgD(n:Nat):List D:=(Aw n).map λc=>iD (c:Nat)
theorem rg_hd(h:i<n):((rgD n).drop i).headD .unk=iD (i:Nat):=by
 simp_all
theorem rg_take(h:i<=n):(rgD n).take i=rgD i:=by
 rw[<-List.map_take,List.take_range,Nat.min_eq_left h]
theorem indexNo_c(i:Nat)(hi:i<=1000000):Pure As 180 [.row (rgD i) i,iD (i:Nat)] [] (iD (-1)):=by
 refine zF zAx mixed Tryz.func180 rfl<|vAu<|zA<|vAe<|zJ<|zK (λ(j:Nat)=>fr 19 [(0,AH (rgD i) i),(1,iD (i:Int)),(7,iD (i:Int)),(8,iD (j:Int))]) (λ(j:Nat)=>[]) (λ(j:Nat)=>i-j) (λ(j:Nat)=>j<=i) 0 ?_ ?_ ?_
 ·omega
 ·refine vk 0
 intro j h1;rcases Az j i with h2|h2
 ·have hx:=rg_hd h2;have hne:rgD i≠[]:=zAc (h:=by simp;omega);refine vAu<|zA<|vT ((j:Int)<↑i)<|vKB<|vAe<|vA<|vr 4 (ix ↑j ↑i (rgD i≠[]))<|vp 14 j (rgD i)<|vr 1 (0<Ad (Af j<|rgD i))<|vsh 15 hx<|veT<|vEf ((i:Int)) ((j:Int))<|zT<|zD<|vN<|zB rfl<|vr 2 (i6 (↑j+1))<|vnil<|zC<|⟨j+1,by omega,by omega,?_⟩;refine vk 0
 refine vAu<|zA<|vF ((j:Int)<(i:Int))<|vZ2<|vAe<|zE<|vret (True)<|.inr rfl
theorem zS9(i:Nat)(hi:i<=1000000):Pure As 162 [.row (rgD i) i,iD (i:Nat)] [] (bD Aa):=by
 have h:=indexNo_c i hi;refine zF zAx mixed Tryz.func162 rfl<|vAu<|vA<|vrT 2<|vc (h)<|veT<|zE<|vret (True)<|.inr rfl
def Tq:Par:=⟨(Tt 5).imp,λ_ _=>AO,λ_=>Aa,λ_=>Aa,λt=>t==244⟩
theorem Tq_ok:zA9 As Tq:=by intro t n f h;cases h
abbrev rlB(n:Nat)(L:List Rw):Bk:=⟨[iD (n:Nat), .row (L.map rowV) L.length],85,0,Aa,Aa, .plain⟩
def nwb(n:Nat)(L:List Rw)(r:D)(k:Nat):Bk:=([rlB n L,⟨[r],222,0,Aa,Aa, .plain⟩,rlB n L,Ab,tvB 3 n]:List Bk).getD k Ab
theorem nw_set(n:Nat)(L:List Rw)(t:Tri)(r r':D):(tlay 3 5 (nwb n L r) t).set 1 ⟨[r'],222,0,Aa,Aa, .plain⟩=tlay 3 5 (nwb n L r') t:=by
 apply AM;intro j;rw[Bo,zCb];split
 ·rename_i e;subst e;rw[if_pos (by omega),zDk (by omega)];rfl
 rename_i e;rcases Az j (5+2*t.length)with hj|hj
 ·rw[zDk hj,zDk hj];unfold tblk;split
  ·rfl
  split
  ·rename_i h5;match j,h5,e with
   |0,_,_=>rfl
   |2,_,_=>rfl
   |3,_,_=>rfl
   |4,_,_=>rfl
   |1,_,e=>exact absurd rfl e
  rfl
 grind [AU,zCb]
abbrev q8_:=Ah [nl] 222 0 Aa Aa Al
theorem trieNew_c(n:Nat)(L:List Rw)(hn:n<=32)(hL:L.length<=65536)(hl:∀r∈L,r.length=n)(hs:Rsc L):Pure As 144 [relD (n:Nat) L, .row (rgD n) n] [] (.tup [.agg [triC (zCa n L)],iD 0]):=by
 have hra:=zP9 (n:Nat) (L.map rowV) L.length;have hpr:=zR0 n L (Aw n) hL (by simpa using hn) hl (by omega) (by simp);have e1:(L.map λr=>zM r (Aw n))=L:=by
  conv=>rhs;rw[<-List.map_id L]
  grind [B9,zJs]
 rw[e1,relR_id hs,BU]at hpr;have hrw:=zT7 (n:Nat) L hL (λr hr=>by have:=hl r hr;omega);refine zF Tq_ok mixed Tryz.func144 rfl<|vAu<|zA<|vAe<|zJ<|zK (λ(i:Nat)=>fr 92 [(1,AH (rgD n) n),(2,Ae 0 0),(4,Ae 1 0),(15,AH (rgD n) n),(16,iD (n:Int)),(17,iD (i:Int))]) (λ(i:Nat)=>[⟨[iD (n:Nat),.row (L.map rowV) L.length],85,0,Aa,Aa,.plain⟩,⟨[nlD],222,0,Aa,Aa,.plain⟩]) (λ(i:Nat)=>n-i) (λ(i:Nat)=>i<=n) 0 ?_ ?_ ?_
 ·omega
 ·refine vk 2
 intro i h1;rcases Az i n with h2|h2
 ·have hx:=rg_hd h2;have hne:rgD n≠[]:=zAc (h:=by simp;omega);have htk:=rg_take h1;have hco:=zS9 i (by omega);refine vAu<|zA<|vT ((i:Int)<↑n)<|vKB<|vA<|vr 2 (ix ↑i ↑n (rgD n≠[]))<|vp 20 i (rgD n)<|vr 1 (0<Ad (Af i<|rgD n))<|vsh 21 hx<|veT<|zA<|vA<|vw 5 [] [(2,Aa)] (decide ((i:Int)<0)=Aa/\2<=2)<|vc hra<|veT<|vF ((i:Int)>=(n:Int))<|vK<|vA<|vr 3 (True/\(0:Int)<=(i:Int)/\True/\0<1/\0<=AB (i:Int)/\AB (i:Int)<=n/\AB (i:Int)=AB (i:Int))<|vs 33 (AH (AK ((AB (i:Int)-0)*1)<|Af 0<|rgD n) (AB (i:Int)-0)) (AH (rgD i) i)<|vrT 1<|vc hco<|veT<|vf<|zT<|zD<|vN<|zB rfl<|vr 2 (i6 (↑i+1))<|vnil<|zC<|⟨i+1,by omega,by omega,?_⟩;refine vk 2
 obtain rfl:i=n:=by omega
 refine vAu<|zA<|vF ((i:Int)<↑i)<|vZ2<|vA<|vr 2 (2<=2)<|vc hpr<|ve (0<2/\1<2/\Aa=Aa/\Ac=Ac/\2=2/\2<=2)<|zA<|vAe<|vf<|vK<|vA<|ve (((0:Int)<=(i:Int)/\(i:Int)<=↑i/\(↑(48:Nat):Int)*(i:Int)<=(281474976710656:Int)/\(i:Int)<=(281474976710656:Int)/\0<2/\2=2)/\((1=1/\1<=1/\True)/\Ac=Ac)/\Aa=Aa/\Ac=Ac/\1=1/\1<=1)<|vA<|vrT 1<|vnil<|zC<|vnn (fr 92 [(4,Ae 1 0),(8,Ae 2 0),(10,Ae 4 0),(11,nl)]) [Ah [iD i,AH (Ak rowV L)<|Ad L] (85:TypeId) 0 Aa Aa Al,Ah [nlD] (222:TypeId) 0 Aa Aa Al,Ah [iD i,AH (Ak rowV L)<|Ad L] 85 0 Aa Aa Al,Ah (repL i [nl,nl]) 244 2 Ac Aa<|kdOf Ac,Ah [Ag 3 0 i (i*2) Ac] 222 0 Aa Aa Al]<|zB2 (weak_mk (rlB i L) ⟨[nlD],222,0,Aa,Aa,.plain⟩ (rlB i L) (tvB 3 i) (nwb i L nlD) i rfl rfl rfl rfl) ?_;have hl4:∀t:Tri,(tlay 3 5 (nwb i L nlD) t)[4]?=Ai (tvB 3 i):=λt=>by rw[zDk (by omega)];rfl
 have hl2:∀t:Tri,(tlay 3 5 (nwb i L nlD) t)[2]?=Ai (rlB i L):=λt=>by rw[zDk (by omega)];rfl
 have hbs:Bss 5 (nwb i L nlD):=λk hk=>by
  match k,hk with
  |0,_=>exact .inr λj _=>by simp[nwb,zX,refs]
  |1,_=>exact .inr λj _=>by simp[nwb,zX,refs]
  |2,_=>exact .inr λj _=>by simp[nwb,zX,refs]
  |3,_=>exact .inr λj _=>by simp[nwb,zX,Ab,instInhabitedBk.default]
  |4,_=>exact .inr λj hj=>by simp[nwb,zX,refs];omega
 refine zA<|vA<|zAh (Ah [iD i,AH (Ak rowV L)<|Ad L] 85 0 Aa Aa Al) (2) (Ay 2 2) (Am [iD i,AH (Ak rowV L)<|Ad L]) (hl2 _) (by simp) ?_;refine zTz [Am [iD i,AH (Ak rowV L)<|Ad L]] (by exact hrw) ?_;refine zAb [8,52] [(54,iD<|Ad L),(55,iD 0)] ?_;refine zJ ?_;have htl:∀j,(bldT [] (L.take j) (AA i ([],[]))).length=i:=λj=>by rw[zLe,Bh]
 refine zK (λ(j:Nat)=>fr 92 [(4,Ae 1 0),(10,Ae 4 0),(11,rowV<|List.getLastD (AK j L) []),(53,AH (Ak rowV L)<|Ad L),(54,iD<|Ad L),(55,iD j)]) (λ(j:Nat)=>tlay 3 5 (nwb i L nlD) (bldT [] (L.take j)<|AA i ([],[]))) (λ(j:Nat)=>L.length-j) (λ(j:Nat)=>j<=L.length/\SzT j (bldT [] (L.take j)<|AA i ([],[]))) 0 ?_ ?_ ?_
 ·refine⟨by omega,λk=>?_⟩;show(vls (AA i ([],[])) k).length<=0/\(fst' (AA i ([],[])) k).length<=0/\∀c∈fst' (AA i ([],[])) k,c<=0;simp_all [zP4]
 ·refine weak_opq [(4,1),(10,1),(11,3),(53,1),(54,1),(55,1)] (Ae 1 0=Ae 1 0/\Ae 4 0=Ae 4 0/\AH (Ak rowV L) (Ad L)=AH (Ak rowV L) (Ad L)/\iD (↑(Ad L):Int)=iD (↑(Ad L):Int)/\iD 0=iD (↑(0:Nat):Int)) (by kernel_rfl) ⟨rfl,rfl,rfl,rfl,(by kernel_rfl)⟩
 rintro j ⟨c1,c2⟩;rcases Az j L.length with hj|hj
 ·have hrow:=zB3 L j (h:=hj);have hne:L.map rowV≠[]:=zAc;have htk2:=zBt L [] j hj;have hxl:=hl (L.getD j []) (by rw[AW,Br hj];exact List.getElem_mem hj);have hbl:bldT [] (L.take (j+1)) (AA i ([],[]))=adT (L.getD j []) (shr ((L.take j).getLastD []) (L.getD j [])) (bldT [] (L.take j) (AA i ([],[]))):=by rw[htk2,zTf]
  have hgl:(L.take (j+1)).getLastD []=L.getD j []:=by rw[htk2];simp
  have hll:((L.take j).getLastD []).length<=(L.getD j []).length:=by
   rw[hxl];rcases Nat.eq_zero_or_pos j with h0|h0
   ·simp_all
   have hm:(L.take j).getLastD []∈L:=by
    have hne2:L.take j≠[]:=λe=>by
     simp_all
    grind [List.getLast?_eq_some_getLast,Cl,List.getLast_mem]
   grind
  have hsh:=shared_c ((L.take j).getLastD []) (L.getD j []) hll (by omega);have hsl:=shr_le ((L.take j).getLastD []) (L.getD j []);have htj:=htl j;have had:=add_a (m:=3) (o:=5) (base:=nwb i L nlD) (by decide) hbs (L.getD j []) (bldT [] (L.take j) (AA i ([],[]))) (shr ((L.take j).getLastD []) (L.getD j [])) (by omega) (by omega) (by omega) (by decide) j (by omega) c2 ((Aw (2*i)).map (5+·)) (λk hk=>by
   rcases Az k 5 with h|h
   ·exact .inl h
   refine .inr (BM.2 ⟨k-5,AR.2 (by omega),by omega⟩))
  rw[htj]at had;rw[<-hbl]at had;have hsz3:=zZh (shr ((L.take j).getLastD []) (L.getD j [])) (L.getD j []) _ c2;rw[<-hbl]at hsz3;rw[<-hgl]at had hsh hrow hsl;generalize (L.take j).getLastD []=last at*;generalize hgx:(L.take (j+1)).getLastD []=x at*;generalize shr last x=f at*;have hl4j:=hl4 (bldT [] (L.take j) (AA i ([],[])));refine vA<|zAb [] [(56,bD<|decide ((j:Int)<↑(Ad L)))] ?_;refine zA<|vT ((j:Int)<↑(Ad L))<|vKB<|vA<|zR 1 [] [] (ix ↑j ↑(Ad L) (Ak rowV L≠[])) [(57,A7<|Af (AB (j:Int)*1)<|Ak rowV L)] ?_ (hc:=⟨(by omega),⟨(by omega),(by assumption)⟩⟩);refine zAo 57 (A7<|Af (AB (j:Int)*1)<|Ak rowV L) (A7<|Af j<|Ak rowV L) (by simp(disch:=omega) only[AS,Ba]) ?_;refine zR 1 [] [] (0<Ad (Af j<|Ak rowV L)) [(58,AC (Af j<|Ak rowV L) Uk)] ?_ (hc:=by(simp;omega));refine zAo 58 (AC (Af j<|Ak rowV L) Uk) (rowV x) (by simp(disch:=omega) only[hrow]) ?_;refine zAb [56,57,58] [(13,(q3_ x))] ?_;refine zA<|vd [1,2,3,0,4,5]<|zA3 3 [(60,(q3_ x)),(61,(q3_ last)),(62,(q3_ x))] ?_;refine zAh (Ah [Ag 3 0 i (i*2) Ac] 222 0 Aa Aa Al) (4) (Ay 1 1) (Am [Ag 3 0 i (i*2) Ac]) hl4j (by simp) ?_;focus
   refine zTz [(q3_ last),(q3_ x)] (by exact hsh) ?_;refine zJp [] [] [Am [Ag 3 0 i (i*2) Ac],(q3_ x),iD f] [Am [Ag 3 0 i (i*2) Ac],(q3_ x),iD f] (¬1∈Ak (λ(x:Nat)=>5+x) (Aw (2*i))/\¬4∈Ak (λ(x:Nat)=>5+x) (Aw (2*i))/\¬3∈Ak (λ(x:Nat)=>5+x) (Aw (2*i))/\True) (by kernel_rfl) trivial (AG _) (by exact had) (by kernel_rfl) ?_ ?_ ?_;rotate_left;rotate_left;refine zAb [59,60,61,62,63,64] [] ?_;refine zB rfl<|zA3 2 [(11,(q3_ x)),(65,(q3_ x))] ?_;refine zAk ?_ (by kernel_rfl);refine zD<|vN<|zB rfl<|zR 2 [] [] (i6 (↑j+1)) [(55,iD (↑j+1)),(66,iD (↑j+1))] ?_;refine zAk ?_ (by kernel_rfl);refine zC ?_;rotate_left
  ·exact λ_ _=>rfl
  ·grind
  refine⟨j+1,⟨hj,hsz3⟩,by omega,?_⟩;rw[hgx];refine vkp [4,10,11,53,54,55]
 obtain rfl:j=L.length:=by omega
 rw[B7]at c2⊢;have htl2:=htl L.length;rw[B7]at htl2;obtain⟨tb,htb⟩:∃tb,tb=bldT [] L (AA i ([],[])):=⟨_,rfl⟩;rw[<-htb]at c2 htl2⊢;refine vA<|zAb [] [(56,bD<|decide ((Ad L:Int)<(Ad L:Int)))] ?_;refine zA<|vF ((Ad L:Int)<↑(Ad L))<|vZ2<|zA<|vA<|zA3 1 [(67,Ae 4 0)] ?_;refine zAh (Ah [Ag 3 0 i (i*2) Ac] 222 0 Aa Aa Al) (4) (Ay 1 1) (Ag 3 0 i (i*2) Ac) (hl4 tb) (by simp) ?_;refine zAb [11,53,54,55,56,67,68] [(69,iD i),(70,iD 0)] ?_;refine zJ<|zK (λ(l:Nat)=>fr 92 [(4,Ae 1 0),(10,Ae 4 0),(69,iD i),(70,iD l)]) (λ(l:Nat)=>tlay 3 5 (nwb i L nlD) ((AI 0 l).foldl stF tb)) (λ(l:Nat)=>i-l) (λ(l:Nat)=>l<=i/\SzT (L.length+l) ((AI 0 l).foldl stF tb)) 0 ?_ ?_ ?_
 ·exact⟨by omega,c2⟩
 ·refine vkp [4,10,69,70]
 rintro l ⟨c3,c4⟩;rcases Az l i with hli|hli
 ·have hsu:(AI 0 (l+1)).foldl stF tb=stF ((AI 0 l).foldl stF tb) l:=by
   simp_all [Cj,BR]
  have hln:((AI 0 l).foldl stF tb).length=i:=by rw[zSv,htl2]
  generalize (AI 0 l).foldl stF tb=u at*;have hul:l<u.length:=by omega
  have hl4u:=hl4 u;have hhd1:=lv_hd1 (o:=5) hul;have hll:=zN6 (o:=5) (t:=u);have hnu:=zRm (m:=3) (t:=u) hbs;have hsz2:=size_g (m:=3) (o:=5) (t:=u) (st:=tlay 3 5 (nwb i L nlD) u) (tl_m (by decide)) (λb hb=>by rw[zCb];exact hnu b hb) (l+1) (by omega);rw[hln]at hsz2;have hfl2:=(c4 l).2.1;have htl5:(tlay 3 5 (nwb i L nlD) u).length=5+2*u.length:=zCb;have htk9:(tlay 3 5 (nwb i L nlD) u).take 100000=tlay 3 5 (nwb i L nlD) u:=zD9 (by rw[htl5];omega);have htB3:((tlay 3 5 (nwb i L nlD) u).take 100000)[4]?=Ai (tvB 3 i):=by rw[htk9];exact hl4u
  have htm3:((tlay 3 5 (nwb i L nlD) u).take 100000)[3]?=Ai (lvB 5 u):=by rw[htk9];exact tl_m (by decide)
  refine vA<|zAb [] [(71,bD<|decide ((l:Int)<↑i))] ?_;refine zA<|vT ((l:Int)<↑i)<|vKB<|vA<|zAb [71,72] [(14,iD l)] ?_;refine zA6 [0,2,3,5,10,11,1,4,6,7,8,9] [(12,[(1,100000),(4,100000),(6,100000),(7,100000),(8,100000)],[13]),(14,[(1,100000)],[15,16,17])] rfl ?_;refine zR 6 [] [] (True/\True/\i6 (↑l+1)) [(73,Ae 4 0),(75,iD l),(76,Ae 4 0),(78,iD l),(83,iD l),(84,iD (↑l+1))] ?_ (hc:=⟨trivial,trivial,(by omega)⟩);refine zAh (Ah [Ag 3 0 i (i*2) Ac] 222 0 Aa Aa Al) (4) (Ay 1 1) (Ag 3 0 i (i*2) Ac) hl4u (by simp) ?_;refine zAh (Ah [Ag 3 0 i (i*2) Ac] 222 0 Aa Aa Al) (4) (Ay 1 1) (Ag 3 0 i (i*2) Ac) hl4u (by simp) ?_;refine zR 1 [] [] ((0:Int)<=(l:Int)/\(l:Int)<↑i) [(79,Ae 3 (0+AB (l:Int)*2))] ?_;refine zAo 79 (Ae 3 (0+AB (l:Int)*2)) (Ae 3 (l*2)) (by simp(disch:=omega) only[AS,AV]) ?_;refine zA3 1 [(80,Ae 3 (l*2+1))] ?_;refine zAh (Ah (lvCs 5 u) 244 2 Ac Aa AN) (3) (Ay 1<|Ad<|Af (l*2+1)<|lvCs 5 u) (AC (Af (l*2+1)<|lvCs 5 u) Uk) (tl_m (by decide:3<5)) (by(simp;omega)) ?_;rw[hhd1];refine zAh (Ah [Ag 3 0 i (i*2) Ac] 222 0 Aa Aa Al) (4) (Ay 1 1) (Am [Ag 3 0 i (i*2) Ac]) hl4u (by simp) ?_;refine zAk ?_ (by kernel_rfl);refine zBy rfl rfl ?_ (hf:=zDr (λx hx=>by rw[htl5];simp at hx;rcases hx with rfl|rfl|rfl|rfl|rfl<;>(show _<=100000;omega)));refine zZ [] [] [Am [Ag 3 0 i (i*2) Ac],iD (↑l+1)] [Am [Ag 3 0 i (i*2) Ac],iD ↑(l+1)] (AG _) (by exact hsz2) ?_;refine zAk ?_ (by kernel_rfl);refine zDo (Au _) (zDd (zDi 1 100000 (tvB 3 i) 4 (0<1) (.osl 3 0 i (i*2) Ac) (by kernel_rfl) htB3 (by decide) (by kernel_rfl))
   (zDd (zDi 4 100000 (tvB 3 i) 4 (0<1) (.osl 3 0 i (i*2) Ac) (by kernel_rfl) htB3 (by decide) (by kernel_rfl))
   (zDd (zLb 6 100000 ((0:Int)<=(l:Nat)/\((l:Nat):Int)<(i:Nat)) (.own 3 (0+AB (l:Nat)*2)) (.own 3 (l*2)) (by kernel_rfl) (by simp) (by omega) (by kernel_rfl))
   (zDd (zLb 7 100000 True (.own 3 (l*2+1)) (.own 3 (l*2+1)) (by kernel_rfl) rfl trivial (by kernel_rfl))
   (zYd 8 100000 (lvB 5 u) 3 (0<((lvCs 5 u).drop (l*2+1)).length) (((lvCs 5 u).drop (l*2+1)).headD .unk) (.osl (5+2*l+1) 0 (fst' u l).length (fst' u l).length Ac) (by kernel_rfl) hhd1 htm3 (by rw[BS,hll];omega) (by kernel_rfl)))))) ?_
  rotate_left;refine zBa (5+2*Ad u) ((1=1/\1<=1/\True)/\0<1/\1=1/\1<=16777216/\1<=9223372036854775807) (Ah [iD (↑(Ad<|vls u (l+1)):Int)] 3 1 Ac Aa Al) (Ag 0 0 1 1 Ac) htl5 ?_ (hp:=⟨⟨(by kernel_rfl),⟨(by omega),trivial⟩⟩,(by omega)⟩);refine zAk ?_ (by kernel_rfl);refine zBy rfl rfl ?_ (hf:=zDr (λx hx=>by rw[AD,htl5];simp at hx;subst hx;show _+1<=100000;omega));refine zLs (Ah (Ak (λ(c:Nat)=>iD c)<|fst' u l) 3 1 Ac Aa Al) (Ah [iD (↑(Ad<|vls u (l+1)):Int)] 3 1 Ac Aa Al) 81 (5+2*l+1) (5+2*Ad u) (Ac=Ac/\Ad (Ak (λ(c:Nat)=>iD c)<|fst' u l)=Ad (fst' u l)*1/\Ad (fst' u l)=Ad (fst' u l)*1/\3=3/\1=1/\1=1/\0<1/\0<8/\3=3/\(Ad (fst' u l)+1)*8<=140737488355328/\1=1/\BE Al=Aa/\(Aa=Aa\/Kd.isSh Al=Ac)) (1≠5+2*l+1/\4≠5+2*l+1/\4≠5+2*l+1/\3≠5+2*l+1/\4≠5+2*l+1/\3≠5+2*l+1/\3≠5+2*l+1/\3≠5+2*l+1/\3≠5+2*l+1/\5+2*Ad u≠5+2*l+1/\True) (Ah (Ak (λ(c:Nat)=>iD c) (fst' u l)++[iD (↑(Ad<|vls u (l+1)):Int)]) 3 1 Ac Aa Al) (Ag (5+2*l+1) 0 (Ad (fst' u l)+1) ((Ad (fst' u l)+1)*1) Ac) (by kernel_rfl) (zA2<|tl_f (m:=3) (o:=5) (by decide) hul) (zAt htl5) ⟨(by kernel_rfl),⟨(by simp),⟨(by omega),⟨(by kernel_rfl),⟨(by kernel_rfl),⟨(by kernel_rfl),⟨(by omega),⟨(by omega),⟨(by kernel_rfl),⟨(by omega),⟨(by kernel_rfl),⟨(by kernel_rfl),(by simp)⟩⟩⟩⟩⟩⟩⟩⟩⟩⟩⟩⟩ (by kernel_rfl) ⟨(by omega),⟨(by omega),⟨(by omega),⟨(by omega),⟨(by omega),⟨(by omega),⟨(by omega),⟨(by omega),⟨(by omega),⟨(by omega),trivial⟩⟩⟩⟩⟩⟩⟩⟩⟩⟩ ?_ ?_
  ·exact rfl
  rw[kst1 (t:=u) (k:=5+2*l+1) (by omega) (zB7 rfl)];rw[Ba];refine zAk ?_ (by kernel_rfl);refine zDo (by rw[AD,htl5,AD,zEv];exact Au _) (zDi 1 100000 (tvB 3 i) 4 (0<1) (.osl 3 0 i (i*2) Ac) (by kernel_rfl) (by
   rw[zD9 (by rw[AD,zEv];show _+1<=100000;omega)];refine zA2 ?_;rw[BN (by omega),Bi,hl4u];exact congrArg Ai (zTv (by omega))) (by decide) (by kernel_rfl)) ?_
  refine zR 1 [] [] ((0:Int)<=(l:Int)/\(l:Int)<↑i) [(88,Ae 3 (0+AB (l:Int)*2))] ?_;refine zAo 88 (Ae 3 (0+AB (l:Int)*2)) (Ae 3 (l*2)) (by simp(disch:=omega) only[AS,AV]) ?_;refine zA3 1 [(89,Ae 3 (l*2+1))] ?_;refine zB6 (Ah (Ak (zAl (5+2*l+1))<|lvCs 5 u) 244 2 Ac Aa AN) (3) (Aa=Aa/\Ac=Ac/\1=1/\l*2+1+1<=Ad (Ak (zAl (5+2*l+1))<|lvCs 5 u)) (Ah (setAt (Ak (zAl (5+2*l+1))<|lvCs 5 u) (l*2+1)<|cellsOf<|Ag (5+2*l+1) 0 (Ad (fst' u l)+1) (Ad (fst' u l)+1) Ac) 244 2 Ac Aa AN) (zA2<|ks_m (by decide:3<5) (by omega:5+2*l+1≠3)) ⟨(by kernel_rfl),⟨(by kernel_rfl),⟨(by kernel_rfl),(by(simp;omega))⟩⟩⟩ ?_;have hA2:=zW5 (m:=3) (o:=5) (base:=nwb i L nlD) (by decide) hbs hul (vls u (l+1)).length;refine zF1 (tlay 3 5 (nwb i L nlD) (stF u l)++[⟨[iD ((vls u (l+1)).length:Nat)],3,1,Ac,Aa,.plain⟩]) ?_ ?_
  ·rw[zBh (by rw[zEv];omega)];exact congrArg (λs=>s++[_]) hA2
  refine zAk ?_ (by kernel_rfl);refine zBv<|zD<|zC<|zF7 (AI 5 5++AI 11 58++AI 71 21) ([Uk,Uk,Uk,Uk,.own 1 0,Uk,Uk,Uk,Uk,Uk,.own 4 0]++AA 58 Uk++[iD (i:Nat),iD (l:Nat)]++AA 21 Uk) (1<5+2*u.length/\4<5+2*u.length/\True) (by rw[zCb,zT0]) (λb hb=>by have:=zRm hbs b hb;rwa[zT0]at this) (λ_ _=>rfl) (by kernel_rfl) (by kernel_rfl) ⟨by omega,by omega,trivial⟩ ?_;refine zB rfl<|zR 2 [] [] (i6 (↑l+1)) [(70,iD ↑(l+1)),(90,iD ↑(l+1))] ?_;refine zAk ?_ (by kernel_rfl);refine zC<|⟨l+1,⟨hli,?_⟩,by omega,?_⟩
  ·grind [stF_sz]
  rw[hsu];refine vkp [4,10,69,70]
 obtain rfl:l=i:=by omega
 have hff:=foldF tb;rw[htl2]at hff;rw[hff]at c4⊢;have htt:finT tb=zCa l L:=by rw[htb];rfl
 rw[htt];have htlen:=zHs l L;have hl1:(tlay 3 5 (nwb l L nlD) (zCa l L))[1]?=Ai ⟨[nlD],222,0,Aa,Aa, .plain⟩:=by rw[zDk (by omega)];rfl
 refine vA<|zAb [] [(71,bD<|decide ((l:Int)<↑l))] ?_;refine zA<|vF ((l:Int)<↑l)<|vZ2<|vA<|zAh (Ah [Ag 3 0 l (l*2) Ac] 222 0 Aa Aa Al) (4) (Ay 1 1) (Am [Ag 3 0 l (l*2) Ac]) (hl4 _) (by simp) ?_;refine zB6 (q8_) (1) (Aa=Aa/\Ac=Ac/\1=1/\1<=1) (Ah [Ag 3 0 l (l*2) Ac] 222 0 Aa Aa Al) hl1 ⟨(by kernel_rfl),⟨(by kernel_rfl),(by omega)⟩⟩ ?_;refine zF1 (tlay 3 5 (nwb l L<|.osl 3 0 l (l*2) Ac)<|zCa l L) (nw_set l L _ nlD _) ?_;refine zR 1 [] [] True [(5,iD 0)] ?_ (hc:=trivial);refine zAk ?_ (by kernel_rfl);refine zC<|next_trie (rlB l L) (AI 6 86) ([Uk,Uk,Uk,Uk,.own 1 0,iD 0]++AA 86 Uk) (1<2/\True) rfl (by rw[htlen];rfl) (.inr λj hj=>by simp only[zX,refs,AL]) (λ_ _=>rfl) (by kernel_rfl) (by kernel_rfl) ⟨by decide,trivial⟩ ?_;refine zE<|vret (1<=1)<|.inr rfl
end
section
variable{n na:Nat}{vs:Nat->List Nat}
def Szs(na M:Nat)(its:List It):Prop:=∀a,a<na->∀k,(vls (its.getD a Ab).t k).length<=M
theorem Szs.of{its':List It}(h:Szs na M its)(ht:∀a,a<na->(its'.getD a Ab).t=(its.getD a Ab).t):Szs na M its':=λa ha k=>by rw[ht a ha];exact h a ha k
theorem zX3(h:k<=l):mtF k M<=mtF l M:=by
 unfold mtF;have h1:=A3 M h
 have:=Nat.mul_le_mul h1 (B5 h)
 grind
def cM(na M:Nat):Nat:=mtF na M*(M+2)
def cE(na M:Nat):Nat->Nat
 |0=>1
 |m+1=>cM na M+M*(cE na M m+cM na M)
theorem mtF_cM(na M:Nat):mtF na M<=cM na M:=by
 grind [cM,Nat.le_mul_of_pos_right]
theorem ats_len(v:Nat):(ats na vs v).length<=na:=by
 grind [ats,Ax,BV]
theorem rng_le(h:LvI it)(hM:∀k,(vls it.t k).length<=M):it.e-it.p<=M:=by
 rcases Az it.p it.e with hp|hp
 ·have:=(h.len hp).1
  have:=hM (it.l-1)
  omega
 omega
theorem zK8(hv:Vok n na vs)(hvn:v<n)(hi:InV na vs v its)(hM:Szs na M its)(hs:s+cM na M+1<=big)(hst:∀a,a<na->(its.getD a Ab).s+cM na M<=big)
  (hp:∀i∈ats na vs v,i≠(ats na vs v).getD 0 0->(its.getD i Ab).p<(its.getD i Ab).e):
  (metJ (ats na vs v) its s).2.1<=s+cM na M/\∀a,a<na->((metJ (ats na vs v) its s).1.getD a Ab).s<=(its.getD a Ab).s+cM na M:=by
 have h0:=hv.pos hvn;have hm:=zAz h0;have hla:∀i∈ats na vs v,i<na/\v∈vs i:=λi h=>(zV na vs).1 h;have hlv:∀i∈ats na vs v,LvI (its.getD i Ab):=λi h=>(hi.inn i (hla i h).1 (hla i h).2).lv;have hrg:∀i∈ats na vs v,(its.getD i Ab).e-(its.getD i Ab).p<=M:=λi h=>rng_le (hlv i h) (hM i (hla i h).1);have hmet:=zD1 (ats na vs v) (zKv na vs v) h0 its s (λi h=>⟨by rw[hi.len];exact(hla i h).1,hlv i h⟩) hp;unfold metJ at hmet⊢;have hon:=zN1 (hlv _ hm);by_cases h:(its.getD ((ats na vs v).getD 0 0) Ab).p<(its.getD ((ats na vs v).getD 0 0) Ab).e
 ·rw[decide_eq_true h]at hon;rw[hon,if_pos rfl]at hmet⊢;have hms:=msr_le (ats na vs v) its (keyI (its.getD ((ats na vs v).getD 0 0) Ab)) 1 M hrg;have hmn:=zX3 (M:=M) (ats_len (na:=na) (vs:=vs) v);have hmm:msr (ats na vs v) its (keyI (its.getD ((ats na vs v).getD 0 0) Ab)) 1*(M+2)<=cM na M:=A3 _ (Ax hms hmn);have hf:=mtF_cM na M;have hMI:MI (ats na vs v) na M its (keyI (its.getD ((ats na vs v).getD 0 0) Ab)) 1 1 s (msr (ats na vs v) its (keyI (its.getD ((ats na vs v).getD 0 0) Ab)) 1):=by
   refine⟨hi.len,λi h=>(hla i h).1,λi h'=>⟨hlv i h',?_,hrg i h'⟩,λi h'=>by have:=hst i (hla i h').1;omega,Au _,h0,by omega,by omega,Au _⟩;grind
  obtain⟨c1,c2⟩:=mtL_cost (ats na vs v) na M _ _ _ _ _ _ hMI;refine⟨by omega,λa ha=>?_⟩;by_cases hma:a∈ats na vs v
  ·have:=c2 a hma;omega
  rw[hmet.out a hma];omega
 grind
theorem lp_atv(hv:Vok n na vs)(hi:InV na vs v its){c:Va}(hc:∀i∈ats na vs v,(its.getD i Ab).p<(its.getD i Ab).e/\keyI (its.getD i Ab)=c):AtV na vs (v+1) its:=⟨hi.len,λa ha=>by
  by_cases hva:v∈vs a
  ·rw[cnt_in hv ha hva];exact(hi.inn a ha hva).at (hc a ((zV na vs).2 ⟨ha,hva⟩)).1
  rw[cnt_out hv ha hva];exact hi.out a ha hva⟩
theorem lp_nx(hv:Vok n na vs)(hvn:v<n){its1:List It}(hi:InV na vs v its)(hc:∀i∈ats na vs v,(its.getD i Ab).p<(its.getD i Ab).e)(hl:its1.length=na)(hr:∀a,a<na->Res (its.getD a Ab) (its1.getD a Ab)):
  InV na vs v (its1.set ((ats na vs v).getD 0 0) (nxI (its1.getD ((ats na vs v).getD 0 0) Ab)))/\∀i∈ats na vs v,i≠(ats na vs v).getD 0 0->((its1.set ((ats na vs v).getD 0 0) (nxI (its1.getD ((ats na vs v).getD 0 0) Ab))).getD i Ab).p<((its1.set ((ats na vs v).getD 0 0) (nxI (its1.getD ((ats na vs v).getD 0 0) Ab))).getD i Ab).e:=by
 have h0:=hv.pos hvn;have hi0:=zAz h0;obtain⟨hi1,hi2⟩:=(zV na vs).1 hi0;have hl1:(ats na vs v).getD 0 0<its1.length:=by rw[hl];exact hi1
 refine⟨⟨by rw[AP];exact hl,λa ha hva=>?_,λa ha hva=>?_⟩,λa ha hne=>?_⟩
 ·have hh:=res_inn (hi.inn a ha hva) (hr a ha);by_cases e:a=(ats na vs v).getD 0 0
  ·subst e;rw[zAa hl1];exact nx_inn hh (by rw[(hr _ ha).p,(hr _ ha).e];exact hc _ hi0)
  grind
 ·rw[zBf (λe=>hva (by rw[e];exact hi2))];exact(hi.out a ha hva).res (hr a ha)
 rw[zBf hne,(hr a ((zV na vs).1 ha).1).p,(hr a ((zV na vs).1 ha).1).e];exact hc a ha
theorem zMa(v:Nat)(hl:its.length=na)(j:Nat):(zCe (ats na vs v) its).getD j Ab=if j∈ats na vs v then opI (its.getD j Ab)else its.getD j default:=
 zHi opI _ _ (zKv na vs v) (λi hi=>by rw[hl];exact((zV na vs).1 hi).1) j
theorem op_inv(hv:Vok n na vs)(ha:AtV na vs v its):InV na vs v (zCe (ats na vs v) its)/\∀i∈ats na vs v,((zCe (ats na vs v) its).getD i Ab).p<((zCe (ats na vs v) its).getD i Ab).e:=by
 have hg:=zMa (vs:=vs) v ha.len;refine⟨⟨by rw[show(zCe (ats na vs v) its).length=its.length from zKd opI _ _];exact ha.len,λa h1 h2=>?_,λa h1 h2=>?_⟩,λi hi=>?_⟩
 ·rw[hg,if_pos ((zV na vs).2 ⟨h1,h2⟩)];exact(zL9 (ha.one a h1) (zKt hv h1 h2)).1
 ·rw[hg,if_neg λh=>h2 ((zV na vs).1 h).2];exact ha.one a h1
 obtain⟨h1,h2⟩:=(zV na vs).1 hi;rw[hg,if_pos hi];exact(zL9 (ha.one i h1) (zKt hv h1 h2)).2.1
theorem opI_s(it:It):(opI it).s=it.s/\(opI it).t=it.t/\(opI it).fr.length=it.fr.length:=by
 grind [opI]
theorem op_same(v:Nat)(hl:its.length=na)(a:Nat):((zCe (ats na vs v) its).getD a Ab).s=(its.getD a Ab).s/\((zCe (ats na vs v) its).getD a Ab).t=(its.getD a Ab).t/\((zCe (ats na vs v) its).getD a Ab).fr.length=(its.getD a Ab).fr.length:=by
 grind [zMa,opI_s]
theorem upAll_get(v:Nat)(hl:its.length=na)(j:Nat):(zGu (ats na vs v) its).getD j Ab=if j∈ats na vs v then upI (its.getD j Ab)else its.getD j default:=
 zHi upI _ _ (zKv na vs v) (λi hi=>by rw[hl];exact((zV na vs).1 hi).1) j
theorem up_same(v:Nat)(hl:its.length=na)(a:Nat):((zGu (ats na vs v) its).getD a Ab).s=(its.getD a Ab).s:=by
 rw[upAll_get v hl];split<;>rfl
theorem metJ_no(ix:List Nat)(its:List It)(s:Nat)(h:onI (its.getD (ix.getD 0 0) Ab)=Aa):metJ ix its s=(its,s,Aa):=by
 grind [metJ]
theorem lp_cost(hv:Vok n na vs)(hvn:v<n)(rec:Js->Js)(hrec:∀S,AtV na vs (v+1) S.its->S.row.length=n->ExtP n na vs (v+1) S (rec S))
  (hcost:∀S,AtV na vs (v+1) S.its->S.row.length=n->Szs na M S.its->S.s+cE na M m+1<=big->(∀a,a<na->(S.its.getD a Ab).s+cE na M m<=big)->(rec S).s<=S.s+cE na M m/\∀a,a<na->((rec S).its.getD a Ab).s<=(S.its.getD a Ab).s+cE na M m):
  ∀(f:Nat)(b:Bool)(S:Js),InV na vs v S.its->S.row.length=n->Szs na M S.its->(b=Ac->∃c,∀i∈ats na vs v,(S.its.getD i Ab).p<(S.its.getD i Ab).e/\keyI (S.its.getD i Ab)=c)->S.s+f*(cE na M m+cM na M)+1<=big->(∀a,a<na->(S.its.getD a Ab).s+f*(cE na M m+cM na M)<=big)->
   (lpJ rec (ats na vs v) v f b S).s<=S.s+f*(cE na M m+cM na M)/\∀a,a<na->((lpJ rec (ats na vs v) v f b S).its.getD a Ab).s<=(S.its.getD a Ab).s+f*(cE na M m+cM na M):=by
 have h0:=hv.pos hvn;have hi0:=zAz h0;obtain⟨hi1,hi2⟩:=(zV na vs).1 hi0;intro f;induction f with
 |zero=>intro b S hi hr hM hb hs hst;exact⟨by show S.s<=_;omega,λa ha=>by show(S.its.getD a Ab).s<=_;omega⟩
 | succ f ih=>
  intro b S hi hr hM hb hs hst;cases b with
  |false=>rw[zH3];exact⟨by omega,λa ha=>by omega⟩
  | true=>
   rw[A9]at hs⊢;have hst:∀a,a<na->(S.its.getD a Ab).s+(f*(cE na M m+cM na M)+(cE na M m+cM na M))<=big:=λa ha=>by have:=hst a ha;rw[A9]at this;exact this
   obtain⟨c,hc⟩:=hb rfl;obtain⟨S1,hS1⟩:∃S1,S1=rec {S with row:=S.row.set v (keyI (S.its.getD ((ats na vs v).getD 0 0) Ab))}:=⟨_,rfl⟩;have hR:=hrec {S with row:=S.row.set v (keyI (S.its.getD ((ats na vs v).getD 0 0) Ab))} (lp_atv hv hi hc) (by simpa using hr);have hC:=hcost {S with row:=S.row.set v (keyI (S.its.getD ((ats na vs v).getD 0 0) Ab))} (lp_atv hv hi hc) (by simpa using hr) hM (by show S.s+_+1<=_;omega) (λa ha=>by show(S.its.getD a Ab).s+_<=_;have:=hst a ha;omega);rw[<-hS1]at hR hC;obtain⟨r1,r2,r3,r4,r5⟩:=hR;obtain⟨c1,c2⟩:=hC;simp only at r2 c1 c2;have hl1:(ats na vs v).getD 0 0<S1.its.length:=by rw[r1];exact hi1
   rw[zQu rec _ v f S S1 _ hS1 rfl hl1];obtain⟨n1,n2⟩:=lp_nx hv hvn hi (λi h=>(hc i h).1) r1 r2;have hsz:∀a,a<na->((S1.its.set ((ats na vs v).getD 0 0) (nxI (S1.its.getD ((ats na vs v).getD 0 0) Ab))).getD a Ab).s=(S1.its.getD a Ab).s/\((S1.its.set ((ats na vs v).getD 0 0) (nxI (S1.its.getD ((ats na vs v).getD 0 0) Ab))).getD a Ab).t=(S.its.getD a Ab).t:=λa ha=>by
    by_cases e:a=(ats na vs v).getD 0 0
    ·subst e;rw[zAa hl1];exact⟨rfl,(r2 _ ha).t⟩
    rw[zBf e];exact⟨rfl,(r2 _ ha).t⟩
   generalize S1.its.set ((ats na vs v).getD 0 0) (nxI (S1.its.getD ((ats na vs v).getD 0 0) Ab))=its2 at*;have hm:=zD1 (ats na vs v) (zKv na vs v) h0 its2 S1.s (λa ha=>⟨by rw[n1.len];exact((zV na vs).1 ha).1,(n1.inn a ((zV na vs).1 ha).1 ((zV na vs).1 ha).2).lv⟩) n2;have hM2:=hM.of λa ha=>(hsz a ha).2;obtain⟨m1,m2⟩:=zK8 hv hvn n1 hM2 (s:=S1.s) (by omega) (λa ha=>by have:=(hsz a ha).1;have:=c2 a ha;have:=hst a ha;omega) n2;generalize metJ (ats na vs v) its2 S1.s=r at*;have hM3:Szs na M r.1:=hM2.of λa ha=>by
    by_cases hma:a∈ats na vs v
    ·exact(hm.adv a hma).t
    rw[hm.out a hma]
   obtain⟨i1,i2⟩:=ih r.2.2 {S1 with its:=r.1,s:=r.2.1} (zFk n1 hm) r3 hM3 hm.key (by show r.2.1+_+1<=_;omega) (λa ha=>by
    show(r.1.getD a Ab).s+_<=_
    have:=(hsz a ha).1;have:=c2 a ha;have:=hst a ha;have:=m2 a ha;omega)
   grind
theorem zQ3(hv:Vok n na vs)(M:Nat):∀(m v:Nat)(S:Js),m+v=n->AtV na vs v S.its->S.row.length=n->Szs na M S.its->S.s+cE na M m+1<=big->(∀a,a<na->(S.its.getD a Ab).s+cE na M m<=big)->(extJ (ats na vs) m v S).s<=S.s+cE na M m/\∀a,a<na->((extJ (ats na vs) m v S).its.getD a Ab).s<=(S.its.getD a Ab).s+cE na M m:=by
 intro m;induction m with
 |zero=>intro v S hmv ha hr hM hs hst;exact⟨Au _,λa _=>by show(S.its.getD a Ab).s<=_;omega⟩
 | succ m ih=>
  intro v S hmv ha hr hM hs hst;have hvn:v<n:=by omega
  have h0:=hv.pos hvn;have hi0:=zAz h0;obtain⟨hi1,hi2⟩:=(zV na vs).1 hi0;obtain⟨o1,o2⟩:=op_inv hv ha;have o3:=op_same (vs:=vs) v ha.len;rw[cE]at hs⊢;have hst:∀a,a<na->(S.its.getD a Ab).s+(cM na M+M*(cE na M m+cM na M))<=big:=hst;unfold extJ;simp only;generalize zCe (ats na vs v) S.its=its1 at*;have hM1:Szs na M its1:=hM.of λa _=>(o3 a).2.1;have hm:=zD1 (ats na vs v) (zKv na vs v) h0 its1 S.s (λa h=>⟨by rw[o1.len];exact((zV na vs).1 h).1,(o1.inn a ((zV na vs).1 h).1 ((zV na vs).1 h).2).lv⟩) (λa h _=>o2 a h);obtain⟨m1,m2⟩:=zK8 hv hvn o1 hM1 (s:=S.s) (by omega) (λa ha=>by rw[(o3 a).1];have:=hst a ha;omega) (λa h _=>o2 a h);have hfe:(its1.getD ((ats na vs v).getD 0 0) Ab).e<=M:=by
   have:=((o1.inn _ hi1 hi2).lv.len (o2 _ hi0)).1
   have:=hM1 _ hi1 ((its1.getD ((ats na vs v).getD 0 0) Ab).l-1)
   omega
  generalize metJ (ats na vs v) its1 S.s=r at*;have hM3:Szs na M r.1:=hM1.of λa ha=>by
   by_cases hma:a∈ats na vs v
   ·exact(hm.adv a hma).t
   rw[hm.out a hma]
  have hmul:=A3 (cE na M m+cM na M) hfe;have hL:=lp_cost (m:=m) hv hvn (extJ (ats na vs) m (v+1)) (λS h1 h2=>zJf hv m (v+1) S (by omega) h1 h2) (λS h1 h2 h3 h4 h5=>ih (v+1) S (by omega) h1 h2 h3 h4 h5) ((its1.getD ((ats na vs v).getD 0 0) Ab).e) r.2.2 {S with its:=r.1,s:=r.2.1} (zFk o1 hm) hr hM3 hm.key (by show r.2.1+_+1<=big;omega) (λa ha=>by
   show(r.1.getD a Ab).s+_<=big
   have:=m2 a ha;have:=(o3 a).1;have:=hst a ha;omega)
  ·obtain⟨l1,l2⟩:=hL;simp only at l1 l2;refine⟨by omega,λa ha=>?_⟩;have e:=up_same (vs:=vs) v (its:=(lpJ (extJ (ats na vs) m (v+1)) (ats na vs v) v ((its1.getD ((ats na vs v).getD 0 0) Ab).e) r.2.2 {S with its:=r.1,s:=r.2.1}).its) (na:=na) ?_ a
   ·grind
   exact(zVk hv hvn (extJ (ats na vs) m (v+1)) (λS h1 h2=>zJf hv m (v+1) S (by omega) h1 h2) ((its1.getD ((ats na vs v).getD 0 0) Ab).e) r.2.2 {S with its:=r.1,s:=r.2.1} (zFk o1 hm) hr (λhf' d hd=>by
    have:=(hm.com d).1 λi hi=>(hm.adv i hi).has (hd i hi)
    rw[hf']at this;exact absurd this.1 (by decide)) hm.key (by
    show(r.1.getD _ Ab).e-_<=_;rw[(hm.adv _ hi0).e];omega)).len
end
section
open Go.RowKit
attribute [local irreducible] seqW awp zAd zAi zY Weak updS zAr retL Pure Acts rP setP setQ cP nP fr
set_option maxRecDepth 4096
theorem lp_ys(rec:Js->Js)(ix:List Nat)(v:Nat)(hrec:∀S,S.ys.length<=(rec S).ys.length):∀(f:Nat)(b:Bool)(S:Js),S.ys.length<=(lpJ rec ix v f b S).ys.length
 |0,b,S=>Au _
 |f+1,Aa,S=>Au _
 | f+1,Ac,S=>by
  have h1:=hrec {S with row:=S.row.set v (keyI (S.its.getD (ix.getD 0 0) Ab))};rw[lpJ];split
  ·refine Ax h1 (Ax (Nat.le_of_eq ?_) (lp_ys rec ix v hrec f _ _));rfl
  exact h1
theorem ext_ys(ats:Nat->List Nat):∀(m v:Nat)(S:Js),S.ys.length<=(extJ ats m v S).ys.length
 |0,v,S=>by
  show S.ys.length<=(S.ys++[S.row]).length;simp
 |m+1,v,S=>lp_ys (extJ ats m (v+1)) (ats v) v (ext_ys ats m (v+1)) _ _ {S with its:=(metJ (ats v) (zCe (ats v) S.its) S.s).1,s:=(metJ (ats v) (zCe (ats v) S.its) S.s).2.1}
def YOk(L:Lay)(K:Nat):Prop:=∀S:Js,S.its.length=L.na->S.row.length=L.n->S.ys.length<K->Acts As 135 [.osl L.rb 0 L.n (L.n*3) Ac, .own L.cb 0] (lay L S) L.ch (bD Ac) (lay L {S with ys:=S.ys++[S.row]})
theorem zZl:∀k,k<(lay L S).length->(Tj L.N L.ch).keep k=Ac\/k∈L.ch:=λk hk=>by
 rw[zAs]at hk;by_cases h:k∈L.ch
 ·exact .inr h
 refine .inl ?_;show(decide (k<L.N)&&!L.ch.contains k)=Ac;rw[decide_eq_true hk];simpa using h
theorem Tj_ch:∀k∈ch,(Tj N ch).keep k=false:=λk hk=>by
 show(decide (k<N)&&!ch.contains k)=Aa;simp[hk]
theorem LOk.cht(h:LOk L):L.jb∉L.ch/\L.rb∉L.ch/\L.tb∉L.ch/\(∀v,v<L.n->L.ab v∉L.ch)/\∀i,i<L.na->L.ib i∉L.ch:=
 ⟨λk=>(h.ch _ k).1 rfl,λk=>(h.ch _ k).2.1 rfl,λk=>(h.ch _ k).2.2.1 rfl,λv hv k=>(h.ch _ k).2.2.2.1 v hv rfl,λi hi k=>(h.ch _ k).2.2.2.2 i hi rfl⟩
theorem extend0_a(L:Lay)(hL:LOk L)(K:Nat)(hY:YOk L K)(S:Js)(hn:S.its.length=L.na)(hr:S.row.length=L.n)(h32:L.n<=1000000)(hs:S.s+1<=big)(hK:S.ys.length<K):Acts As 146 [.own L.jb 0,iD (L.n:Nat)] (lay L S) L.ch (bD Ac) (lay L {S with s:=S.s+1,ys:=S.ys++[S.row]}):=by
 have hy:=hY {S with s:=S.s+1} hn hr hK;have hs2:S.s+1<=100000000000000000:=hs;obtain⟨c1,c2,c3,c4,c5⟩:=hL.cht;have hj2:(lay L {S with s:=S.s+1})[L.jb]?=Ai (jB L (S.s+1)):=zNn hL;refine zAm (Tj_ok L.N L.ch) mixed Tryz.func146 rfl zZl<|vA<|zAb [] [(4,bD Aa)] ?_;refine zA<|vA<|zA3 4 [(12,iD ↑(Lay.n L)),(13,Ae (Lay.jb L) 0),(14,Ae (Lay.jb L) 0),(15,Ae (Lay.jb L) 0)] ?_;refine zAh (Ah [Ag (Lay.rb L) 0 (Lay.n L) (Lay.n L*3) Ac,Ag (Lay.tb L) 0 (Lay.n L) (Lay.n L) Ac,iD ↑(Js.s S),AX (Fn.func 135) [] [Ae (Lay.cb L) 0]] 218 0 Aa Aa Al) (Lay.jb L) (Ay 1 4) (Ag (Lay.rb L) 0 (Lay.n L) (Lay.n L*3) Ac) (zNn (S:=S) hL) (by simp) ?_;refine zAb [12,13,14,15,16,17] [(18,bD ((↑(Lay.n L):Int)==(↑(Lay.n L):Int)))] ?_;refine vEt ((↑(Lay.n L):Int)) ((↑(Lay.n L):Int))<|vA<|zA3 3 [(19,Ae (Lay.jb L) 0),(20,Ae (Lay.jb L) 0),(21,Ae (Lay.jb L) 2)] ?_;refine zAh (Ah [Ag (Lay.rb L) 0 (Lay.n L) (Lay.n L*3) Ac,Ag (Lay.tb L) 0 (Lay.n L) (Lay.n L) Ac,iD ↑(Js.s S),AX (Fn.func 135) [] [Ae (Lay.cb L) 0]] 218 0 Aa Aa Al) (Lay.jb L) (Ay 1 2) (iD ↑(Js.s S)) (zNn (S:=S) hL) (by simp) ?_;refine zR 3 [] [] (i6 (↑(Js.s S)+1)/\True) [(23,iD ↑(Js.s S+1)),(24,Ae (Lay.jb L) 0),(25,Ae (Lay.jb L) 2)] ?_ (hc:=⟨(by omega),trivial⟩);refine zB6 (Ah [Ag (Lay.rb L) 0 (Lay.n L) (Lay.n L*3) Ac,Ag (Lay.tb L) 0 (Lay.n L) (Lay.n L) Ac,iD ↑(Js.s S),AX (Fn.func 135) [] [Ae (Lay.cb L) 0]] 218 0 Aa Aa Al) (Lay.jb L) (Aa=Aa/\Ac=Ac/\1=1/\3<=4) (Ah [Ag (Lay.rb L) 0 (Lay.n L) (Lay.n L*3) Ac,Ag (Lay.tb L) 0 (Lay.n L) (Lay.n L) Ac,iD ↑(Js.s S+1),AX (Fn.func 135) [] [Ae (Lay.cb L) 0]] 218 0 Aa Aa Al) (zNn (S:=S) hL) ⟨(by kernel_rfl),⟨(by kernel_rfl),(by omega)⟩⟩ ?_;rw[zMl hL];refine zAb [18,19,20,21,22,23,24,25] [] ?_;refine zA<|vd [0,1,2,4,5,6,3,7,8,9]<|zR 6 [] [] (True/\True) [(26,Ae (Lay.jb L) 0),(27,Ae (Lay.jb L) 0),(28,Ae (Lay.jb L) 3),(30,Ae (Lay.jb L) 0),(31,Ae (Lay.jb L) 0),(32,Ae (Lay.jb L) 0)] ?_ (hc:=⟨trivial,trivial⟩);refine zAh (Ah [Ag (Lay.rb L) 0 (Lay.n L) (Lay.n L*3) Ac,Ag (Lay.tb L) 0 (Lay.n L) (Lay.n L) Ac,iD ↑(Js.s S+1),AX (Fn.func 135) [] [Ae (Lay.cb L) 0]] 218 0 Aa Aa Al) (Lay.jb L) (Ay 1 1) (AX (Fn.func 135) [] [Ae (Lay.cb L) 0]) hj2 (by simp) ?_;refine zAh (Ah [Ag (Lay.rb L) 0 (Lay.n L) (Lay.n L*3) Ac,Ag (Lay.tb L) 0 (Lay.n L) (Lay.n L) Ac,iD ↑(Js.s S+1),AX (Fn.func 135) [] [Ae (Lay.cb L) 0]] 218 0 Aa Aa Al) (Lay.jb L) (Ay 1 4) (Ag (Lay.rb L) 0 (Lay.n L) (Lay.n L*3) Ac) hj2 (by simp) ?_;focus
  refine zJp [] [] [Ag (Lay.rb L) 0 (Lay.n L) (Lay.n L*3) Ac,Ae (Lay.cb L) 0] [Ag (Lay.rb L) 0 (Lay.n L) (Lay.n L*3) Ac,Ae (Lay.cb L) 0] (¬Lay.jb L∈Lay.ch L/\¬Lay.jb L∈Lay.ch L/\¬Lay.jb L∈Lay.ch L/\¬Lay.jb L∈Lay.ch L/\¬Lay.cb L∈Lay.ch L/\¬Lay.jb L∈Lay.ch L/\¬Lay.jb L∈Lay.ch L/\¬Lay.jb L∈Lay.ch L/\¬Lay.rb L∈Lay.ch L/\True) (by kernel_rfl) trivial (AG _) (by exact hy) (by kernel_rfl) ?_ ?_ ?_;rotate_left;rotate_left;refine zAb [26,27,28,29,30,31,32,33,34] [(4,bD Ac)] ?_;refine zE<|zH<|zN (True) [Aj<|AQ Ac] (.inr rfl) ?_;rotate_left
 ·exact Tj_ch
 ·exact⟨c1,c1,c1,c1,hL.cb.2,c1,c1,c1,c2,trivial⟩
 exact⟨by kernel_rfl,rfl⟩
theorem hd_tb(L:Lay)(v:Nat)(h:v<L.n):(((Aw L.n).map λv=>Ag (L.ab v) 0 (L.ix v).length (L.ix v).length Ac).drop v).headD .unk= .osl (L.ab v) 0 (L.ix v).length (L.ix v).length true:=by
 simp_all
theorem zZ0(ix:List Nat)(its:List It)(t:Nat)(h:t<ix.length):zCe (ix.take (t+1)) its=(zCe (ix.take t) its).set (ix.getD t 0) (opI ((zCe (ix.take t) its).getD (ix.getD t 0) Ab)):=by
 unfold zCe;rw[zBt ix 0 t h,BR];rfl
theorem zZp(ix:List Nat)(its:List It)(t:Nat)(h:t<ix.length):zGu (ix.take (t+1)) its=(zGu (ix.take t) its).set (ix.getD t 0) (upI ((zGu (ix.take t) its).getD (ix.getD t 0) Ab)):=by
 unfold zGu;rw[zBt ix 0 t h,BR];rfl
theorem zFx{ix:List Nat}(hn:ix.Nodup){t:Nat}(h:t<ix.length):ix.getD t 0∉ix.take t:=by grind [List.getElem_of_mem,B_,Br,List.getElem_inj]
theorem opAll_at(ix:List Nat)(hn:ix.Nodup)(its:List It)(hl:∀i∈ix,i<its.length)(t:Nat)(h:t<ix.length):(zCe (ix.take t) its).getD (ix.getD t 0) Ab=its.getD (ix.getD t 0) default:=by
 unfold zCe;rw[zHi opI (ix.take t) its (List.Sublist.nodup (List.take_sublist _ _) hn) (λi hi=>hl i (Cl hi)),if_neg (zFx hn h)]
theorem upAll_at(ix:List Nat)(hn:ix.Nodup)(its:List It)(hl:∀i∈ix,i<its.length)(t:Nat)(h:t<ix.length):(zGu (ix.take t) its).getD (ix.getD t 0) Ab=its.getD (ix.getD t 0) default:=by
 unfold zGu;rw[zHi upI (ix.take t) its (List.Sublist.nodup (List.take_sublist _ _) hn) (λi hi=>hl i (Cl hi)),if_neg (zFx hn h)]
def Bds(na:Nat)(its:List It):Prop:=∀a,a<na->BdI (its.getD a Ab)
theorem extend_a(L:Lay)(hL:LOk L)(hv:Vok L.n L.na L.vs)(M K:Nat)(hY:YOk L K)(h32:L.n<=1000000)(hna:L.na<=1000000):∀(m v:Nat)(S:Js),m+v=L.n->AtV L.na L.vs v S.its->S.row.length=L.n->Bds L.na S.its->Szs L.na M S.its->S.s+cE L.na M m+1<=big->(∀a,a<L.na->(S.its.getD a Ab).s+cE L.na M m<=big)->(extJ L.ix m v S).ys.length<=K->
  Acts As 146 [.own L.jb 0,iD (v:Nat)] (lay L S) L.ch (bD Ac) (lay L (extJ L.ix m v S)):=by
 intro m;induction m with
 |zero=>
  intro v S hmv ha hr hb hM hs hst hK;obtain rfl:v=L.n:=by omega
  refine extend0_a L hL K hY S ha.len hr h32 (by show S.s+1<=_;have:cE L.na M 0=1:=rfl;omega) ?_;grind [extJ]
 | succ m ih=>
  intro v S hmv ha hr hb hM hs hst hK;have hvn:v<L.n:=by omega
  have h0:0<(L.ix v).length:=hv.pos hvn;have hi0:(L.ix v).getD 0 0∈L.ix v:=zAz h0;obtain⟨hi1,hi2⟩:(L.ix v).getD 0 0<L.na/\v∈L.vs ((L.ix v).getD 0 0):=(zV L.na L.vs).1 hi0;have hnd:(L.ix v).Nodup:=zKv L.na L.vs v;have hix:∀i∈L.ix v,i<L.na:=λi hi=>zSo hi;have hln:(L.ix v).length<=L.na:=ats_len v;have hls:∀i∈L.ix v,i<S.its.length:=λi hi=>by rw[ha.len];exact hix i hi
  obtain⟨o1,o2⟩:=op_inv hv ha;have o3:=op_same (vs:=L.vs) v ha.len;have hlj:=zNn (S:=S) hL;have hlt:=lay_t (S:=S) hL;have htb:=hd_tb L v hvn;refine zAm (Tj_ok L.N L.ch) mixed Tryz.func146 rfl zZl<|vA<|zAb [] [(4,bD Aa)] ?_;refine zA<|vA<|zA3 4 [(12,iD v),(13,Ae (Lay.jb L) 0),(14,Ae (Lay.jb L) 0),(15,Ae (Lay.jb L) 0)] ?_;refine zAh (Ah [Ag (Lay.rb L) 0 (Lay.n L) (Lay.n L*3) Ac,Ag (Lay.tb L) 0 (Lay.n L) (Lay.n L) Ac,iD ↑(Js.s S),AX (Fn.func 135) [] [Ae (Lay.cb L) 0]] 218 0 Aa Aa Al) (Lay.jb L) (Ay 1 4) (Ag (Lay.rb L) 0 (Lay.n L) (Lay.n L*3) Ac) hlj (by simp) ?_;refine zAb [12,13,14,15,16,17] [(18,bD ((v:Int)==↑(Lay.n L)))] ?_;refine vEf ((v:Int)) ((↑(Lay.n L):Int))<|vK<|vA<|zA3 3 [(35,Ae (Lay.jb L) 0),(36,Ae (Lay.jb L) 0),(37,Ae (Lay.jb L) 1)] ?_;refine zAh (Ah [Ag (Lay.rb L) 0 (Lay.n L) (Lay.n L*3) Ac,Ag (Lay.tb L) 0 (Lay.n L) (Lay.n L) Ac,iD ↑(Js.s S),AX (Fn.func 135) [] [Ae (Lay.cb L) 0]] 218 0 Aa Aa Al) (Lay.jb L) (Ay 1 3) (Ag (Lay.tb L) 0 (Lay.n L) (Lay.n L) Ac) hlj (by simp) ?_;refine zR 2 [] [] ((0:Int)<=(v:Int)/\(v:Int)<↑(Lay.n L)) [(39,iD v),(40,Ae (Lay.tb L) (0+AB (v:Int)*1))] ?_;refine zAo 40 (Ae (Lay.tb L) (0+AB (v:Int)*1)) (Ae (Lay.tb L) v) (by simp(disch:=omega) only[AS,Ba,AV]) ?_;refine zAh (Ah (Ak (λ(v:Nat)=>Ag (Lay.ab L v) 0 (Ad<|Lay.ix L v) (Ad<|Lay.ix L v) Ac)<|Aw<|Lay.n L) 219 1 Ac Aa AN) (Lay.tb L) (Ay 1<|Ad<|Af v<|Ak (λ(v:Nat)=>Ag (Lay.ab L v) 0 (Ad<|Lay.ix L v) (Ad<|Lay.ix L v) Ac)<|Aw<|Lay.n L) (AC (Af v<|Ak (λ(v:Nat)=>Ag (Lay.ab L v) 0 (Ad<|Lay.ix L v) (Ad<|Lay.ix L v) Ac)<|Aw<|Lay.n L) Uk) hlt (by(simp;omega)) ?_;refine zA3 1 [(5,AC (Af v<|Ak (λ(v:Nat)=>Ag (Lay.ab L v) 0 (Ad<|Lay.ix L v) (Ad<|Lay.ix L v) Ac)<|Aw<|Lay.n L) Uk)] ?_;refine zAo 5 (AC (Af v<|Ak (λ(v:Nat)=>Ag (Lay.ab L v) 0 (Ad<|Lay.ix L v) (Ad<|Lay.ix L v) Ac)<|Aw<|Lay.n L) Uk) (Ag (Lay.ab L v) 0 (Ad<|Lay.ix L v) (Ad<|Lay.ix L v) Ac) (by simp(disch:=omega) only[htb]) ?_;refine zAb [18,35,36,37,38,39,40,41] [] ?_;refine zA<|vA<|zAb [] [(42,Ag (Lay.ab L v) 0 (Ad<|Lay.ix L v) (Ad<|Lay.ix L v) Ac),(43,iD (Ad (Lay.ix L v):Int)),(44,iD 0)] ?_;refine zJ<|zK (λ(t:Nat)=>fr 93 [(0,Ae (Lay.jb L) 0),(1,iD v),(4,bD Aa),(5,Ag (Lay.ab L v) 0 (Ad<|Lay.ix L v) (Ad<|Lay.ix L v) Ac),(42,Ag (Lay.ab L v) 0 (Ad<|Lay.ix L v) (Ad<|Lay.ix L v) Ac),(43,iD (Ad (Lay.ix L v):Int)),(44,iD t)]) (λ(t:Nat)=>lay L {S with its:=zCe ((L.ix v).take t) S.its}) (λ(t:Nat)=>(L.ix v).length-t) (λ(t:Nat)=>t<=(L.ix v).length) 0 ?_ ?_ ?_
  ·omega
  ·refine vkp [0,1,4,5,42,43,44]
  intro t ht;rcases Az t (L.ix v).length with ht2|ht2
  ·have hhd:=hd_ix L (L.ix v) t ht2;have hmm:=zAz ht2;have hat:=opAll_at (L.ix v) hnd S.its hls t ht2;have hsu:=zZ0 (L.ix v) S.its t ht2;obtain⟨q1,q2⟩:=(zV L.na L.vs).1 hmm;have hop:=open_g (k:=L.ib ((L.ix v).getD t 0)) (it:=(zCe ((L.ix v).take t) S.its).getD ((L.ix v).getD t 0) Ab) (zQv (S:={S with its:=zCe ((L.ix v).take t) S.its}) hL q1) (by rw[hat];exact ha.one _ q1) (by rw[hat];exact hb _ q1) (zKt hv q1 q2);rw[zH6 hL q1 (by rw[show(zCe ((L.ix v).take t) S.its).length=S.its.length from zKd opI _ _,ha.len];exact q1),<-hsu]at hop;refine vA<|zAb [] [(45,bD<|decide ((t:Int)<(Ad (Lay.ix L v):Int)))] ?_;refine zA<|vT ((t:Int)<(Ad (Lay.ix L v):Int))<|vKB<|vA<|zR 1 [] [] ((0:Int)<=(t:Int)/\(t:Int)<(Ad (Lay.ix L v):Int)) [(46,Ae (Lay.ab L v) (0+AB (t:Int)*1))] ?_;refine zAo 46 (Ae (Lay.ab L v) (0+AB (t:Int)*1)) (Ae (Lay.ab L v) t) (by simp(disch:=omega) only[AS,Ba,AV]) ?_;refine zAh (Ah (Ak (λ(i:Nat)=>Ae (Lay.ib L i) 0)<|Lay.ix L v) 225 1 Ac Aa AN) (Lay.ab L v) (Ay 1<|Ad<|Af t<|Ak (λ(i:Nat)=>Ae (Lay.ib L i) 0)<|Lay.ix L v) (AC (Af t<|Ak (λ(i:Nat)=>Ae (Lay.ib L i) 0)<|Lay.ix L v) Uk) (zVm hL hvn) (by(simp;omega)) ?_;refine zA3 1 [(7,AC (Af t<|Ak (λ(i:Nat)=>Ae (Lay.ib L i) 0)<|Lay.ix L v) Uk)] ?_;refine zAo 7 (AC (Af t<|Ak (λ(i:Nat)=>Ae (Lay.ib L i) 0)<|Lay.ix L v) Uk) (Ae (Lay.ib L<|AE (Lay.ix L v) t 0) 0) (by simp(disch:=omega) only[hhd]) ?_;refine zAb [45,46,47] [] ?_;refine zB rfl<|zA3 1 [(48,Ae (Lay.ib L<|AE (Lay.ix L v) t 0) 0)] ?_;refine zZ [] [] [Ae (Lay.ib L<|AE (Lay.ix L v) t 0) 0] [Ae (Lay.ib L<|AE (Lay.ix L v) t 0) 0] (AG _) (by exact hop) ?_;refine zAk ?_ (by kernel_rfl);refine zD<|vN<|zB rfl<|zR 2 [] [] (i6 (↑t+1)) [(44,iD ↑(t+1)),(50,iD ↑(t+1))] ?_;refine zAk ?_ (by kernel_rfl);refine zC<|⟨t+1,ht2,by omega,?_⟩;refine vkp [0,1,4,5,42,43,44]
  obtain rfl:t=(L.ix v).length:=by omega
  rw[B7];have hex:extJ L.ix (m+1) v S={lpJ (extJ L.ix m (v+1)) (L.ix v) v (((zCe (L.ix v) S.its).getD ((L.ix v).getD 0 0) Ab).e) (metJ (L.ix v) (zCe (L.ix v) S.its) S.s).2.2 {S with its:=(metJ (L.ix v) (zCe (L.ix v) S.its) S.s).1,s:=(metJ (L.ix v) (zCe (L.ix v) S.its) S.s).2.1}with its:=zGu (L.ix v) (lpJ (extJ L.ix m (v+1)) (L.ix v) v (((zCe (L.ix v) S.its).getD ((L.ix v).getD 0 0) Ab).e) (metJ (L.ix v) (zCe (L.ix v) S.its) S.s).2.2 {S with its:=(metJ (L.ix v) (zCe (L.ix v) S.its) S.s).1,s:=(metJ (L.ix v) (zCe (L.ix v) S.its) S.s).2.1}).its}:=rfl;rw[hex]at hK⊢;generalize hI1:zCe (L.ix v) S.its=its1 at*;rw[cE]at hs;have hst:∀a,a<L.na->(S.its.getD a Ab).s+(cM L.na M+M*(cE L.na M m+cM L.na M))<=big:=hst;have hM1:Szs L.na M its1:=hM.of λa _=>(o3 a).2.1;have hb1:Bds L.na its1:=λa h=>(hb a h).of (o3 a).2.1 (o3 a).2.2;have hF:=zX3 (M:=M) hln;have hFM:mtF (L.ix v).length M*(M+2)<=cM L.na M:=A3 _ hF;have hFc:=mtF_cM L.na M;have hmet:=zD1 (L.ix v) hnd h0 its1 S.s (λa h=>⟨by rw[o1.len];exact hix a h,(o1.inn a (hix a h) ((zV _ _).1 h).2).lv⟩) (λa h _=>o2 a h);obtain⟨mc1,mc2⟩:=zK8 hv hvn o1 hM1 (s:=S.s) (by omega) (λa ha=>by rw[(o3 a).1];have:=hst a ha;omega) (λa h _=>o2 a h);obtain⟨r0,hr0⟩:∃r0,r0=metJ (L.ix v) its1 S.s:=⟨_,rfl⟩;rw[<-hr0]at hmet mc1 mc2 hK⊢;have hme:=meet_a L hL {S with its:=its1} v M hvn o1.len h0 (by omega) (λi hi=>⟨(o1.inn i (hix i hi) ((zV _ _).1 hi).2).lv,hb1 i (hix i hi),rng_le (o1.inn i (hix i hi) ((zV _ _).1 hi).2).lv (hM1 i (hix i hi)),by show(its1.getD i Ab).s+_<=big;rw[(o3 i).1];have:=hst i (hix i hi);omega⟩) (by show S.s+_+1<=big;omega) (λi hi _=>o2 i hi);have hfe:(its1.getD ((L.ix v).getD 0 0) Ab).e<=M:=by
   exact Ax ((o1.inn _ hi1 hi2).lv.len (o2 _ hi0)).1 (hM1 _ hi1 ((its1.getD ((L.ix v).getD 0 0) Ab).l-1))
  have hmul:=A3 (cE L.na M m+cM L.na M) hfe;simp only at hme;rw[<-hr0]at hme;have hfr:(r0.1.getD ((L.ix v).getD 0 0) Ab).e-(r0.1.getD ((L.ix v).getD 0 0) Ab).p<=(its1.getD ((L.ix v).getD 0 0) Ab).e:=by
   rw[(hmet.adv _ hi0).e];exact Nat.sub_le _ _
  generalize (its1.getD ((L.ix v).getD 0 0) Ab).e=f0 at*;have hrec:∀S:Js,AtV L.na L.vs (v+1) S.its->S.row.length=L.n->ExtP L.n L.na L.vs (v+1) S (extJ L.ix m (v+1) S):=λS h1 h2=>zJf hv m (v+1) S (by omega) h1 h2;have hrc:∀S:Js,AtV L.na L.vs (v+1) S.its->S.row.length=L.n->Szs L.na M S.its->S.s+cE L.na M m+1<=big->(∀a,a<L.na->(S.its.getD a Ab).s+cE L.na M m<=big)->_:=λS h1 h2 h3 h4 h5=>zQ3 hv M m (v+1) S (by omega) h1 h2 h3 h4 h5;have hrys:=ext_ys L.ix m (v+1);obtain⟨rec,hrecE⟩:∃rec,rec=extJ L.ix m (v+1):=⟨_,rfl⟩;rw[<-hrecE]at hK hrys⊢;have ihR:∀S:Js,AtV L.na L.vs (v+1) S.its->S.row.length=L.n->Bds L.na S.its->Szs L.na M S.its->S.s+cE L.na M m+1<=big->(∀a,a<L.na->(S.its.getD a Ab).s+cE L.na M m<=big)->(rec S).ys.length<=K->Acts As 146 [.own L.jb 0,iD (v+1:Nat)] (lay L S) L.ch (bD Ac) (lay L (rec S)):=λS h1 h2 h3 h4 h5 h6 h7=>by
   rw[hrecE]at h7⊢;exact ih (v+1) S (by omega) h1 h2 h3 h4 h5 h6 h7
  have hrecs:∀S:Js,AtV L.na L.vs (v+1) S.its->S.row.length=L.n->ExtP L.n L.na L.vs (v+1) S (rec S):=by rw[hrecE];exact hrec
  have hM3:Szs L.na M r0.1:=hM1.of λa ha=>by
   by_cases hma:a∈L.ix v
   ·exact(hmet.adv a hma).t
   rw[hmet.out a hma]
  have hB3:Bds L.na r0.1:=λa ha=>by
   by_cases hma:a∈L.ix v
   ·exact(hb1 a ha).of (hmet.adv a hma).t (by rw[(hmet.adv a hma).fr])
   rw[hmet.out a hma];exact hb1 a ha
  have hLp:=zVk hv hvn rec hrecs f0 r0.2.2 {S with its:=r0.1,s:=r0.2.1} (zFk o1 hmet) hr (λhf' d hd=>by
   have:=(hmet.com d).1 λi hi=>(hmet.adv i hi).has (hd i hi)
   rw[hf']at this;exact absurd this.1 Bz) hmet.key hfr
  generalize hG:lpJ rec (L.ix v) v f0 r0.2.2 {S with its:=r0.1,s:=r0.2.1}=G at*;have hK':G.ys.length<=K:=hK;refine vA<|zAb [] [(45,bD<|decide ((Ad (Lay.ix L v):Int)<(Ad (Lay.ix L v):Int)))] ?_;refine zA<|vF ((Ad (Lay.ix L v):Int)<(Ad (Lay.ix L v):Int))<|vZ2<|vA<|zAb [42,43,44,45] [(8,bD Ac)] ?_;refine zA<|vA<|zA3 2 [(51,Ae (Lay.jb L) 0),(52,Ag (Lay.ab L v) 0 (Ad<|Lay.ix L v) (Ad<|Lay.ix L v) Ac)] ?_;refine zZ [] [] [Ae (Lay.jb L) 0,Ag (Lay.ab L v) 0 (Ad<|Lay.ix L v) (Ad<|Lay.ix L v) Ac] [Ae (Lay.jb L) 0,Ag (Lay.ab L v) 0 (Ad<|Lay.ix L v) (Ad<|Lay.ix L v) Ac] (AG _) (by exact hme) ?_;refine zAb [51,52,53] [(9,bD<|A1<|A1 r0)] ?_;refine zJ<|zC2 (λ(b:Bool)(J:Js)(f:Nat)=>fr 93 [(0,Ae (Lay.jb L) 0),(1,iD v),(4,bD Aa),(5,Ag (Lay.ab L v) 0 (Ad<|Lay.ix L v) (Ad<|Lay.ix L v) Ac),(8,bD Ac),(9,bD b)]) (λ(b:Bool)(J:Js)(f:Nat)=>lay L J) (λ(b:Bool)(J:Js)(f:Nat)=>f) (λ(b:Bool)(J:Js)(f:Nat)=>InV L.na L.vs v J.its/\J.row.length=L.n/\Szs L.na M J.its/\Bds L.na J.its/\(b=Ac->∃c,∀i∈L.ix v,(J.its.getD i Ab).p<(J.its.getD i Ab).e/\keyI (J.its.getD i Ab)=c)/\J.s+f*(cE L.na M m+cM L.na M)+1<=big/\(∀a,a<L.na->(J.its.getD a Ab).s+f*(cE L.na M m+cM L.na M)<=big)/\(J.its.getD ((L.ix v).getD 0 0) Ab).e-(J.its.getD ((L.ix v).getD 0 0) Ab).p<=f/\lpJ rec (L.ix v) v f b J=G) r0.2.2 {S with its:=r0.1,s:=r0.2.1} f0 ?_ ?_ ?_
  ·exact⟨zFk o1 hmet,hr,hM3,hB3,hmet.key,by show r0.2.1+_+1<=big;omega,λa ha=>by
    show(r0.1.getD a Ab).s+_<=big
    have:=mc2 a ha;have:=(o3 a).1;have:=hst a ha;omega,hfr,hG⟩
  ·refine vkp [0,1,4,5,8,9]
  rintro b J f ⟨i1,i2,i3,i4,i5,i6,i7,i8,i9⟩;cases b with
  | true=>
   obtain⟨c,hc⟩:=i5 rfl;have hc0:=hc _ hi0;obtain⟨f,rfl⟩:∃f',f=f'+1:=⟨f-1,by have:=hc0.1;omega⟩;rw[A9]at i6;have i7:∀a,a<L.na->(J.its.getD a Ab).s+(f*(cE L.na M m+cM L.na M)+(cE L.na M m+cM L.na M))<=big:=λa ha=>by have:=i7 a ha;rw[A9]at this;exact this
   have hlv0:=(i1.inn _ hi1 hi2).lv;have hkey:=key_g (zQv (S:=J) hL hi1) hlv0 (i4 _ hi1) hc0.1;have hhd:=hd_ix L (L.ix v) 0 h0;rw[AY]at hhd;have hat2:AtV L.na L.vs (v+1) J.its:=lp_atv hv i1 hc;have hrl:(J.row.set v (keyI (J.its.getD ((L.ix v).getD 0 0) Ab))).length=L.n:=by simpa using i2
   have hset:=zPj J.row v (keyI (J.its.getD ((L.ix v).getD 0 0) Ab)) (by omega);have hcl:=zAg J.row;obtain⟨S1,hS1⟩:∃S1,S1=rec {J with row:=J.row.set v (keyI (J.its.getD ((L.ix v).getD 0 0) Ab))}:=⟨_,rfl⟩;have hE:=hrecs {J with row:=J.row.set v (keyI (J.its.getD ((L.ix v).getD 0 0) Ab))} hat2 hrl;have hC:=hrc {J with row:=J.row.set v (keyI (J.its.getD ((L.ix v).getD 0 0) Ab))} hat2 hrl i3 (by show J.s+_+1<=big;omega) (λa ha=>by show(J.its.getD a Ab).s+_<=big;have:=i7 a ha;omega);rw[<-hrecE,<-hS1]at hC;rw[<-hS1]at hE;obtain⟨r1,r2,r3,r4,r5⟩:=hE;obtain⟨k1,k2⟩:=hC;simp only at r2 k1 k2;have hl1:(L.ix v).getD 0 0<S1.its.length:=by rw[r1];exact hi1
   have hstep:=zQu rec (L.ix v) v f J S1 _ hS1 rfl hl1;obtain⟨n1,n2⟩:=lp_nx hv hvn i1 (λi h=>(hc i h).1) r1 r2;have hsz:∀a,a<L.na->((S1.its.set ((L.ix v).getD 0 0) (nxI (S1.its.getD ((L.ix v).getD 0 0) Ab))).getD a Ab).s=(S1.its.getD a Ab).s/\((S1.its.set ((L.ix v).getD 0 0) (nxI (S1.its.getD ((L.ix v).getD 0 0) Ab))).getD a Ab).t=(J.its.getD a Ab).t/\((S1.its.set ((L.ix v).getD 0 0) (nxI (S1.its.getD ((L.ix v).getD 0 0) Ab))).getD a Ab).fr.length=(J.its.getD a Ab).fr.length:=λa ha=>by
    by_cases e:a=(L.ix v).getD 0 0
    ·subst e;rw[zAa hl1];exact⟨rfl,(r2 _ ha).t,(r2 _ ha).fl⟩
    rw[zBf e];exact⟨rfl,(r2 _ ha).t,(r2 _ ha).fl⟩
   have hb1':BdI (S1.its.getD ((L.ix v).getD 0 0) Ab):=(i4 _ hi1).of (r2 _ hi1).t (r2 _ hi1).fl;have hnext:=next_g (zQv (S:=S1) hL hi1) ((r2 _ hi1).lv hlv0) hb1' (by rw[(r2 _ hi1).p,(r2 _ hi1).e];exact hc0.1);rw[zH6 hL hi1 hl1]at hnext;have hon2:onI (nxI (S1.its.getD ((L.ix v).getD 0 0) Ab))=onI ((S1.its.set ((L.ix v).getD 0 0) (nxI (S1.its.getD ((L.ix v).getD 0 0) Ab))).getD ((L.ix v).getD 0 0) Ab):=by rw[zAa hl1]
   rw[hon2]at hnext;have hpe2:((S1.its.set ((L.ix v).getD 0 0) (nxI (S1.its.getD ((L.ix v).getD 0 0) Ab))).getD ((L.ix v).getD 0 0) Ab).e-((S1.its.set ((L.ix v).getD 0 0) (nxI (S1.its.getD ((L.ix v).getD 0 0) Ab))).getD ((L.ix v).getD 0 0) Ab).p<=f:=by
    rw[zAa hl1];show(S1.its.getD _ Ab).e-((S1.its.getD _ Ab).p+1)<=f;rw[(r2 _ hi1).p,(r2 _ hi1).e]
    have:=hc0.1
    omega
   generalize S1.its.set ((L.ix v).getD 0 0) (nxI (S1.its.getD ((L.ix v).getD 0 0) Ab))=its2 at*;have hM2:=i3.of λa ha=>(hsz a ha).2.1;have hB2:Bds L.na its2:=λa ha=>(i4 a ha).of (hsz a ha).2.1 (hsz a ha).2.2;have hmet2:=zD1 (L.ix v) hnd h0 its2 S1.s (λa h=>⟨by rw[n1.len];exact hix a h,(n1.inn a (hix a h) ((zV _ _).1 h).2).lv⟩) n2;obtain⟨mm1,mm2⟩:=zK8 hv hvn n1 hM2 (s:=S1.s) (by omega) (λa ha=>by have:=(hsz a ha).1;have:=k2 a ha;have:=i7 a ha;omega) n2;have hme2:=meet_a L hL {S1 with its:=its2} v M hvn n1.len h0 (by omega) (λi hi=>⟨(n1.inn i (hix i hi) ((zV _ _).1 hi).2).lv,hB2 i (hix i hi),rng_le (n1.inn i (hix i hi) ((zV _ _).1 hi).2).lv (hM2 i (hix i hi)),by show(its2.getD i Ab).s+_<=big;have:=(hsz i (hix i hi)).1;have:=k2 i (hix i hi);have:=i7 i (hix i hi);omega⟩) (by show S1.s+_+1<=big;omega) n2;simp only at hme2;have hno2:=metJ_no (L.ix v) its2 S1.s;have hys:=lp_ys rec (L.ix v) v hrys f (metJ (L.ix v) its2 S1.s).2.2 {S1 with its:=(metJ (L.ix v) its2 S1.s).1,s:=(metJ (L.ix v) its2 S1.s).2.1};rw[i9]at hstep;rw[<-hstep]at hys;have hext:=ihR {J with row:=J.row.set v (keyI (J.its.getD ((L.ix v).getD 0 0) Ab))} hat2 hrl i4 i3 (by show J.s+_+1<=big;omega) (λa ha=>by show(J.its.getD a Ab).s+_<=big;have:=i7 a ha;omega) (by rw[<-hS1];exact Ax hys hK');rw[<-hS1]at hext;have hfr2:((metJ (L.ix v) its2 S1.s).1.getD ((L.ix v).getD 0 0) Ab).e-((metJ (L.ix v) its2 S1.s).1.getD ((L.ix v).getD 0 0) Ab).p<=f:=by
    have a1:=(hmet2.adv _ hi0).e;have a2:=(hmet2.adv _ hi0).p;omega
   generalize metJ (L.ix v) its2 S1.s=r at*;generalize keyI (J.its.getD ((L.ix v).getD 0 0) Ab)=key at*;have hinv:InV L.na L.vs v r.1/\S1.row.length=L.n/\Szs L.na M r.1/\Bds L.na r.1/\(r.2.2=Ac->∃c,∀i∈L.ix v,(r.1.getD i Ab).p<(r.1.getD i Ab).e/\keyI (r.1.getD i Ab)=c)/\r.2.1+f*(cE L.na M m+cM L.na M)+1<=big/\(∀a,a<L.na->(r.1.getD a Ab).s+f*(cE L.na M m+cM L.na M)<=big)/\(r.1.getD ((L.ix v).getD 0 0) Ab).e-(r.1.getD ((L.ix v).getD 0 0) Ab).p<=f/\lpJ rec (L.ix v) v f r.2.2 {S1 with its:=r.1,s:=r.2.1}=G:=by
    refine⟨zFk n1 hmet2,r3,?_,?_,hmet2.key,by omega,λa ha=>by have:=(hsz a ha).1;have:=k2 a ha;have:=i7 a ha;have:=mm2 a ha;omega,hfr2,hstep.symm⟩
    ·exact hM2.of λa ha=>by
      by_cases hma:a∈L.ix v
      ·exact(hmet2.adv a hma).t
      rw[hmet2.out a hma]
    intro a ha;by_cases hma:a∈L.ix v
    ·exact(hB2 a ha).of (hmet2.adv a hma).t (by rw[(hmet2.adv a hma).fr])
    rw[hmet2.out a hma];exact hB2 a ha
   refine zA<|vA<|zAb [] [(54,bD Ac)] ?_;refine vt<|vKB<|zA<|zA6 [0,1,2,4,5,6,3,7] [(8,[(3,100000)],[9,10,11,12,13])] rfl ?_;refine zR 6 [] [] (True/\(0:Int)<=(0:Int)/\(0:Int)<(Ad (Lay.ix L v):Int)) [(65,Ae (Lay.jb L) 0),(66,Ae (Lay.jb L) 0),(67,Ae (Lay.jb L) 0),(69,iD v),(70,Ag (Lay.ab L v) 0 (Ad<|Lay.ix L v) (Ad<|Lay.ix L v) Ac),(71,Ae (Lay.ab L v) 0)] ?_ (hc:=⟨trivial,(by omega)⟩);refine zAh (Ah [Ag (Lay.rb L) 0 (Lay.n L) (Lay.n L*3) Ac,Ag (Lay.tb L) 0 (Lay.n L) (Lay.n L) Ac,iD ↑(Js.s J),AX (Fn.func 135) [] [Ae (Lay.cb L) 0]] 218 0 Aa Aa Al) (Lay.jb L) (Ay 1 4) (Ag (Lay.rb L) 0 (Lay.n L) (Lay.n L*3) Ac) (zNn (S:=J) hL) (by simp) ?_;refine zAh (Ah (Ak (λ(i:Nat)=>Ae (Lay.ib L i) 0)<|Lay.ix L v) 225 1 Ac Aa AN) (Lay.ab L v) (Ay 1<|Ad<|Af 0<|Ak (λ(i:Nat)=>Ae (Lay.ib L i) 0)<|Lay.ix L v) (AC (Af 0<|Ak (λ(i:Nat)=>Ae (Lay.ib L i) 0)<|Lay.ix L v) Uk) (zVm (S:=J) hL hvn) (by(simp;omega)) ?_;refine zAk ?_ (by kernel_rfl);refine zBy rfl rfl ?_ (hf:=zDr (λx hx=>by rw[zAs];simp at hx;subst hx;exact hL.sm));refine zZ [] [] [AC (Af 0<|Ak (λ(i:Nat)=>Ae (Lay.ib L i) 0)<|Lay.ix L v) Uk] [Ae (Lay.ib L<|AE (Lay.ix L v) 0 0) 0] (BQ (by simp(disch:=omega) only[AY,hhd])) (by exact hkey) ?_;refine zAk ?_ (by kernel_rfl);refine zDo (Au _) (zDi 3 100000 (jB L J.s) L.jb (0<4) (.osl L.rb 0 L.n (L.n*3) Ac) (by kernel_rfl) (by rw[zD9 (by rw[zAs];exact hL.sm)];exact zNn hL) (by decide) (by kernel_rfl)) ?_;refine zR 4 [] [] (0<2/\1<2/\(0:Int)<=(v:Int)/\(v:Int)<↑(Lay.n L)) [(64,D.tup [Am [iD<|Ap key,iD<|Aq key,Aj<|Ao<|bs<|Ar key],bD Ac]),(74,Am [iD<|Ap key,iD<|Aq key,Aj<|Ao<|bs<|Ar key]),(75,bD Ac),(76,Ae (Lay.rb L) (0+AB (v:Int)*3))] ?_;refine zAo 76 (Ae (Lay.rb L) (0+AB (v:Int)*3)) (Ae (Lay.rb L) (v*3)) (by simp(disch:=omega) only[AS,AV]) ?_;refine st_puta (Ah (zG<|Js.row J) 64 3 Ac Aa Al) (Lay.rb L) (Aa=Aa/\Ac=Ac/\3=3/\v*3+3<=Ad (zG<|Js.row J)) (Ah (setAt (zG<|Js.row J) (v*3) [iD<|Ap key,iD<|Aq key,Aj<|Ao<|bs<|Ar key]) 64 3 Ac Aa Al) (by kernel_rfl) (lay_r (S:=J) hL) ⟨(by kernel_rfl),⟨(by kernel_rfl),(by omega)⟩⟩ ?_;rw[hset,lay_set_r hL];refine zAk ?_ (by kernel_rfl);refine zBv<|zC<|zMf (9::54::AI 64 13) ([Ae L.jb 0,iD (v:Nat),Uk,Uk,bD Aa,.osl (L.ab v) 0 (L.ix v).length (L.ix v).length Ac,Uk,Uk,bD Ac]++AA 84 Uk) (by kernel_rfl) ?_;focus
    refine vA<|zR 3 [] [] (YtjcofbkhoeockaaGreatDoor.i6 (↑v+1)) [(77,Ae (Lay.jb L) 0),(78,iD v),(79,iD ↑(v+1))] ?_;refine zJp [] [] [Ae (Lay.jb L) 0,iD ↑(v+1)] [Ae (Lay.jb L) 0,iD ↑(v+1)] (¬Lay.jb L∈Lay.ch L/\¬Lay.ab L v∈Lay.ch L/\¬Lay.jb L∈Lay.ch L/\True) (by kernel_rfl) trivial (AG _) (by exact hext) (by kernel_rfl) ?_ ?_ ?_;rotate_left;rotate_left;refine zAb [2,3,6,7,10,12,13,14,15,16,17,18,19,20,21,22,23,24,25,26,27,28,29,30,31,32,33,34,35,36,37,38,39,40,41,42,43,44,45,46,47,48,49,50,51,52,53,54,64,65,66,67,68,69,70,71,72,73,74,75,76,77,78,79,80,90] [(8,bD Ac)] ?_;refine vA<|zAb [81] [(82,bD Aa)] ?_;refine vf<|zT<|zD<|vN<|zB rfl<|zR 2 [] [] ((0:Int)<=(0:Int)/\(0:Int)<(Ad (Lay.ix L v):Int)) [(55,Ag (Lay.ab L v) 0 (Ad<|Lay.ix L v) (Ad<|Lay.ix L v) Ac),(56,Ae (Lay.ab L v) 0)] ?_;rotate_left
   ·exact Tj_ch
   ·obtain⟨c1,c2,c3,c4,c5⟩:=hL.cht;exact⟨c1,c4 v hvn,c1,trivial⟩
   cases hb2:onI (its2.getD ((L.ix v).getD 0 0) Ab)with
   |true=>
    rw[hb2]at hnext;refine zAh (Ah (Ak (λ(i:Nat)=>Ae (Lay.ib L i) 0)<|Lay.ix L v) 225 1 Ac Aa AN) (Lay.ab L v) (Ay 1<|Ad<|Af 0<|Ak (λ(i:Nat)=>Ae (Lay.ib L i) 0)<|Lay.ix L v) (AC (Af 0<|Ak (λ(i:Nat)=>Ae (Lay.ib L i) 0)<|Lay.ix L v) Uk) (zVm (S:=S1) hL hvn) (by(simp;omega)) ?_;refine zZ [] [] [AC (Af 0<|Ak (λ(i:Nat)=>Ae (Lay.ib L i) 0)<|Lay.ix L v) Uk] [Ae (Lay.ib L<|AE (Lay.ix L v) 0 0) 0] (BQ (by simp(disch:=omega) only[AY,hhd])) (by exact hnext) ?_;refine zA3 3 [(59,bD Ac),(60,Ae (Lay.jb L) 0),(61,Ag (Lay.ab L v) 0 (Ad<|Lay.ix L v) (Ad<|Lay.ix L v) Ac)] ?_;refine zZ [] [] [Ae (Lay.jb L) 0,Ag (Lay.ab L v) 0 (Ad<|Lay.ix L v) (Ad<|Lay.ix L v) Ac] [Ae (Lay.jb L) 0,Ag (Lay.ab L v) 0 (Ad<|Lay.ix L v) (Ad<|Lay.ix L v) Ac] (AG _) (by exact hme2) ?_;refine zA3 2 [(9,bD<|A1<|A1 r),(63,bD<|A1<|A1 r)] ?_;refine zAk ?_ (by kernel_rfl);refine zC<|⟨r.2.2,{S1 with its:=r.1,s:=r.2.1},f,hinv,by omega,?_⟩;refine vkp [0,1,4,5,8,9]
   |false=>
    have hrE:=hno2 hb2;subst hrE;rw[hb2]at hnext;refine zAh (Ah (Ak (λ(i:Nat)=>Ae (Lay.ib L i) 0)<|Lay.ix L v) 225 1 Ac Aa AN) (Lay.ab L v) (Ay 1<|Ad<|Af 0<|Ak (λ(i:Nat)=>Ae (Lay.ib L i) 0)<|Lay.ix L v) (AC (Af 0<|Ak (λ(i:Nat)=>Ae (Lay.ib L i) 0)<|Lay.ix L v) Uk) (zVm (S:=S1) hL hvn) (by(simp;omega)) ?_;refine zZ [] [] [AC (Af 0<|Ak (λ(i:Nat)=>Ae (Lay.ib L i) 0)<|Lay.ix L v) Uk] [Ae (Lay.ib L<|AE (Lay.ix L v) 0 0) 0] (BQ (by simp(disch:=omega) only[AY,hhd])) (by exact hnext) ?_;refine zA3 6 [(9,bD Aa),(59,bD Aa),(60,Aj undef),(61,Aj undef),(62,Aj undef),(63,bD Aa)] ?_;refine zAk ?_ (by kernel_rfl);refine zC<|⟨Aa,{S1 with its:=its2},f,hinv,by omega,?_⟩;refine vkp [0,1,4,5,8,9]
  | false=>
   rw[zH3]at i9;subst i9;have hup:∀i∈L.ix v,1<=(J.its.getD i Ab).l/\(J.its.getD i Ab).l<=32/\0<=((J.its.getD i Ab).fr.getD ((J.its.getD i Ab).l-1) (0,0)).1/\0<=((J.its.getD i Ab).fr.getD ((J.its.getD i Ab).l-1) (0,0)).2:=λi hi=>by
    obtain⟨q1,q2⟩:=(zV L.na L.vs).1 hi;obtain⟨p1,p2,p3,p4⟩:=hLp.adv i q1 q2;have a5:=hmet.adv i hi;have hoi:=zL9 (ha.one i q1) (zKt hv q1 q2);have hge:its1.getD i Ab=opI (S.its.getD i Ab):=by
     rw[<-hI1];exact(zMa (vs:=L.vs) v ha.len i).trans (if_pos hi)
    rw[<-hge]at hoi;obtain⟨b1,b2,b3,b4,b5⟩:=hoi;simp only at p1 p2 p3 p4;have hll:(J.its.getD i Ab).l=cnt L.vs i v+1:=by rw[p2,a5.l,b1.ll]
    have hfr3:(J.its.getD i Ab).fr.getD (cnt L.vs i v) (0,0)=((((S.its.getD i Ab).p:Nat):Int),(((S.its.getD i Ab).e:Nat):Int)):=by
     rw[p4 (cnt L.vs i v) (by rw[a5.l,b1.ll];exact Cc _),a5.fr,b5,AW,B3 (by
      have:=(ha.one i q1).fl
      have:=(ha.one i q1).d32
      have:=zKt hv q1 q2
      omega)]
     rfl
    have:=(ha.one i q1).d32
    have:=zKt hv q1 q2
    rw[hll,Bt,hfr3];omega
   have hlJ:∀i∈L.ix v,i<J.its.length:=λi hi=>by rw[i1.len];exact hix i hi
   refine zA<|vA<|zAb [] [(54,bD Aa)] ?_;refine vf<|vZ2<|zA<|vA<|zAb [0,1,5,9,54] [(83,Ag (Lay.ab L v) 0 (Ad<|Lay.ix L v) (Ad<|Lay.ix L v) Ac),(84,iD (Ad (Lay.ix L v):Int)),(85,iD 0)] ?_;refine zJ<|zK (λ(t:Nat)=>fr 93 [(4,bD Aa),(8,bD Ac),(83,Ag (Lay.ab L v) 0 (Ad<|Lay.ix L v) (Ad<|Lay.ix L v) Ac),(84,iD (Ad (Lay.ix L v):Int)),(85,iD t)]) (λ(t:Nat)=>lay L {J with its:=zGu ((L.ix v).take t) J.its}) (λ(t:Nat)=>(L.ix v).length-t) (λ(t:Nat)=>t<=(L.ix v).length) 0 ?_ ?_ ?_
   ·omega
   ·refine vkp [4,8,83,84,85]
   intro t ht;rcases Az t (L.ix v).length with ht2|ht2
   ·have hhd:=hd_ix L (L.ix v) t ht2;have hmm:=zAz ht2;have hat:=upAll_at (L.ix v) hnd J.its hlJ t ht2;have hsu:=zZp (L.ix v) J.its t ht2;obtain⟨q1,q2⟩:=(zV L.na L.vs).1 hmm;obtain⟨u1,u2,u3⟩:=hup _ hmm;have hop:=up_g (k:=L.ib ((L.ix v).getD t 0)) (it:=(zGu ((L.ix v).take t) J.its).getD ((L.ix v).getD t 0) Ab) (zQv (S:={J with its:=zGu ((L.ix v).take t) J.its}) hL q1) (by rw[hat];exact i4 _ q1) (by rw[hat];exact u1) (by rw[hat];exact u2) (by rw[hat];exact u3);rw[zH6 hL q1 (by rw[show(zGu ((L.ix v).take t) J.its).length=J.its.length from zKd upI _ _,i1.len];exact q1),<-hsu]at hop;refine vA<|zAb [] [(86,bD<|decide ((t:Int)<(Ad (Lay.ix L v):Int)))] ?_;refine zA<|vT ((t:Int)<(Ad (Lay.ix L v):Int))<|vKB<|vA<|zR 1 [] [] ((0:Int)<=(t:Int)/\(t:Int)<(Ad (Lay.ix L v):Int)) [(87,Ae (Lay.ab L v) (0+AB (t:Int)*1))] ?_;refine zAo 87 (Ae (Lay.ab L v) (0+AB (t:Int)*1)) (Ae (Lay.ab L v) t) (by simp(disch:=omega) only[AS,Ba,AV]) ?_;refine zAh (Ah (Ak (λ(i:Nat)=>Ae (Lay.ib L i) 0)<|Lay.ix L v) 225 1 Ac Aa AN) (Lay.ab L v) (Ay 1<|Ad<|Af t<|Ak (λ(i:Nat)=>Ae (Lay.ib L i) 0)<|Lay.ix L v) (AC (Af t<|Ak (λ(i:Nat)=>Ae (Lay.ib L i) 0)<|Lay.ix L v) Uk) (zVm hL hvn) (by(simp;omega)) ?_;refine zA3 1 [(11,AC (Af t<|Ak (λ(i:Nat)=>Ae (Lay.ib L i) 0)<|Lay.ix L v) Uk)] ?_;refine zAo 11 (AC (Af t<|Ak (λ(i:Nat)=>Ae (Lay.ib L i) 0)<|Lay.ix L v) Uk) (Ae (Lay.ib L<|AE (Lay.ix L v) t 0) 0) (by simp(disch:=omega) only[hhd]) ?_;refine zAb [86,87,88] [] ?_;refine zB rfl<|zA3 1 [(89,Ae (Lay.ib L<|AE (Lay.ix L v) t 0) 0)] ?_;refine zZ [] [] [Ae (Lay.ib L<|AE (Lay.ix L v) t 0) 0] [Ae (Lay.ib L<|AE (Lay.ix L v) t 0) 0] (AG _) (by exact hop) ?_;refine zAk ?_ (by kernel_rfl);refine zD<|vN<|zB rfl<|zR 2 [] [] (YtjcofbkhoeockaaGreatDoor.i6 (↑t+1)) [(85,iD ↑(t+1)),(91,iD ↑(t+1))] ?_;refine zAk ?_ (by kernel_rfl);refine zC<|⟨t+1,ht2,by omega,?_⟩;refine vkp [4,8,83,84,85]
   obtain rfl:t=(L.ix v).length:=by omega
   rw[B7];refine vA<|zAb [] [(86,bD<|decide ((Ad (Lay.ix L v):Int)<(Ad (Lay.ix L v):Int)))] ?_;refine zA<|vF ((Ad (Lay.ix L v):Int)<(Ad (Lay.ix L v):Int))<|vZ2<|vA<|zAb [8,83,84,85,86,92] [(4,bD Ac)] ?_;refine zE<|zN (True) [Aj<|AQ Ac] (.inr rfl) ?_;exact⟨by kernel_rfl,rfl⟩
end
variable{x:D}{a:Nat}
section
open Go.RowKit
theorem Acts.new0{news:List Bk}(h:Acts P f args [] [] x news)(hargs:∀I w β vs,RelT I w β args vs->RelT I w noB args vs)(hn:∀b∈news,b.free):Acts P f args st [] (zA7 st.length x) (st++news):=by
 intro β I w vs hr hsr hinj hfz hdom hi hg;refine(h noB I w vs (hargs I w β vs hr) (λk b c hk=>by cases hk) (λj j' b c c' h1=>by cases h1) (λk b c i e h1=>by cases h1) (λk y hk=>by cases hk) hi hg).mono ?_;rintro en w' ⟨v,β1,I',rfl,p1,p2,p3,p4,p5,p6,p7,p8⟩;have hlt:∀{j b c:Nat},β j=Ai (b,c)->b<w.heap.size:=λ{j b c} hj=>by
  obtain⟨e0,_,h1⟩:=hsr j b c hj;exact h1.lt
 have hge:∀{j b c:Nat},β1 j=Ai (b,c)->w.heap.size<=b:=λ{j b c} hj=>by
  rcases p2.be j b c hj with⟨k,c',hk⟩|hk
  ·cases hk
  exact hk
 have hheap:∀b,b<w.heap.size->w'.heap[b]?=w.heap[b]?:=λb hb=>p2.out b hb λk c hk=>by cases hk
 have hle:BeLe β (λj=>if j<st.length then β j else β1 (j-st.length)):=λj y hj=>by
  grind
 have him:∀{b o:Nat},I' b o->b<w.heap.size->I b o:=λ{b o} hb hlt=>by
  rcases p2.im b o hb with h1|h1|⟨k,c,h1⟩
  ·exact h1
  ·omega
  cases h1
 refine⟨v,λj=>if j<st.length then β j else β1 (j-st.length),I',rfl,p1,⟨p2.fix,p2.size,λb hb _=>hheap b hb,p2.os,p2.tape,p2.output,p2.dr,λj b c hj=>?_,λb o hb=>?_⟩,λj y _ hj=>hle j y hj,λj b c hj=>?_,λj j' b c c' hj hj'=>?_,λj b c i e0 hj h2 h3=>?_,λj y hj=>?_,?_⟩
 ·grind
 ·grind
 ·try simp only at hj
  split at hj
  ·rename_i hjl;obtain⟨e0,h1,h2⟩:=hsr j b c hj;exact⟨e0,by rw[B6 hjl];exact h1,h2.mono (hheap b (hlt hj)) p2.fix hle⟩
  rename_i hjl;obtain⟨e0,h1,h2⟩:=p4 _ b c hj;exact⟨e0,by rw[BL (by omega)];exact h1,(hn e0 (List.mem_of_getElem? h1)).own h2⟩
 ·try simp only at hj hj'
  split at hj<;>split at hj'
  ·exact hinj j j' b c c' hj hj'
  ·grind
  ·grind
  have:=p5 _ _ b c c' hj hj';omega
 ·try simp only at hj
  split at hj
  ·rename_i hjl;rw[B6 hjl]at h2;exact hfz j b c i e0 hj h2 (him h3 (hlt hj))
  rename_i hjl;rw[BL (by omega)]at h2;exact p6 _ b c i e0 hj h2 h3
 all_goals grind [only,AD,zDy]
section
variable{T:Par}{sl:List D}{st:List Bk}
theorem Weak.leC{ej:Bk}{d d':D}(hj:st[j]?=Ai ej)(hm:ej.kd.isMap=Aa)(hi:ej.cells[i]?=Ai d)(hd:LeD d d'):Weak T sl st sl (st.set j {ej with cells:=ej.cells.set i d'}):=by
 intro β I w tm h;have hjl:j<st.length:=(List.getElem?_eq_some_iff.1 hj).1;have hget:∀k,(st.set j {ej with cells:=ej.cells.set i d'})[k]?=if k=j then Ai {ej with cells:=ej.cells.set i d'}else st[k]?:=λk=>by
  grind
 refine⟨β,I,⟨h.rel,λk b' c hk=>?_,h.inj,λk b' c o e hk he hi'=>?_,λk y hk=>?_,h.imb,h.gl⟩,Stp.refl _ _ _,Kp.refl _ _⟩
 ·obtain⟨e,k1,k2⟩:=h.sr k b' c hk;rw[hget k];by_cases hkj:k=j
  ·subst hkj;rw[hj]at k1;cases k1;refine⟨_,if_pos rfl,?_⟩;obtain⟨cur,c1,c2,c3,c4⟩:=k2.c hm;refine OwnC.r ⟨cur,c1,by simpa using c2,?_,c4⟩ hm;have hn2:({ej with cells:=ej.cells.set i d'}:Bk).nob=ej.nob:=rfl;rw[hn2];simp only[AP];refine c3.putAt λd0 v hd0 hv hr=>?_;rw[hi]at hd0;cases hd0;exact hd _ _ _ _ hr
  grind
 ·rw[hget k]at he;by_cases hkj:k=j
  ·subst hkj;rw[if_pos rfl]at he;cases he
   have:=h.fz k b' c o ej hk hj hi'
   grind
  rw[if_neg hkj]at he;exact h.fz k b' c o e hk he hi'
 rw[AP];exact h.dom k y hk
theorem LeL.setD:∀{sl:List D}{i:Nat}{d d':D},sl[i]?=Ai d->LeD d d'->LeL sl (sl.set i d')
 |[],i,d,d',h,_=>by simp at h
 |e::sl,0,d,d',h,hd=>by
  simp only[List.getElem?_cons_zero,BB.injEq]at h;subst h;exact .cons hd (AG sl)
 |e::sl,i+1,d,d',h,hd=> .cons (LeD.refl e) (LeL.setD (by simpa using h) hd)
theorem Weak.leS{d d':D}(hs:sl[s]?=Ai d)(hd:LeD d d'):Weak T sl st (sl.set s d') st:=BP (LeL.setD hs hd)
end
structure Mk where
 p:Nat
 n:Nat
 cb:Nat
 A:List (List Nat×List Rw)
 base:Nat->Bk
abbrev atN(a:List Nat×List Rw):List D:=[.row (a.1.map λv=>iD (v:Nat)) a.1.length,iD (a.1.length:Nat), .row (a.2.map rowV) a.2.length]
abbrev Mk.vs(m:Mk)(a:Nat):List Nat:=(m.A.getD a Ab).1
abbrev Mk.tr(m:Mk)(a:Nat):Tri:=zCa (m.vs a).length (m.A.getD a Ab).2
abbrev it0(t:Tri):It:=⟨t,0,0,0,fr0,0⟩
abbrev ptB(m:Mk)(al:List Nat):Bk:=⟨al.map λi=> .own ((m.p+4+m.n+5*i+4)) 0,225,1,Ac,Aa, .sh⟩
abbrev ltP(m:Mk)(ix:Nat->List Nat)(v:Nat):D:= .osl (m.p+4+v) 0 (ix v).length (ix v).length Ac
abbrev ltB(m:Mk)(ix:Nat->List Nat):Bk:=⟨(Aw m.n).map (ltP m ix),219,1,Ac,Aa, .sh⟩
abbrev joB(m:Mk):Bk:=⟨[.osl m.p 0 m.n (m.n*3) Ac, .osl (m.p+1) 0 m.n m.n Ac,iD (0:Nat), .clo (.func 135) [] [.own m.cb 0]],218,0,Aa,Aa, .plain⟩
abbrev acB(a:List Nat×List Rw):Bk:=⟨atN a,87,0,Aa,Aa, .plain⟩
abbrev coB(k:Nat):Bk:=⟨rgD k,3,1,Ac,Ac, .plain⟩
abbrev teB(t:Tri):Bk:=⟨[triC t],222,0,Aa,Aa, .plain⟩
def qatm(m:Mk)(q:Nat):Bk:=if q%5=0 then acB (m.A.getD (q/5) Ab)else if q%5=1 then coB (m.vs (q/5)).length else if q%5=4 then itK (it0 (m.tr (q/5)))else teB (m.tr (q/5))
def qblk(m:Mk)(ix:Nat->List Nat)(al:List Nat)(k:Nat):Bk:=if k<m.p then m.base k else if k=m.p then roB (AA m.n ⟨0,0,[]⟩)else if k=m.p+1 then ltB m ix else if k=m.p+2 then joB m else if k=m.p+3 then ptB m al else if k<(m.p+4+m.n)then ptB m (ix (k-(m.p+4)))else qatm m (k-(m.p+4+m.n))
def qlay(m:Mk)(ix:Nat->List Nat)(al:List Nat)(c:Nat):List Bk:=(Aw ((m.p+4+m.n)+5*c)).map (qblk m ix al)
section
variable{m:Mk}{ix:Nat->List Nat}{al:List Nat}{c:Nat}
theorem zKm:(qlay m ix al c).length=(m.p+4+m.n)+5*c:=by simp[qlay]
theorem zF3(h:k<(m.p+4+m.n)+5*c):(qlay m ix al c)[k]?=Ai (qblk m ix al k):=by simp[qlay,h]
theorem ql_t:(qlay m ix al c)[m.p+1]?=Ai (ltB m ix):=by
 grind [zF3,qblk]
theorem ql_j:(qlay m ix al c)[m.p+2]?=Ai (joB m):=by
 grind [zF3,qblk]
theorem ql_al:(qlay m ix al c)[m.p+3]?=Ai (ptB m al):=by
 grind [zF3,qblk]
theorem ql_v(h:v<m.n):(qlay m ix al c)[m.p+4+v]?=Ai (ptB m (ix v)):=by
 grind [zF3,qblk]
theorem ql_atm(h:j<5*c):(qlay m ix al c)[(m.p+4+m.n)+j]?=Ai (qatm m j):=by
 grind [zF3,qblk]
theorem zXm:qblk m ix al ((m.p+4+m.n)+j)=qatm m j:=by
 grind [qblk]
theorem ql_snoc:qlay m ix al c++[acB (m.A.getD c Ab)]++[coB (m.vs c).length]++[teB (m.tr c)]++[teB (m.tr c),itK (it0 (m.tr c))]=qlay m ix al (c+1):=by
 have e:Aw ((m.p+4+m.n)+5*(c+1))=Aw ((m.p+4+m.n)+5*c)++[(m.p+4+m.n)+5*c,(m.p+4+m.n)+(5*c+1),(m.p+4+m.n)+(5*c+2),(m.p+4+m.n)+(5*c+3),(m.p+4+m.n)+(5*c+4)]:=by
  rw[show(m.p+4+m.n)+5*(c+1)=(m.p+4+m.n)+5*c+1+1+1+1+1 by omega];rw[BC,BC,BC,BC,BC];simp[Nat.add_assoc]
 unfold qlay;rw[e,Ce];simp only[A5,Bn,B8,zXm,BG,BY];congr 1;have h0:qatm m (5*c)=acB (m.A.getD c Ab):=by unfold qatm;rw[if_pos (by omega),show 5*c/5=c by omega]
 have h1:qatm m (5*c+1)=coB (m.vs c).length:=by unfold qatm;rw[if_neg (by omega),if_pos (by omega),show(5*c+1)/5=c by omega]
 have h2:qatm m (5*c+2)=teB (m.tr c):=by unfold qatm;rw[if_neg (by omega),if_neg (by omega),if_neg (by omega),show(5*c+2)/5=c by omega]
 have h3:qatm m (5*c+3)=teB (m.tr c):=by unfold qatm;rw[if_neg (by omega),if_neg (by omega),if_neg (by omega),show(5*c+3)/5=c by omega]
 have h4:qatm m (5*c+4)=itK (it0 (m.tr c)):=by unfold qatm;rw[if_neg (by omega),if_neg (by omega),if_pos (by omega),show(5*c+4)/5=c by omega]
 rw[h0,h1,h2,h3,h4]
theorem zPi{cs:List D}(h:zX k cs=Aa):cs.map (zAl k)=cs:=by
 induction cs with
 |nil=>rfl
 |cons d cs ih=>
  simp_all [only,zX,BO,Bn,zAl]
theorem zA1(h:zX k b.cells=Aa):zAn k b=b:=by
 simp_all [zAn,zPi]
theorem zGk(m:Mk)(k:Nat)(hk:k<(m.p+4+m.n)):∀al:List Nat,zX k (al.map λi=>Ae ((m.p+4+m.n+5*i+4)) 0)=Aa
 |[]=>by simp only[B8,zX]
 |i::al=>by
  simp only[Bn,zX,refs,zGk m k hk al,AL,beq_eq_false_iff_ne];omega
structure MOk(m:Mk):Prop where
 bs:∀k,k<m.p->namB m.p (m.base k)
 cb:m.cb<m.p
theorem qb_kill(h:MOk m){k0:Nat}(h0:m.p+3<=k0)(h1:k0<(m.p+4+m.n))(hk:k≠m.p+1):zAn k0 (qblk m ix al k)=qblk m ix al k:=by
 have hcb:=h.cb;unfold qblk;simp only[if_neg hk];split
 ·rename_i hp;exact zSg (h.bs k hp) (by omega)
 split
 ·exact zB7 rfl
 split
 ·refine zA1 ?_;simp only[zX,refs,AL,BF,BO,beq_eq_false_iff_ne];omega
 split
 ·grind [zA1,zGk]
 split
 ·grind [zA1,zGk]
 unfold qatm;split
 ·simp_all [zA1,only,zX,refs,AL]
 split
 ·exact zB7 rfl
 split
 ·exact zA1 (zMm (zBd _) k0)
 simp_all [zA1,only,zX,refs,AL]
theorem lt_kill(k0:Nat)(h0:k0=m.p+3):zAn k0 (ltB m ix)=ltB m ix:=by
 subst h0;refine zA1 ?_;show zX (m.p+3) ((Aw m.n).map (ltP m ix))=Aa;have key:∀ls:List Nat,zX (m.p+3) (ls.map (ltP m ix))=false:=by
  intro ls;induction ls with
  |nil=>simp only[B8,zX]
  |cons v ls ih=>
   simp only[Bn,zX,refs,ih,AL,beq_eq_false_iff_ne];omega
 exact key _
theorem ql_all(h:MOk m)(al':List Nat):((qlay m ix al c).map (zAn (m.p+3))).set (m.p+3) (ptB m al')=qlay m ix al' c:=by
 apply AM;intro j;rw[Bo,A4,zKm];split
 ·grind [ql_al]
 rename_i e;rw[Bi];rcases Az j ((m.p+4+m.n)+5*c)with hj|hj
 ·rw[zF3 hj,zF3 hj,BA];congr 1;have e2:qblk m ix al' j=qblk m ix al j:=by
   grind [qblk]
  rw[e2];by_cases hj1:j=m.p+1
  ·subst hj1;have:qblk m ix al (m.p+1)=ltB m ix:=by unfold qblk;rw[if_neg (by omega),if_neg (by omega),if_pos rfl]
   rw[this];exact lt_kill _ rfl
  exact qb_kill h (Au _) (by omega) hj1
 grind [AU,zKm]
theorem ql_mk(h:MOk m)(hv:v<m.n)(b:Bk):(((qlay m ix al c).map (zAn (m.p+4+v))).set (m.p+4+v) b)[m.p+1]?=Ai ⟨((Aw m.n).map (ltP m ix)).map (zAl (m.p+4+v)),219,1,Ac,Aa, .sh⟩:=by
 rw[BN (by omega),Bi,ql_t];rfl
theorem ql_app(h:MOk m)(hv:v<m.n)(i:Nat):(((qlay m ix al c).map (zAn (m.p+4+v))).set (m.p+4+v) (ptB m (ix v++[i]))).set (m.p+1) ⟨(((Aw m.n).map (ltP m ix)).map (zAl (m.p+4+v))).set v (.osl (m.p+4+v) 0 ((ix v).length+1) ((ix v).length+1) Ac),219,1,Ac,Aa, .sh⟩=qlay m (λw=>if w=v then ix v++[i]else ix w) al c:=by
 apply AM;intro j;rw[Bo,AP,A4,zKm];split
 ·rename_i e;subst e;rw[if_pos (by omega),ql_t];congr 2;apply AM;intro w;rw[Bo,A4,A4,BU];split
  ·grind
  rename_i e;rw[Bi,Bi,Bi];rcases Az w m.n with hw|hw
  ·rw[Ck hw];simp only[BA,ltP,if_neg (Ne.symm e)];unfold zAl;rw[show refs (m.p+4+v) (.osl (m.p+4+w) 0 (ix w).length (ix w).length Ac)=Aa by simp only[refs,beq_eq_false_iff_ne];omega];rfl
  grind
 rename_i e;rw[Bo,A4,zKm];split
 ·grind [ql_v,only]
 grind [Az,zF3,qb_kill,qblk,only,AU,zKm]
theorem ql_nam(h:MOk m)(hal:∀i∈al,i<c)(hix:∀v,∀i∈ix v,i<c):∀b∈qlay m ix al c,namB ((m.p+4+m.n)+5*c) b:=λb hb=>by
 obtain⟨k,hk,rfl⟩:=BM.1 hb;have hcb:=h.cb;have hptr:∀al:List Nat,(∀i∈al,i<c)->namB ((m.p+4+m.n)+5*c) (ptB m al):=λal h=> .inr λj hj=>by
  refine zCz _ λi hi=>?_;have key:∀al:List Nat,(∀i∈al,i<c)->∀i∈ownL (al.map λi=>Ae ((m.p+4+m.n+5*i+4)) 0),i<(m.p+4+m.n)+5*c:=by
   intro al;induction al with
   |nil=>intro _ i hi;simp[ownL]at hi
   |cons a al ih=>
    intro h i hi;have ha:=h a (by simp);simp only[Bn,ownL,ownN,List.singleton_append,Bs]at hi;rcases hi with rfl|hi
    ·omega
    exact ih (λi hi=>h i (by simp[hi])) i hi
  have:=key al h i hi
  omega
 unfold qblk;split
 ·rename_i hp;exact(h.bs k hp).imp id λh j hj=>h j (by omega)
 split
 ·exact .inl rfl
 split
 ·refine .inr λj hj=>?_;have key:∀ls:List Nat,(∀v∈ls,v<m.n)->zX j (ls.map (ltP m ix))=false:=by
   intro ls;induction ls with
   |nil=>intro _;simp only[B8,zX]
   |cons v ls ih=>
    intro h
    have:=h v (by simp)
    simp only[Bn,zX,refs,ih λv hv=>h v (by simp[hv]),AL,beq_eq_false_iff_ne];omega
  exact key _ λv hv=>AR.1 hv
 split
 ·refine .inr λj hj=>?_;simp only[zX,refs,AL,BF,BO,beq_eq_false_iff_ne];omega
 split
 ·exact hptr al hal
 split
 ·exact hptr _ (hix _)
 unfold qatm;split
 ·exact .inr λj _=>by simp only[zX,refs,AL]
 split
 ·exact .inl rfl
 split
 ·exact .inr λj _=>zMm (zBd _) j
 exact .inr λj _=>by simp only[zX,refs,AL]
end
def callO(P:Program)(T:Par)(l:List Oper)(sl:List D):Option (FuncId×List D):=match l with
 |[]=>AO
 | o ::_=>match o.guard with
  |some _=>AO
  | none=>match o.op with
   | .call c=>match c.callee with
    | .value (.func f)=>match P.funcs[f]? with
     |none=>AO
     |some fn=>if fn.name== "runtime.NumGoroutine" ||fn.body.isNone then AO else if T.imp f then AO else Ai (f,c.args.toList.map (evD sl))
    |_=>AO
   |_=>AO
theorem st_callo{l:List Oper}(f:FuncId)(args xs:List D)(ks:List Nat)(h:callO P T l sl=Ai (f,args))(hf:mapF (frz Ac st zAe) args=Ai (xs,ks))(hp:Pure P f xs [] x)(next:seqW P T ops dr l.tail (putD sl (hdst l) x) (zA0 st ks) K):seqW P T ops dr l sl st K:=by
 unfold callO at h;split at h
 ·cases h
 rename_i o r;split at h
 ·cases h
 rename_i hg;split at h
 ·rename_i c ho;split at h
  ·rename_i f1 hc;split at h
   ·cases h
   rename_i fn hfn;split at h
   ·cases h
   rename_i hb;split at h
   ·cases h
   rename_i hi;cases h;have he:aeff P T o.op o.type (evD sl) st= .call f xs ks:=by
    grind [only,aeff,evD,zHk]
   refine zDp hg<|go_call he ?_ hp rfl rfl next;rw[ho];obtain⟨cc,ca,ct⟩:=c;simp only at hc;subst hc;rfl
  cases h
 cases h
def stCs(p n k:Nat):List D:=(Aw n).map λv=>if v<k then .osl (p+4+v) 0 0 0 Ac else nlD
theorem zK3(p n k v:Nat):(stCs p n k)[v]?=if v<n then Ai (if v<k then .osl (p+4+v) 0 0 0 Ac else nlD)else none:=by
 grind [stCs,AU]
theorem zWu{T:Par}{sl:List D}(st0:List Bk)(B0 B2:Bk)(R:List Bk)(p n:Nat)(hp:st0.length=p):∀k,k<=n->Weak T sl (st0++[B0,⟨stCs p n 0,219,1,Ac,Aa, .sh⟩,B2]++R) sl (st0++[B0,⟨stCs p n k,219,1,Ac,Aa, .sh⟩,B2]++R)
 |0,_=>Weak.refl _ _
 | k+1,hk=>by
  refine(zWu st0 B0 B2 R p n hp k (by omega)).trans ?_;have hg:(st0++[B0,(⟨stCs p n k,219,1,Ac,Aa, .sh⟩:Bk),B2]++R)[p+1]?=Ai ⟨stCs p n k,219,1,Ac,Aa, .sh⟩:=by
   grind
  have h:=Weak.leC (T:=T) (sl:=sl) (j:=p+1) (i:=k) hg rfl (by show(stCs p n k)[k]?=_;rw[zK3,if_pos (by omega),if_neg (by omega)]) (LeD.nil (p+4+k) Ac);have e1:(stCs p n k).set k (.osl (p+4+k) 0 0 0 Ac)=stCs p n (k+1):=by
   apply AM;grind [zK3,stCs]
  grind
theorem zZ1(m:Mk)(st0:List Bk)(s:Nat)(hp:st0.length=m.p)(hb:∀k,k<m.p->st0[k]?=Ai (m.base k))(hs:sl[s]?=Ai nlD)(dead:List Nat)(sl':List D)(e:zAr (sl.set s (.osl (m.p+3) 0 0 0 Ac)) dead=sl')(k:awp P T c Q sl' (qlay m (λ_=>[]) [] 0)):
  zAi P T c Q sl (st0++[roB (AA m.n ⟨0,0,[]⟩),⟨repL m.n [nlD],219,1,Ac,Aa, .sh⟩,joB m]):=by
 subst e;refine⟨_,_,?_,k⟩;have er:repL m.n [nlD]=stCs m.p m.n 0:=by
  apply AM;grind [zK3,zFc]
 rw[er];refine(Weak.more (AA (m.n+1) (ptB m []))).trans ((zWu st0 _ _ _ m.p m.n hp m.n (Au _)).trans ?_);refine Weak.trans (sl':=sl.set s (.osl (m.p+3) 0 0 0 Ac)) (Weak.leS hs (LeD.nil (m.p+3) Ac)) ?_;have:st0++[roB (AA m.n ⟨0,0,[]⟩),(⟨stCs m.p m.n m.n,219,1,Ac,Aa, .sh⟩:Bk),joB m]++AA (m.n+1) (ptB m [])=qlay m (λ_=>[]) [] 0:=by
  apply AM;intro j;rcases Az j m.p with hj|hj
  ·grind [A5,B6,zF3,qblk]
  rw[A5,BL (by omega),hp];rcases Az j (m.p+4+m.n)with hj2|hj2
  ·rw[zF3 (by omega)];unfold qblk;rw[if_neg (by omega)];obtain⟨i,rfl⟩:∃i,j=m.p+i:=⟨j-m.p,by omega⟩;rw[show m.p+i-m.p=i by omega];match i with
   |0=>rw[if_pos (by omega)];rfl
   |1=>
    rw[if_neg (by omega),if_pos rfl];show Ai _=Ai _;congr 2;apply AM;grind [zK3,Ck,AU]
   |2=>rw[if_neg (by omega),if_neg (by omega),if_pos rfl];rfl
   |i+3=>
    grind
  grind [AU,zKm]
 grind [BP,LeL.dead]
theorem bld_sz:∀(L:List Rw)(last:List Va)(t:Tri)(B:Nat),SzT B t->SzT (B+L.length) (bldT last L t)
 |[],_,_,_,h=>h
 |x::L,last,t,B,h=>by
  rw[bldT,AZ,show B+(L.length+1)=B+1+L.length by omega];exact bld_sz L x _ (B+1) (zZh _ _ _ h)
theorem zYs{B:Nat}{t:Tri}(h:SzT B t):∀l,SzT (B+l) ((AI 0 l).foldl stF t)
 |0=>h
 |l+1=>by
  rw[Cj,BR];exact stF_sz (zYs h l)
theorem zW4(n:Nat)(L:List Rw):SzT (L.length+n) (zCa n L):=by
 have h0:SzT 0 (AA n (([],[]):List Va×List Nat)):=λk=>by
  grind [zP4]
 have h1:=bld_sz L [] _ 0 h0;rw[AV]at h1;have h2:=zYs h1 n;have h3:=foldF (bldT [] L (AA n ([],[])));rw[zLe,Bh]at h3;rw[h3]at h2;exact h2
abbrev itS(m:Mk):List It:=(Aw m.A.length).map λi=>it0 (m.tr i)
abbrev S0(m:Mk):Js:=⟨itS m,AA m.n ⟨0,0,[]⟩,0,[]⟩
structure AOk(m:Mk):Prop where
 n:m.n<=32
 na:m.A.length<=1000
 p:m.p<=50000
 v:Vok m.n m.A.length m.vs
 r:∀a∈m.A,a.2.length<=65536/\(∀r∈a.2,r.length=a.1.length)/\Rsc a.2
theorem AOk.get{m:Mk}(h:AOk m)(ha:a<m.A.length):m.A.getD a Ab∈m.A:=by
 grind
theorem zHg{n:Nat}:∀{l:List Nat}(b:Nat),l.Pairwise (· <·)->(∀w∈l,b<=w/\w<n)->l.length<=n-b
 |[],b,_,_=>Bf _
 |w::l,b,h,k=>by
  obtain⟨h1,h2⟩:=A8.1 h;have hw:=k w (by simp)
  have:=zHg (n:=n) (w+1) h2 λu hu=>⟨h1 u hu,(k u (by simp[hu])).2⟩
  rw[AZ];omega
theorem AOk.vl{m:Mk}(h:AOk m)(ha:a<m.A.length):(m.vs a).length<=32:=by
 have h1:=zHg (n:=m.n) 0 (h.v.asc a ha) λw hw=>⟨Bf _,h.v.lt a ha w hw⟩;have h2:=h.n;exact Ax h1 (by omega)
theorem zQ0(m:Mk)(ha:a<m.A.length):(itS m).getD a Ab=it0 (m.tr a):=by
 grind
theorem itS_at{m:Mk}(h:AOk m)(hne:∀a∈m.A,a.2≠[]):AtV m.A.length m.vs 0 (itS m) where
 len:=by simp
 one a ha:=by
  obtain⟨h1,h2,h3⟩:=h.r _ (h.get ha)
  have hc:cnt m.vs a 0=0:=by simp[cnt]
  rw[zQ0 m ha,hc]
  refine⟨zHs _ _,rfl,by simp,h.vl ha,λhd=>?_,λh=>absurd h (Nat.lt_irrefl _)⟩
  exact trie_sib _ (Nat.pos_of_ne_zero hd) _ h2 h3 (hne _ (h.get ha))
theorem itS_bd{m:Mk}(h:AOk m):Bds m.A.length (itS m):=λa ha=>by
 obtain⟨h1,h2,h3⟩:=h.r _ (h.get ha);have hz:=zW4 (m.vs a).length (m.A.getD a Ab).2;have hl:=h.vl ha;rw[zQ0 m ha];refine⟨λk=>Ax (hz k).1 ?_,λk=>Ax (hz k).2.1 ?_,λk c hc=>Ax ((hz k).2.2 c hc) ?_,?_,by simp⟩
 ·omega
 ·omega
 ·omega
 exact Ax (Nat.le_of_eq (zHs _ _)) hl
theorem itS_sz{m:Mk}(h:AOk m)(hM:∀a∈m.A,a.2.length+m.n<=M):Szs m.A.length M (itS m):=λa ha k=>by
 have hz:=zW4 (m.vs a).length (m.A.getD a Ab).2;have h1:=zHg (n:=m.n) 0 (h.v.asc a ha) λw hw=>⟨Bf _,h.v.lt a ha w hw⟩;have h2:=hM _ (h.get ha);rw[zQ0 m ha];refine Ax (hz k).1 ?_;omega
structure YbOk(m:Mk)(ch:List Nat)(yb:List (List Va)->Nat->Option Bk):Prop where
 c:∀k∈ch,k<m.p
 cb:m.cb∉ch
 b:∀ys k b,yb ys k=Ai b->k<m.p/\namB m.p b
 z:∀k b,yb [] k=Ai b->b=m.base k
def qL(m:Mk)(ch:List Nat)(yb:List (List Va)->Nat->Option Bk):Lay:=⟨m.p+4+m.n+5*m.A.length,m.A.length,m.n,m.p+2,m.p,m.p+1,λv=>m.p+4+v,λi=>m.p+4+m.n+5*i+4,m.vs,m.cb,ch,yb,qblk m (ats m.A.length m.vs) (Aw m.A.length)⟩
section
variable{m:Mk}{ch:List Nat}{yb:List (List Va)->Nat->Option Bk}
theorem zTr(h:YbOk m ch yb)(ys:List (List Va))(hk:m.p<=k):yb ys k=none:=by
 cases e:yb ys k with
 |none=>rfl
 |some b=>exact absurd (h.b ys k b e).1 (by omega)
theorem qL_ok(hm:MOk m)(ha:AOk m)(h:YbOk m ch yb):LOk (qL m ch yb) where
 sm:=by have:=ha.p;have:=ha.n;have:=ha.na;show m.p+4+m.n+5*m.A.length<=100000;omega
 jb:=by show m.p+2<m.p+4+m.n+5*m.A.length;omega
 rb:=by show m.p<m.p+4+m.n+5*m.A.length;omega
 tb:=by show m.p+1<m.p+4+m.n+5*m.A.length;omega
 jr:=by show m.p≠m.p+2;omega
 ib i hi:=by
  have hi:i<m.A.length:=hi
  show m.p+4+m.n+5*i+4<m.p+4+m.n+5*m.A.length/\m.p+4+m.n+5*i+4≠m.p+2/\m.p+4+m.n+5*i+4≠m.p
  omega
 ii i j hi hj e:=by
  have e:m.p+4+m.n+5*i+4=m.p+4+m.n+5*j+4:=e
  omega
 ts:=by
  refine⟨by show m.p+1≠m.p+2;omega,by show m.p+1≠m.p;omega,λi hi=>by show m.p+4+m.n+5*i+4≠m.p+1;omega,?_,λys=>zTr h ys (by show m.p<=m.p+1;omega)⟩
  show qblk m _ _ (m.p+1)=_
  unfold qblk
  rw[if_neg (by omega),if_neg (by omega),if_pos rfl];rfl
 ab v hv:=by
  have hv:v<m.n:=hv
  refine⟨by show m.p+4+v<m.p+4+m.n+5*m.A.length;omega,by show m.p+4+v≠m.p+2;omega,by show m.p+4+v≠m.p;omega,λi hi=>by show m.p+4+m.n+5*i+4≠m.p+4+v;omega,?_,λys=>zTr h ys (by show m.p<=m.p+4+v;omega)⟩
  show qblk m _ _ (m.p+4+v)=_
  unfold qblk
  rw[if_neg (by omega),if_neg (by omega),if_neg (by omega),if_neg (by omega),if_neg (by omega),if_pos (by omega),show m.p+4+v-(m.p+4)=v by omega];rfl
 ch k hk:=by
  have:=h.c k hk
  refine⟨by show k≠m.p+2;omega,by show k≠m.p;omega,by show k≠m.p+1;omega,λv hv=>by show k≠m.p+4+v;omega,λi hi=>by show k≠m.p+4+m.n+5*i+4;omega⟩
 cb:=⟨by have:=hm.cb;show m.cb<m.p+4+m.n+5*m.A.length;omega,h.cb⟩
 nb k hk:=ql_nam (m:=m) (ix:=ats m.A.length m.vs) (al:=Aw m.A.length) (c:=m.A.length) hm (λi hi=>AR.1 hi) (λv i hi=>AR.1 (List.mem_filter.1 hi).1) _ (List.mem_of_getElem? (zF3 hk))
 ny ys k b e:=by
  obtain⟨h1,h2⟩:=h.b ys k b e
  exact h2.imp id λh j hj=>h j (by have hj:m.p+4+m.n+5*m.A.length<=j:=hj;omega)
theorem qL_lay(h:YbOk m ch yb):lay (qL m ch yb) (S0 m)=qlay m (ats m.A.length m.vs) (Aw m.A.length) m.A.length:=by
 unfold lay qlay;refine B9 λk hk=>?_;have hk:k<m.p+4+m.n+5*m.A.length:=AR.1 hk;by_cases h1:k=m.p+2
 ·subst h1;refine(blk_j (L:=qL m ch yb)).trans ?_;unfold qblk;rw[if_neg (by omega),if_neg (by omega),if_neg (by omega),if_pos rfl];rfl
 by_cases h2:k=m.p
 ·grind [blk,qL,qblk]
 unfold blk;rw[if_neg (show¬k=(qL m ch yb).jb from h1),if_neg (show¬k=(qL m ch yb).rb from h2)];split
 ·rename_i i hi;have hi1:=AR.1 (List.mem_of_find?_eq_some hi);have hi2:=List.find?_some hi;simp only[beq_iff_eq]at hi2;have hi1:i<m.A.length:=hi1;have hi2:m.p+4+m.n+5*i+4=k:=hi2;subst hi2;rw[show m.p+4+m.n+5*i+4=m.p+4+m.n+(5*i+4) by omega,zXm];unfold qatm;grind
 show(yb [] k).getD (qblk m _ _ k)=_;cases e:yb [] k with
 |none=>rfl
 |some b=>
  have hb:=h.z k b e;have hk2:=(h.b [] k b e).1;grind [qblk]
end
section
variable{P:Program}{T:Par}{ops:Array Oper}{dr:Bool}{l:List Oper}{sl:List D}{st:List Bk}{K:List D->List Bk->Prop}
theorem zYf{sl:List D}(h:sl[s]?=Ai x)(hr:zAl k x= .unk):(sl.set s .unk).map (zAl k)=sl.map (zAl k):=by
 grind [List.map_set,zAl,zRs]
theorem zQw{b:Bool}:zAl k (.osl k o n m b)= .unk:=by
 unfold zAl;simp only[refs,beq_self_eq_true,if_true]
theorem st_appo1(b e:Bk)(s1 k j:Nat)(p C:Prop)(b':Bk)(d':D)(s2:Nat)(x2:D)(h:appL P T l sl b e=Ai (s1,k,j,p,b',d'))(hk:st[k]?=Ai b)(hj:st[j]?=Ai e)(hp:p)(h2:(sl.set s1 .unk)[s2]?=Ai x2)(hr2:zAl k x2= .unk)(hC:nes k (ownL ((sl.set s1 .unk).set s2 .unk))=C)(hc:C)(hkp:T.keep k=Aa)
  (next:seqW P T ops dr l.tail (putD ((sl.set s1 .unk).set s2 .unk) (hdst l) d') ((st.map (zAn k)).set k b') K):seqW P T ops dr l sl st K:=by
 unfold appL at h;split at h
 ·cases h
 rename_i o r;split at h
 ·cases h
 rename_i hg;split at h
 ·rename_i c ho;split at h
  ·rename_i hcl;split at h
   ·rename_i t u s1' x hat har;split at h
    ·rename_i et et' ht hu;split at h
     ·rename_i i z k1 n mm j1 off m1 m2 wh hi hz hs hx;split at h
      ·cases h
      rename_i hm;split at h
      ·rename_i hn;simp only[BB.injEq,Prod.mk.injEq]at h;obtain⟨rfl,rfl,rfl,rfl,rfl,rfl⟩:=h;have hmf:(!e.kd.isMap)=true:=by simpa using hm
       have he:aeff P T o.op o.type (evD sl) st= .app (b.arr=Ac/\b.cells.length=n*i.size/\mm=n*i.size/\b.ty=et/\b.sz=i.size/\((e.cells.drop off).take m2).length=m1*i.size/\0<i.size/\0<i.bytes/\et=et'/\(n+m1)*i.bytes<=140737488355328/\z.length=i.size/\b.kd.isMap=Aa/\(zCt P T t=Aa\/b.kd.isSh=Ac))
         k1 {b with cells:=if b.nob then b.cells++(e.cells.drop off).take m2 else(b.cells++(e.cells.drop off).take m2).map (zAl k1)} (.osl k1 0 (n+m1) ((n+m1)*i.size) Ac):=by
        rw[ho];simp only[aeff,hcl,hat,har,zGg,ht,hu,hi,hz,hs,hx,unB,zE7,hj,hmf,if_true,hn,aApp,hk]
       refine zDp hg<|go_app he ?_ hkp hp rfl rfl ?_
       ·rw[ho];obtain⟨cc,ca,ct⟩:=c;simp only at hcl;subst hcl;rfl
       have hkl:sl.map (zAl k1)=(sl.set s1' .unk).set s2 .unk:=by
        have h3:=zQx (by rw[hC];exact hc:nes k1 (ownL ((sl.set s1' .unk).set s2 .unk)));rw[zYf h2 hr2,zYf (x:= .osl k1 0 n mm Ac) ?_ zQw]at h3
        ·exact h3
        have hl:s1'<sl.length:=by
         rcases Az s1' sl.length with hl|hl
         ·exact hl
         simp only[evD,AW,AU hl]at hs;cases hs
        simp only[evD,AW,Br hl,Option.getD_some]at hs;grind
       rw[hkl];exact next
      cases h
     cases h
    cases h
   cases h
  cases h
 cases h
end
end
end Go.Proofs.YtjcofbkhoeockaaGreatDoor
