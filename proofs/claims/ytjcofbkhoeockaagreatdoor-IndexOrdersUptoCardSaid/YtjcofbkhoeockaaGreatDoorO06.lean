/- Texts of this claim, joined: BaP BbP BcP Dck VdP Ca Dcv Dca EvP Dew Dod EdP TcP TuP SeP TtP OrP OrQ OrR OrS Doe -/
import Derived.Test.YtjcofbkhoeockaaGreatDoorO05
import Derived.Test.YtjcofbkhoeockaaGreatDoorProg
set_option linter.unusedVariables false
set_option linter.unusedSimpArgs false
namespace Go.Proofs.YtjcofbkhoeockaaGreatDoor
open _root_.Bool renaming true->Aa,false->Ab,eq_false_iff->Bp,or_eq_true->Bv,and_eq_true->BB
open _root_.List renaming length->Ad,map->Ae,drop->Ai,range->Ak,reverse->Al,mem_map->Ao,take->Aq,getElem?_eq_getElem->As,mem_range->Au,map_congr_left->Aw,mem_cons->Az,length_map->AA,mem_filter->AB,mem_cons_of_mem->AC,getD_eq_getElem?_getD->AE,reverse_reverse->AG,mem_cons_self->AH,map_map->AI,flatMap->AM,drop_zero->AN,mem_append_left->AP,map_cons->AQ,Nodup->AS,getElem_mem->AT,map_append->AW,foldr_cons->AY,pairwise_map->AZ,mem_singleton->A1,nodup_nil->A7,reverse_cons->A8,length_reverse->A9,mem_flatMap->A_,ext_getElem->Ba,nodup_range->Bf,all_eq_true->Bh,take_of_length_le->Bi,any_eq_true->Bl,cons->Bm,filter_eq_self->Bo,mem_reverse->Bq,getElem_of_mem->Br,nodup_cons->Bs,foldl_cons->Bt,flatMap_map->Bx,headD->By,pairwise_cons->BA,filter->BG,exists_mem_of_ne_nil->BH,length_cons->BI,take_length->BK,range_succ->BL,pairwise_iff_getElem->BM,not_mem_nil->BN,getElem?_reverse->BO,perm_ext_iff_of_nodup->BP,eq_nil_or_concat->BQ,concat_eq_append->BR,append_inj_right'->BS,filter_congr->BT,mem_of_find?_eq_some->BV,mem_take_iff_getElem->BW,findIdx?_eq_none_iff->BY,eq_nil_of_length_eq_zero->BZ
open D renaming row->Af,agg->Am,own->An,osl->AD,val->AF
open _root_.Inhabited renaming default->Ag
open _root_.Go.Proofs.Tryz renaming prog->Ah
open _root_.Option renaming some->Aj,map_eq_some_iff->BU
open _root_.Nat renaming le_refl->Ap,le_trans->Ar,lt_or_ge->AJ,pow_le_pow_right->AL,one_mul->AU,zero_le->AX,mul_le_mul_right->A0,mul_comm->Bb,mul_assoc->Bc,lt_of_lt_of_le->Bw,mul_le_mul_left->BJ
open Kd renaming plain->Ax
open Bk renaming cells->Ay,mk->AK
open _root_.Int renaming toNat->AO
open _root_.Prod renaming fst->AR
open Value renaming bool->AV,int->A3,string->A5
open _root_.Classical renaming choose->A2,byContradiction->Bz,choose_spec->BX
open IntKind renaming i64->A4
open LeL renaming of_eq->A6
open Weak renaming nilC->Bj
open LeD renaming nil_row->Bn
open TypeInfo renaming desc->BC,mk->BD
open TypeDesc renaming string->BE
open _root_.ByteArray renaming mk->BF
open Go.RowKit
theorem jn_all{s:Nat}{A:List (List Nat×List Rw)}(Q:Va->Prop)(hao:AOk (mkP s A))(hR:∀a∈A,∀r∈a.2,r.length=a.1.length/\∀v∈r,Q v):∀x∈jn (mkP s A),x.length=(zAo s).length/\∀v∈x,Q v:=λx hx=>by
 obtain⟨h1,h2⟩:=((zFh hao).2 x).1 hx;refine⟨h1,λv hv=>?_⟩;obtain⟨w,hw,rfl⟩:=Br hv;have h1':x.length=(mkP s A).n:=h1;obtain⟨a,ha,hm⟩:=hao.v.cov w (by omega);have h3:=h2 a ha;have ha2:a<A.length:=by
  have:(mkP s A).A.length=A.length:=AA _;omega
 have hpa:(mkP s A).A.getD a Ag=zBe s (A.getD a Ag):=zEn s A ha2;rw[hpa]at h3;obtain⟨q,hq,e⟩:=Ao.1 (zH1.1 h3);have hmem:x[w]∈prj (mkP s A).vs a 0 x:=Ao.2 ⟨w,AB.2 ⟨hm,by simp⟩,by rw[AE,As hw];rfl⟩;rw[<-e]at hmem;have hA:A.getD a Ag∈A:=by rw[AE,As ha2];exact AT ha2
 obtain⟨q1,q2⟩:=hR _ hA q hq;obtain⟨c,hc,e2⟩:=Ao.1 hmem;have hc2:=zJ7 _ _ c hc;rw[<-e2];refine q2 _ ?_;rw[AE,As (by omega:c<q.length)];exact AT _
theorem zN0{α:Type}[DecidableEq α]:∀{L M:List α},L.Nodup->(∀x∈L,x∈M)->L.length<=M.length
 |[],_,_,_=>AX _
 |a::L,M,hn,h=>by
  obtain⟨h1,h2⟩:=Bs.1 hn;have ha:=h a (AH ..)
  have:=zN0 (L:=L) (M:=M.erase a) h2 λx hx=>(List.mem_erase_of_ne (λe=>h1 (by rw[<-e];exact hx))).2 (h x (AC _ hx))
  grind
def cart{α:Type}:List (List α)->List (List α)
 |[]=>[[]]
 |l::ls=>l.flatMap λa=>(cart ls).map (a::·)
theorem zYe{α:Type}:∀ls:List (List α),(cart ls).length=(ls.map (·.length)).foldr (· *·) 1
 |[]=>rfl
 |l::ls=>by
  rw[cart,AQ,AY,<-zYe ls];induction l<;>grind
theorem zYd{α β:Type}(f:β->α)(L:β->List α):∀B:List β,(∀a∈B,f a∈L a)->B.map f∈cart (B.map L)
 |[],_=>by simp[cart]
 |a::B,h=>by
  rw[AQ,AQ,cart,A_];exact⟨f a,h a (AH ..),Ao.2 ⟨_,zYd f L B λb hb=>h b (AC _ hb),rfl⟩⟩
theorem zTy{β:Type}(f g:β->Nat):∀B:List β,(∀a∈B,f a<=g a)->(B.map f).foldr (· *·) 1<=(B.map g).foldr (· *·) 1
 |[],_=>Ap _
 |a::B,h=>by
  rw[AQ,AQ,AY,AY];exact Nat.mul_le_mul (h a (AH ..)) (zTy f g B λb hb=>h b (AC _ hb))
def combs(A:List (List Nat×List Rw)):Nat:=(A.map λa=>max 1 a.2.length).foldr (· *·) 1
theorem jn_len{s:Nat}{A:List (List Nat×List Rw)}(hao:AOk (mkP s A)):(jn (mkP s A)).length<=combs A:=by
 have hsp:=zFh hao;generalize hm:mkP s A=m at*;let code:Rw->List Rw:=λx=>(Ak m.A.length).map λa=>prj m.vs a 0 x;have hnd:(jn m).Nodup:=(hsp.1).imp λ{a b} h e=>by
  grind [zBk]
 have hinj:∀x y,x∈jn m->y∈jn m->code x=code y->x=y:=λx y hx hy e=>by
  obtain⟨x1,_⟩:=(hsp.2 x).1 hx;obtain⟨y1,_⟩:=(hsp.2 y).1 hy;apply Ba (by omega);intro w h1 h2;obtain⟨a,ha,hmem⟩:=hao.v.cov w (by omega);have e2:prj m.vs a 0 x=prj m.vs a 0 y:=by
   have:=congrArg (λl=>l.getD a []) e
   grind
  have:=List.map_inj_left.1 e2 w (AB.2 ⟨hmem,by simp⟩)
  grind
 have hnd2:((jn m).map code).Nodup:=by
  rw[AS,AZ];exact hnd.imp_of_mem λ{x y} hx hy hne e=>hne (hinj x y hx hy e)
 have h1:=zN0 (M:=cart ((Ak m.A.length).map λa=>(m.A.getD a Ag).2)) hnd2 λz hz=>by
  grind [zYd]
 rw[AA,zYe,AI]at h1;refine Ar h1 ?_;have e:(Ak m.A.length).map ((λl:List Rw=>l.length)∘λa=>(m.A.getD a Ag).2)=m.A.map λa=>a.2.length:=by
  apply Ba (by simp);grind
 rw[e,<-hm];show((A.map (zBe s)).map λa=>a.2.length).foldr (· *·) 1<=_;rw[AI];exact zTy _ _ A λa _=>Ar (zK0 s a) (Nat.le_max_right _ _)
abbrev Tbs:=(Nat->List Rw)×(Nat->List (Rw×Nat))
def tabS(b:Bd)(v:Nat)(p:Tbs):Tbs:=(λc=>if c=v then redK (λx=>wtL b.f p.1 p.2 x (chV b v)) (keyC b v) (b.R.getD v Ag).2 else p.1 c,λc=>if c=v then totL (grpL (b.desc.getD v Ab) (λx=>wtL b.f p.1 p.2 x (chV b v)) (b.R.getD v Ag).2)else p.2 c)
def tab(b:Bd)(O:List Nat):Nat->Tbs
 |0=>(λ_=>[],λ_=>[])
 |i+1=>tabS b (O.getD i 0) (tab b O i)
theorem wtL_ext{f:Nat}{V V':Nat->List Rw}{T T':Nat->List (Rw×Nat)}{x:Rw}{ch:List (Nat×List Nat)}(h:∀c∈ch,V c.1=V' c.1/\T c.1=T' c.1):wtL f V T x ch=wtL f V' T' x ch:=by
 grind [wtL,Aw,wone]
section
variable {b : Bd} {O : List Nat} (hO : Ook b.n O) (hch : ∀ v, v < b.n → ∀ c ∈ chV b v, c.1 < b.n ∧ O.idxOf c.1 < O.idxOf v)
include hO
theorem zNm{c i j:Nat}(hc:c<b.n)(h:O.idxOf c<i)(hij:i<=j)(hj:j<=b.n):(tab b O j).1 c=(tab b O i).1 c/\(tab b O j).2 c=(tab b O i).2 c:=by
 induction j with
 |zero=>omega
 | succ j ih=>
  rcases AJ j i with h1|h1
  ·grind
  have hne:c≠O.getD j 0:=λe=>by
   have:=(hO.at (show j<b.n by omega)).2
   rw[<-e]at this;omega
  grind [tab,tabS,only]
include hch
theorem tab_eq{v:Nat}(hv:v<b.n):(tab b O b.n).1 v=redK (λx=>wtL b.f (tab b O b.n).1 (tab b O b.n).2 x (chV b v)) (keyC b v) (b.R.getD v Ag).2/\(tab b O b.n).2 v=totL (grpL (b.desc.getD v Ab) (λx=>wtL b.f (tab b O b.n).1 (tab b O b.n).2 x (chV b v)) (b.R.getD v Ag).2):=by
 obtain⟨h1,h2⟩:=hO.ix hv;obtain⟨e1,e2⟩:=zNm hO hv (Nat.lt_succ_self (O.idxOf v)) (Nat.succ_le_of_lt h1) (Ap _);have e3:(λx=>wtL b.f (tab b O b.n).1 (tab b O b.n).2 x (chV b v))=λx=>wtL b.f (tab b O (O.idxOf v)).1 (tab b O (O.idxOf v)).2 x (chV b v):=funext λx=>wtL_ext λc hc=>by
  obtain⟨c1,c2⟩:=hch v hv c hc;exact zNm hO c1 c2 (by omega) (Ap _)
 simp_all [tab,tabS,only]
end
def exB:Nat->Nat
 |0=>1
 |i+1=>1+(i+1)*exB i
theorem zQs{i j:Nat}(h:i<=j):exB i<=exB j:=by
 induction h with
 |refl=>exact Ap _
 |step _ ih=>
  grind [Ar,exB,Nat.succ_mul]
theorem zVe{B:Nat}(hB:1<=B):∀(l:List Nat)(a:Nat),(∀x∈l,x<=B)->l.foldl (· *·) a<=a*B^l.length
 |[],a,_=>by simp
 |x::l,a,h=>by
  rw[Bt];refine Ar (zVe hB l (a*x) λy hy=>h y (AC _ hy)) ?_;rw[BI,Nat.pow_succ,Bb (B^l.length) B,<-Bc];simp_all [A0,BJ,AH]
theorem zTl{w:Rw->Nat}{M:Nat}:∀l:List Rw,(∀x∈l,w x<=M)->sumW w l<=l.length*M
 |[],_=>by simp[sumW]
 |x::l,h=>by
  have:=zTl l λy hy=>h y (AC _ hy)
  grind [AH,sumW,BI,Nat.succ_mul]
theorem tput_mem{K:List (List Va×Nat)}{r:List Va}{w:Nat}{p:List Va×Nat}(h:p∈tput K r w):p=(r,w)\/p∈K:=by
 grind [tput,List.mem_or_eq_of_mem_set,A1]
theorem totL_mem{p:List Va×Nat}:∀l:List Bu,p∈totL l->∃b∈l,p=(b.key,b.t.tot):=by
 have key:∀(l:List Bu)(K:List (List Va×Nat)),p∈l.foldl (λK b=>tput K b.key b.t.tot) K->p∈K\/∃b∈l,p=(b.key,b.t.tot):=by
  intro l;induction l with
  |nil=>exact λK h=> .inl h
  |cons b l ih=>
   intro K h;rw[Bt]at h;rcases ih _ h with h|⟨u,hu,h⟩;all_goals grind [tput_mem,AH,AC]
 intro l h;rcases key l [] h with h|h
 ·cases h
 exact h
theorem dg_pow:∀(k n:Nat),n<4294967296^k->(dg n).length<=k
 |0,n,h=>by
  simp_all [Nat.pow_zero,dg]
 | k+1,n,h=>by
  rw[dg];split
  ·simp
  rw[BI]
  have:=dg_pow k (n/4294967296) (by rw[Nat.pow_succ]at h;exact Nat.div_lt_of_lt_mul (by rw[Bb];exact h))
  omega
theorem b32_pow(k:Nat):4294967296^k=2^(32*k):=by rw[Nat.pow_mul]
theorem dg_exp{n e k:Nat}(h:n<=2^e)(he:e<32*k):(dg n).length<=k:=by
 refine dg_pow k n ?_;rw[b32_pow];exact Nat.lt_of_le_of_lt h (Nat.pow_lt_pow_right (by omega) he)
theorem Sm.pow{n e:Nat}(h:n<=2^e)(he:e<32000):Sm n:=dg_exp h he
theorem zE2(e:Nat):1<=2^e:=Nat.one_le_two_pow
section
variable {b : Bd} {O : List Nat} (hO : Ook b.n O) (hch : ∀ v, v < b.n → ∀ c ∈ chV b v, c.1 < b.n ∧ O.idxOf c.1 < O.idxOf v) (hnd : ∀ v, v < b.n → ((chV b v).map (·.1)).Nodup)
 {V : Nat → List Rw} {T : Nat → List (Rw × Nat)} (hT : ∀ v, v < b.n → T v = totL (grpL (b.desc.getD v Ab) (fun x => wtL b.f V T x (chV b v)) (b.R.getD v Ag).2)) (hl : ∀ v, v < b.n → (b.R.getD v Ag).2.length ≤ 65536)
include hO hch hnd
theorem ch_few{v:Nat}(hv:v<b.n):(chV b v).length<=O.idxOf v:=by
 have h1:((chV b v).map λc=>O.idxOf c.1).Nodup:=by
  have e:(chV b v).map (λc=>O.idxOf c.1)=((chV b v).map (·.1)).map λu=>O.idxOf u:=by rw[AI];rfl
  rw[e,AS,AZ];exact(hnd v hv).imp_of_mem λ{x y} hx hy hne e=>by
   obtain⟨c,hc,rfl⟩:=Ao.1 hx;obtain⟨d,hd,rfl⟩:=Ao.1 hy;exact hne (hO.inj (hch v hv c hc).1 (hch v hv d hd).1 e)
 have:=zF7 (n:=O.idxOf v) h1 λx hx=>by
  grind
 rwa[AA]at this
theorem wt_le{v:Nat}(hv:v<b.n)(E:Nat)(hE:∀c∈chV b v,∀p∈T c.1,p.2<=2^E)(x:Rw)(i:Nat):wtL b.f V T x ((chV b v).take i)<=2^(O.idxOf v*E):=by
 unfold wtL;have h1:=zVe (zE2 E) (((chV b v).take i).map (wone b.f V T x)) 1 λy hy=>by
  obtain⟨c,hc,rfl⟩:=Ao.1 hy;unfold wone;split
  ·cases e:tlk (T c.1) (zT x c.2)with
   |none=>simp
   |some w=>
    grind [tlk,BU,List.mem_of_mem_take,BV]
  grind
 rw[AU,AA,<-Nat.pow_mul]at h1;grind [Ar,AL,Bb,A0,ch_few]
include hT hl
theorem tab_le:∀(i v:Nat),v<b.n->O.idxOf v=i->∀p∈T v,p.2<=2^(16*exB i):=λi=>by
 induction i using Nat.strongRecOn with
 | _ i ih=>
  intro v hv hi p hp;rw[hT v hv]at hp;obtain⟨u,hu,rfl⟩:=totL_mem _ hp;have h1:=((zQp (Q:=λ_=>True) (b.R.getD v Ag).2 λ_ _=>trivial).2 u hu).s;refine Ar h1 ?_;have hw:∀x∈(b.R.getD v Ag).2,wtL b.f V T x (chV b v)<=2^(16*(exB i-1)):=λx _=>by
   have:=wt_le (V:=V) hO hch hnd hv (16*exB (i-1)) (λc hc p hp=>by
    obtain⟨c1,c2⟩:=hch v hv c hc;refine Ar (ih _ (by omega) c.1 c1 rfl p hp) (AL (by omega) (BJ _ (zQs (by omega))))) x (chV b v).length
   rw[BK,hi]at this;refine Ar this (AL (by omega) ?_);cases i with
   |zero=>simp
   |succ i=>
    rw[exB,Nat.add_sub_cancel,Nat.add_sub_cancel_left,<-Bc,Bb (i+1) 16,Bc];exact Ap _
  refine Ar (zTl _ hw) ?_;refine Ar (A0 _ (hl v hv)) ?_;have e:(65536:Nat)=2^16:=rfl;rw[e,<-Nat.pow_add];refine AL (by omega) ?_;have:1<=exB i:=zQs (AX i);omega
end
structure Inp where
 n:Nat
 f:Nat
 desc:List Bool
 P:List Nat
 A:List (List Nat×List Rw)
structure Inp.Ok(I:Inp):Prop where
 n:I.n<=6
 f:I.f<=I.n
 d:I.desc.length=I.f
 P:I.P.length+I.f=I.n
 P2:∀v∈I.P,I.f<=v/\v<I.n
 P3:I.P.Nodup
 A:I.A.length<=5
 V:Vok I.n I.A.length λi=>(I.A.getD i Ag).1
 R:∀a∈I.A,a.2.length<=10/\Rsc a.2/\∀r∈a.2,r.length=a.1.length/\∀v∈r,vok v=Aa/\Vs v
 C:combs I.A<=5000
abbrev Inp.O(I:Inp):List Nat:=ordL I.f I.P
abbrev Inp.E(I:Inp):List Nat:=I.A.map λa=>msk a.1
abbrev Inp.nb(I:Inp):Nat->Nat:=λv=>if v<I.n then nbE I.E v else 0
abbrev Inp.bag(I:Inp):Nat->Bg:=bagE I.n I.O I.nb
abbrev Inp.L(I:Inp):List Bg:=(Ak I.n).map I.bag
abbrev Inp.R(I:Inp):List (List Nat×List Rw):=I.L.map (matA I.A)
abbrev Inp.b(I:Inp):Bd:=⟨I.n,I.f,I.desc,I.P,I.A,I.L,I.R,I.E⟩
abbrev Inp.VT(I:Inp):Nat->List Rw:=(tab I.b I.O I.n).1
abbrev Inp.TT(I:Inp):Nat->List (Rw×Nat):=(tab I.b I.O I.n).2
theorem cE_ok:∀na:Fin 6,∀k:Fin 7,(na.val+1)*cE na.val 16 k.val+1<=100000000000000000:=by decide
section
variable {I : Inp} (h : I.Ok)
include h
theorem Inp.ook:Ook I.n I.O:=⟨by have:=h.n;omega,zP8 h.P,zT1 h.P h.P2,zT0 h.P2 h.P3⟩
theorem Inp.Elt:∀e∈I.E,e<2^I.n:=λe he=>by
 obtain⟨a,ha,rfl⟩:=Ao.1 he;obtain⟨_,h2⟩:=zNk h.V a ha;refine zVw λv hv=>?_;rw[zHa,decide_eq_false_iff_not];intro hm
 have:=h2 v hm
 omega
theorem Inp.bok:Bgk I.n I.O I.bag:=zVx (Inp.ook h) (zMc (by have:=h.n;omega) (Inp.Elt h))
omit h in
theorem Inp.Lat{v:Nat}(hv:v<I.n):I.L.getD v Ag=I.bag v:=by
 grind
omit h in
theorem Inp.Rat{v:Nat}(hv:v<I.n):I.R.getD v Ag=matA I.A (I.bag v):=by
 grind
theorem Inp.bits{v w:Nat}(hv:v<I.n):(bgS (I.bag v)).testBit w=((I.bag v).k.testBit w||decide (w=v)):=by
 rw[bgS,(Inp.bok h).v,Nat.testBit_or,Nat.testBit_two_pow];grind
theorem Inp.bits_n{v w:Nat}(hv:v<I.n)(hw:(bgS (I.bag v)).testBit w=Aa):w<I.n:=by
 rw[Inp.bits h hv,Bv,decide_eq_true_eq]at hw;rcases hw with hw|rfl
 ·exact((Inp.bok h).r v w hv hw).1
 exact hv
theorem Inp.memn{v w:Nat}(hv:v<I.n):w∈zAo (bgS (I.bag v))↔(bgS (I.bag v)).testBit w=true:=by
 unfold zAo;rw[AB,Au]
 have:=h.n
 exact⟨λhh=>hh.2,λhh=>⟨by have:=Inp.bits_n h hv hh;omega,hh⟩⟩
theorem Inp.mem_len{v:Nat}(hv:v<I.n):0<(zAo (bgS (I.bag v))).length/\(zAo (bgS (I.bag v))).length<=I.n:=by
 constructor
 ·refine List.length_pos_of_mem ((Inp.memn h hv (w:=v)).2 ?_);rw[Inp.bits h hv];simp
 exact zF7 (Bf.filter _) λw hw=>Inp.bits_n h hv ((Inp.memn h hv).1 hw)
theorem Inp.s32{v:Nat}(hv:v<I.n):bgS (I.bag v)<4294967296/\bgS (I.bag v)>>>I.n=0:=by
 have hn:=h.n;have h1:bgS (I.bag v)<2^I.n:=zVw λw hw=>by
  cases e:(bgS (I.bag v)).testBit w with
  |false=>rfl
  |true=>have:=Inp.bits_n h hv e;omega
 exact⟨Bw h1 (AL (n:=2) (by omega) (by omega:I.n<=32)),by rw[Nat.shiftRight_eq_div_pow];exact Nat.div_eq_of_lt h1⟩
theorem Inp.rows10:∀a∈I.A,a.2.length<=65536:=λa ha=>by have:=(h.R a ha).1;omega
theorem Inp.aok{v:Nat}(hv:v<I.n):AOk (mkP (bgS (I.bag v)) I.A):=part_ok (by have:=h.n;omega:I.n<=32) (Inp.s32 h hv).2 (by have:=h.A;omega) h.V (Inp.rows10 h)
theorem Inp.jlen{v:Nat}(hv:v<I.n):(jn (mkP (bgS (I.bag v)) I.A)).length<=5000:=Ar (jn_len (Inp.aok h hv)) h.C
theorem Inp.jall{v:Nat}(hv:v<I.n):∀x∈jn (mkP (bgS (I.bag v)) I.A),x.length=(zAo (bgS (I.bag v))).length/\∀u∈x,vok u=Aa/\Vs u:=jn_all (λu=>vok u=Aa/\Vs u) (Inp.aok h hv) λa ha r hr=>(h.R a ha).2.2 r hr
theorem Inp.par{v c:Nat}(hv:v<I.n)(hc:c<I.n)(hp:(I.bag c).p=(v:Int)):I.O.idxOf c<I.O.idxOf v:=((Inp.bok h).r c v hc ((Inp.bok h).p c v hc hp).1).2
theorem Inp.chs{v:Nat}(hv:v<I.n):∀c∈chV I.b v,c.1<I.n/\I.O.idxOf c.1<I.O.idxOf v:=λc hc=>by
 obtain⟨h1,h2,_⟩:=zHd hc;have h1:c.1<I.n:=by simpa using h1
 rw[Inp.Lat h1]at h2;exact⟨h1,Inp.par h hv h1 h2⟩
omit h in
theorem Inp.chn(v:Nat):((chV I.b v).map (·.1)).Nodup:=by
 unfold chV chI;grind [AI,zBy,List.map_id,Bf.filter]
theorem Inp.ixP{i:Nat}(hi:i<I.P.length):I.O.idxOf (I.P.getD i 0)=i:=by
 have hl:=h.P;have h1:=(Inp.ook h).at (i:=i) (by omega);simp_all [Inp.O,ordL,AE,List.getElem?_append_left]
theorem Inp.ixF{v:Nat}(hv:v<I.f):I.O.idxOf v=I.P.length+(I.f-1-v):=by
 have hl:=h.P;have h1:=(Inp.ook h).at (i:=I.P.length+(I.f-1-v)) (by omega);have e:I.O.getD (I.P.length+(I.f-1-v)) 0=v:=by
  unfold Inp.O ordL;grind
 rw[e]at h1;exact h1.2
theorem Inp.take{c i:Nat}(hc:c<I.n)(hi:I.O.idxOf c<i)(hil:i<=I.P.length):c∈I.P.take i:=by
 have h1:=((Inp.ook h).ix hc).2;generalize I.O.idxOf c=j at*;have h2:I.P.getD j 0=c:=by
  rw[<-h1];unfold Inp.O ordL;grind
 grind [As,BW]
theorem Inp.teq{v:Nat}(hv:v<I.n):I.VT v=redK (λx=>wtL I.f I.VT I.TT x (chV I.b v)) (keyC I.b v) (I.b.R.getD v Ag).2/\I.TT v=totL (grpL (I.desc.getD v Ab) (λx=>wtL I.f I.VT I.TT x (chV I.b v)) (I.b.R.getD v Ag).2):=tab_eq (b:=I.b) (O:=I.O) (Inp.ook h) (λv hv=>Inp.chs h hv) hv
theorem Inp.tle{v e:Nat}(he:e=5216)(hv:v<I.n):∀p∈I.TT v,p.2<=2^e:=λp hp=>by
 have hn:=h.n;have h1:=tab_le (b:=I.b) (O:=I.O) (V:=I.VT) (T:=I.TT) (Inp.ook h) (λv hv=>Inp.chs h hv) (λv _=>Inp.chn v) (λv hv=>(Inp.teq h hv).2) (λv hv=>by
  show(I.R.getD v Ag).2.length<=_;rw[Inp.Rat hv]
  have:=Inp.jlen h hv
  show(jn _).length<=_;omega) (I.O.idxOf v) v hv rfl p hp
 refine Ar h1 (AL (by omega) ?_);have h2:=((Inp.ook h).ix hv).1;have h3:=zQs (show I.O.idxOf v<=5 by omega);have h4:exB 5=326:=by decide
 omega
theorem Inp.wle{v e:Nat}(he:e=5216)(hv:v<I.n)(x:Rw)(i:Nat):wtL I.f I.VT I.TT x ((chV I.b v).take i)<=2^(5*e):=by
 have hn:=h.n;have h1:=wt_le (b:=I.b) (O:=I.O) (V:=I.VT) (T:=I.TT) (Inp.ook h) (λv hv=>Inp.chs h hv) (λv _=>Inp.chn v) hv e (λc hc=>Inp.tle h he (Inp.chs h hv c hc).1) x i;have h2:=((Inp.ook h).ix hv).1;grind [Ar,AL,A0]
theorem Inp.bal:Bal I.b I.VT I.TT where
 n:=by have:=h.n;show I.n<=_;omega
 f:=h.f
 d:=h.d
 L:=by simp
 R:=by simp
 E:=rfl
 P:=h.P
 P2:=h.P2
 P3:=h.P3
 A:=by have:=h.A;show I.A.length<=_;omega
 Av a ha:=by
  obtain⟨h1,h2⟩:=zNk h.V a ha
  have h3:=zJ9 (n:=I.n) 0 h1 λw hw=>⟨AX _,h2 w hw⟩
  have hn:=h.n
  exact⟨by omega,λv hv=>by have:=h2 v hv;omega,Inp.rows10 h a ha⟩
 k c hc:=by
  obtain⟨v,hv,rfl⟩:=Ao.1 hc
  exact(Inp.bok h).k v
 V v hv:=by
  have hv:v<I.n:=hv
  have hn:=h.n
  rw[show I.b.R=I.R from rfl,Inp.Rat hv]
  obtain⟨h1,h2⟩:=Inp.mem_len h hv
  exact⟨by show(zAo _).length<=_;omega,h1,λu hu=>by have:=Inp.bits_n h hv ((Inp.memn h hv).1 hu);omega⟩
 r v hv x hx:=by
  have hv:v<I.n:=hv
  rw[show I.b.R=I.R from rfl,Inp.Rat hv]at hx⊢
  obtain⟨h1,h2⟩:=Inp.jall h hv x hx
  exact⟨h1,λu hu=>(h2 u hu).2,Bh.2 λu hu=>(h2 u hu).1⟩
 rl v hv:=by
  have hv:v<I.n:=hv
  rw[show I.b.R=I.R from rfl,Inp.Rat hv]
  have:=Inp.jlen h hv
  show(jn _).length<=_
  omega
 S v hv x hx i hi:=by
  obtain⟨e,he⟩:∃e,e=5216:=⟨_,rfl⟩
  exact Sm.pow (Inp.wle h he hv x i) (by omega)
 S1 v hv p hp:=by
  obtain⟨e,he⟩:∃e,e=5216:=⟨_,rfl⟩
  exact Sm.pow (Inp.tle h he hv p hp) (by omega)
 T v hv:=by
  have hv:v<I.n:=hv
  obtain⟨e,he⟩:∃e,e=5216:=⟨_,rfl⟩
  have h1:=zTl (w:=λx=>wtL I.b.f I.VT I.TT x (chV I.b v)) (M:=2^(5*e)) (I.b.R.getD v Ag).2 λx _=>by
   have h1:=Inp.wle h he hv x (chV I.b v).length
   rwa[BK]at h1
  have h3:(I.b.R.getD v Ag).2.length<=2^16:=by
   rw[show I.b.R=I.R from rfl,Inp.Rat hv]
   have:=Inp.jlen h hv
   show(jn _).length<=_
   omega
  refine Sm.pow (e:=16+5*e) (Ar h1 ?_) (by omega)
  rw[Nat.pow_add]
  exact A0 _ h3
 Rt i hi:=by
  have hi:i<=I.n:=hi
  have hn:=h.n
  obtain⟨e,he⟩:∃e,e=5216:=⟨_,rfl⟩
  have h1:=zVe (zE2 e) ((Ak i).map (rone I.b.L I.b.f I.VT I.TT)) 1 λy hy=>by
   obtain⟨c,hc,rfl⟩:=Ao.1 hy
   have hc:=Au.1 hc
   unfold rone
   split
   ·exact zE2 _
   split
   ·cases e2:tlk (I.TT c) []with
    |none=>simp
    |some w=>
     unfold tlk at e2
     obtain⟨q,q1,q2⟩:=BU.1 e2
     rw[Option.getD_some,<-q2]
     exact Inp.tle h he (by omega) q (BV q1)
   split
   ·exact AX _
   exact zE2 _
  rw[AU,<-Nat.pow_mul,AA,List.length_range]at h1
  refine Sm.pow (e:=e*i) h1 ?_
  have:e*i<=e*6:=BJ _ (by omega)
  omega
 vt v _ hv:=(Inp.teq h hv).1
 tt v hv:=(Inp.teq h (by have:=h.f;have hv:v<I.f:=hv;omega)).2
 o1 i hi c hc:=by
  have hi:i<I.P.length:=hi
  have h1:=h.P2 _ (zBv I.P i hi)
  obtain⟨h2,h3⟩:=Inp.chs h h1.2 c hc
  rw[Inp.ixP h hi]at h3
  exact Inp.take h h2 h3 (by omega)
 o2 v hv c hc hcf:=by
  have hv:v<I.f:=hv
  have hcf:c.1<I.f:=hcf
  have hf:=h.f
  obtain⟨h2,h3⟩:=Inp.chs h (show v<I.n by omega) c hc
  rw[Inp.ixF h hv,Inp.ixF h hcf]at h3
  omega
end
abbrev Inp.tot(I:Inp):Nat:=totB I.b I.VT I.TT
abbrev Inp.U(I:Inp)(c:Nat):List Bu:=if I.tot=0 then[]else buk I.b I.VT I.TT c
abbrev Inp.ix(I:Inp):D:=ixD I.desc (I.L.take I.f) I.U I.tot
section
variable {I : Inp} (h : I.Ok)
include h
theorem Inp.bags_c:Pure Ah 31 [.agg [iD (I.n:Nat), .row (I.E.map u32D) I.E.length],iD (I.f:Nat), .row (nsD I.P) I.P.length] [] (.tup [.row (I.L.flatMap bgC) I.L.length,iD 0]):=by
 have hn:=h.n;have h1:=ebags_c I.n I.f (by omega) I.E (by rw[AA];have:=h.A;omega) (Inp.Elt h) I.P h.P h.P2 h.P3 I.nb rfl;grind [Bx]
theorem Inp.mat{v:Nat}(hv:v<I.n):∃z:Nat,z<=big/\Pure Ah 72 [iD (I.n:Nat),u32D (bgS (I.bag v)), .row (I.A.flatMap atR) I.A.length] [] (.tup [.agg (atR (matA I.A (I.bag v))),iD ((stpA (bgS (I.bag v)) I.A+z+(jn (mkP (bgS (I.bag v)) I.A)).length:Nat):Int),iD 0]):=by
 have hn:=h.n;have hA:=h.A;obtain⟨s1,s2⟩:=Inp.s32 h hv;obtain⟨m1,m2⟩:=Inp.mem_len h hv;have hj:=Inp.jlen h hv;exact mat_c I.n (bgS (I.bag v)) I.A (by omega) s1 s2 (by omega) h.V (Inp.rows10 h) (λa ha r hr=>⟨((h.R a ha).2.2 r hr).1,Bh.2 λu hu=>(((h.R a ha).2.2 r hr).2 u hu).1⟩) m1 16 (λa ha=>by have:=(h.R a ha).1;omega) (cE_ok ⟨I.A.length,by omega⟩ ⟨_,by omega⟩) (by omega)
theorem Inp.stp{v:Nat}:stpA (bgS (I.bag v)) I.A<=50:=by
 have h1:=zPs (s:=bgS (I.bag v)) (B:=10) (A:=I.A) λa ha=>(h.R a ha).1;have h2:=h.A;omega
theorem Inp.all:∃S:Nat,S+zDm I.R<=1000000000000000000/\Pure Ah 32 [iD (I.n:Nat), .row (I.L.flatMap bgC) I.L.length, .row (I.A.flatMap atR) I.A.length] [] (.tup [.row (I.R.flatMap atR) I.R.length,iD ((S:Nat):Int),iD 0]):=by
 have hn:=h.n;let z:Bg->Nat:=λb=>if hb:b.v<I.n then A2 (Inp.mat h hb)else 0
 have hzb:∀v (hv:v<I.n),z (I.bag v)=A2 (Inp.mat h hv):=λv hv=>by
  show(if hb:(I.bag v).v<I.n then A2 (Inp.mat h hb)else 0)=_;rw[dif_pos (show(I.bag v).v<I.n from hv)];rfl
 have hz1:∀b,z b<=big:=λb=>by
  grind
 have hL:∀b∈I.L,∃v,v<I.n/\b=I.bag v:=λb hb=>by
  grind
 have hsum:∀l:List Bg,(∀b∈l,b∈I.L)->totS I.A z l<=l.length*(big+5050)/\zDm (l.map (matA I.A))<=l.length*5000:=λl=>by
  induction l with
  |nil=>intro _;simp[totS,zDm]
  |cons b l ih=>
   intro hl;obtain⟨i1,i2⟩:=ih λc hc=>hl c (AC _ hc);obtain⟨v,hv,rfl⟩:=hL b (hl b (AH ..));have h1:=Inp.stp h (v:=v);have h2:=hz1 (I.bag v);have h3:=Inp.jlen h hv;have e1:totS I.A z (I.bag v::l)=(stpA (bgS (I.bag v)) I.A+z (I.bag v)+(jn (mkP (bgS (I.bag v)) I.A)).length)+totS I.A z l:=by simp[totS]
   have e2:zDm ((I.bag v::l).map (matA I.A))=(jn (mkP (bgS (I.bag v)) I.A)).length+zDm (l.map (matA I.A)):=by simp[zDm]
   grind
 have hLl:I.L.length=I.n:=by simp
 have hbig:big=100000000000000000:=rfl;have hall:=all_c I.n I.L I.A z (by omega) (λb hb=>by
  obtain⟨v,hv,rfl⟩:=hL b hb;exact⟨by show v<32;omega,(Inp.bok h).k v⟩) (λb hb=>by
  obtain⟨v,hv,rfl⟩:=hL b hb;rw[hzb v hv];exact(BX (Inp.mat h hv)).2) (λi hi=>by
  have:=(hsum (I.L.take i) λb hb=>List.mem_of_mem_take hb).1
  refine Ar this ?_;have h2:(I.L.take i).length*(big+5050)<=6*(big+5050):=A0 _ (by rw[List.length_take];omega);omega)
 obtain⟨q1,q2⟩:=hsum I.L λb hb=>hb;refine⟨totS I.A z I.L,?_,?_⟩
 ·grind
 simp_all [Pure,matA,atR,AA,Bx]
theorem Inp.build(hck:Pure Ah 16 [inpN I.b] [] (iD 0)):∃S:Nat,S+zDm I.R<=1000000000000000000/\Pure Ah 32 [iD (I.n:Nat), .row (I.L.flatMap bgC) I.L.length, .row (I.A.flatMap atR) I.A.length] [] (.tup [.row (I.R.flatMap atR) I.R.length,iD ((S:Nat):Int),iD 0])/\
  Pure Ah 15 [inpN I.b] [] (.tup [I.ix,iD ((S+zDm I.R:Nat):Int),iD 0]):=by
 obtain⟨S,h1,h2⟩:=Inp.all h;exact⟨S,h1,h2,build_c I.b I.VT I.TT S (Inp.bal h) hck (Inp.bags_c h) h2 (Ar h1 (by omega))⟩
end
section
attribute [local irreducible] seqW awp zAf zAn zAd Weak updS zAx retL Pure Acts rP setP setQ cP nP fr
set_option maxRecDepth 4096
def rofA(ar:Nat)(rows:List Rw):Int:=if 32<ar then 3 else rofE (ar:Nat) rows
theorem zWv(ar:Nat)(rows:List Rw)(n:Nat)(hn:rows.length=n)(hb:n<=2000000)(hl:∀r∈rows,r.length<=2000000):Pure Ah 48 [iD (ar:Nat), .row (rows.map rowV) n] [] (if rofA ar rows=0 then .tup [relD (ar:Nat) (relR rows),iD 0]else .tup [relZ,iD (rofA ar rows)]):=by
 by_cases h:32<ar
 ·unfold rofA;rw[if_pos h,if_neg (by decide)];have hnew:=newBad_c (ar:Nat) (.inr (by omega));refine zF zBb mixed Tryz.func48 rfl ?_;focus
   refine vAu<|vA<|vrT 1<|vc hnew<|ve (0<2/\1<2/\Ab=Ab/\Aa=Aa/\2=2/\2<=2)<|zA<|vAe<|vt ?_;refine vA<|ve ((True/\Aa=Aa)/\Ab=Ab/\Aa=Aa/\2=2/\2<=2)<|zE<|zG<|vret (2<=2)<|.inr rfl
 grind [rofA,zWw]
structure Cs where
 n:Int
 f:Int
 desc:List Bool
 P:List Int
 V:List (List Int)
 R:List (List Rw)
abbrev zAu(l:List Int):D:= .row (l.map λz=>iD z) l.length
abbrev zBd(l:List Rw):D:= .row (l.map rowV) l.length
abbrev csC(c:Cs):List D:=[iD c.n,iD c.f, .row (c.desc.map bD) c.desc.length,zAu c.P, .row (c.V.map zAu) c.V.length, .row (c.R.map zBd) c.R.length]
abbrev csB(c:Cs):Bk:=⟨csC c,27,0,Ab,Ab, .plain⟩
structure Cs.Small(c:Cs):Prop where
 d:c.desc.length<=2000000
 P:c.P.length<=2000000
 V:c.V.length<=2000000
 R:c.R.length<=2000000
 v:∀l∈c.V,l.length<=2000000
 r:∀l∈c.R,l.length<=2000000/\∀x∈l,x.length<=2000000
def Cs.at(c:Cs)(i:Nat):At:=⟨c.V.getD i [],((c.V.getD i []).length:Nat),relR (c.R.getD i [])⟩
def Cs.ats(c:Cs)(m:Nat):List At:=(Ak m).map c.at
def Cs.err(c:Cs)(i:Nat):Int:=rofA (c.V.getD i []).length (c.R.getD i [])
abbrev inpK(c:Cs)(x:D):Bk:=⟨[iD c.n,iD c.f, .row (c.desc.map bD) c.desc.length,zAu c.P,x],31,0,Ab,Ab, .plain⟩
abbrev atsB(l:List At):Bk:=⟨l.flatMap atC,87,3,Aa,Ab, .plain⟩
abbrev inpZ:Bk:=⟨[iD 0,iD 0,nl0,nl0,nl0],31,0,Ab,Ab, .plain⟩
theorem Cs.ats_succ(c:Cs)(i:Nat):c.ats (i+1)=c.ats i++[c.at i]:=by
 grind [Cs.ats,BL]
theorem Cs.ats_len(c:Cs)(i:Nat):(c.ats i).length=i:=by simp[Cs.ats]
abbrev q40_(x0:Cs):=Af (Ae bD (Cs.desc x0)) (Ad (Cs.desc x0))
abbrev q41_(x0:Cs):=Af (Ae zAu (Cs.V x0)) (Ad (Cs.V x0))
abbrev q42_(x0:Cs):=Af (Ae zBd (Cs.R x0)) (Ad (Cs.R x0))
theorem make_c(c:Cs)(h:c.Small):∃(m:Nat)(ok:Bool),m<=c.V.length/\m<=c.R.length/\(ok=Aa↔c.V.length=c.R.length/\∀i,i<c.V.length->c.err i=0)/\(ok=Aa->m=c.V.length)/\
  Pure Ah 12 [.agg (csC c)] [] (.tup [inpD c.n c.f c.desc c.P (c.ats m),bD ok]):=by
 obtain⟨m,hm1,hm2,hgood,hend⟩:∃m,m<=c.V.length/\m<=c.R.length/\(∀j,j<m->c.err j=0)/\((m=min c.V.length c.R.length)\/(m<c.V.length/\m<c.R.length/\c.err m≠0)):=by
  by_cases hb:∃p,p<min c.V.length c.R.length/\decide (c.err p≠0)=Aa
  ·obtain⟨p,hp,hpb,hmin⟩:=zD0 (p:=λi=>decide (c.err i≠0)) hb;grind
  refine⟨min c.V.length c.R.length,by omega,by omega,λj hj=>?_, .inl rfl⟩;grind
 have hV:∀i,i<c.V.length->((c.V.map zAu).drop i).headD .unk=zAu (c.V.getD i []):=λi hi=>zBf zAu c.V [] i hi;have hR:∀i,i<c.R.length->((c.R.map zBd).drop i).headD .unk=zBd (c.R.getD i []):=λi hi=>zBf zBd c.R [] i hi;have hVn:0<c.V.length->c.V.map zAu≠[]:=λh=>zAm h;have hRn:0<c.R.length->c.R.map zBd≠[]:=λh=>zAm h;have hlV:=h.V;have hlR:=h.R;have hac:∀i,((c.ats i).flatMap atC).length=i*3:=λi=>by rw[zDj (c:=3) (λ_=>rfl),Cs.ats_len]
 have htk:∀i,((c.ats i).flatMap atC).take (i*3)=(c.ats i).flatMap atC:=λi=>Bi (by rw[hac];exact Ap _);refine⟨m,decide (m=c.V.length/\c.V.length=c.R.length),hm1,hm2,?_,λhh=>(of_decide_eq_true hh).1,?_⟩
 ·grind
 rw[show inpD c.n c.f c.desc c.P (c.ats m)= .agg [iD c.n,iD c.f, .row (c.desc.map bD) c.desc.length,zAu c.P, .row ((c.ats m).flatMap atC) m]from congrArg (λk=>Am [iD c.n,iD c.f, .row (c.desc.map bD) c.desc.length,zAu c.P, .row ((c.ats m).flatMap atC) k]) (Cs.ats_len c m)];refine zF zBb mixed Tryz.func12 rfl ?_;focus
  refine vAu<|vA<|vr 11 (True/\0<6/\True/\0<5/\True/\0<4/\True/\0<3/\((1=1/\1<=5/\1=1/\2<=5/\1=1/\3<=5/\1=1/\4<=5/\True)/\Aa=Aa)/\Ab=Ab/\Aa=Aa/\5=5/\5<=5)<|vnil<|zC<|vnn (fr 69 [(1,An 0 0),(2,An 1 0),(3,bD Ab),(4,An 2 0),(8,An 0 0),(9,iD<|Cs.n c),(10,An 0 1),(11,iD<|Cs.f c),(12,An 0 2),(13,(q40_ c)),(14,An 0 3),(15,Af (Ae (λ(z:Int)=>iD z)<|Cs.P c)<|Ad<|Cs.P c),(16,Am [iD<|Cs.n c,iD<|Cs.f c,(q40_ c),Af (Ae (λ(z:Int)=>iD z)<|Cs.P c)<|Ad<|Cs.P c,nl])]) [AK [iD<|Cs.n c,iD<|Cs.f c,(q40_ c),Af (Ae (λ(z:Int)=>iD z)<|Cs.P c)<|Ad<|Cs.P c,(q41_ c),(q42_ c)] 27 0 Ab Ab Ax,AK [iD 0,iD 0,nl,nl,nl] 31 0 Ab Ab Ax,AK [iD<|Cs.n c,iD<|Cs.f c,(q40_ c),Af (Ae (λ(z:Int)=>iD z)<|Cs.P c)<|Ad<|Cs.P c,nl] 31 0 Ab Ab Ax] ?_;rotate_left
 refine zBx (Bj (j:=2) (i:=4) (ej:=inpK c nl0) (atsB []) rfl rfl rfl rfl) ?_;focus
  refine zA<|vAu<|zH ?_;rotate_left
 refine zK (λ(i:Nat)=>fr 69 [(1,An 0 0),(2,An 1 0),(4,An 2 0),(5,iD i)]) (λ(i:Nat)=>[csB c,inpZ,inpK c<|.osl 3 0 i (i*3) Aa,atsB<|c.ats i]) (λ(i:Nat)=>m-i) (λ(i:Nat)=>i<=m) 0 ?_ ?_ ?_
 ·omega
 ·refine vk 4
 intro i h1;rcases AJ i m with h2|h2
 ·have hv:=hV i (by omega);have hr:=hR i (by omega);have hvn:=hVn (by omega);have hrn:=hRn (by omega);have hac1:=hac i;have hrm:c.R.getD i []∈c.R:=by rw[AE,As (by omega)];exact AT _
  obtain⟨r1,r2⟩:=h.r _ hrm;have hof:=zWv (c.V.getD i []).length (c.R.getD i []) _ rfl r1 r2;have hok:rofA (c.V.getD i []).length (c.R.getD i [])=0:=hgood i h2;rw[if_pos hok]at hof;have hsu:atsB (c.ats (i+1))=⟨(c.ats i).flatMap atC++[zAu (c.V.getD i []),iD ((c.V.getD i []).length:Nat), .row ((relR (c.R.getD i [])).map rowV) (relR (c.R.getD i [])).length],87,3,Aa,Ab, .plain⟩:=by
   rw[Cs.ats_succ];show AK ((c.ats i++[c.at i]).flatMap atC) _ _ _ _ _=_;rw[<-zX4];rfl
  focus
   refine zA<|vAs<|vew [] [(5,Aa)] (True/\0<2/\decide ((i:Int)<(Ad (Cs.V c):Int))=Aa/\True/\0<1)<|vT ((i:Int)<(Ad (Cs.R c):Int))<|vKB<|zA<|vd [0,2,6,8,1,3,4,5,7,9,10,11,12,13,14,15,16,17]<|vr 6 (True/\True/\0<2/\ix ↑i (Ad (Cs.V c):Int) (Ae zAu (Cs.V c)≠[])) ?_;refine vp 35 i (Ae zAu<|Cs.V c)<|vr 1 (0<Ad (Ai i<|Ae zAu<|Cs.V c))<|vsh 36 hv<|vr 3 (0<1/\ix ↑i (Ad (Cs.R c):Int) (Ae zBd (Cs.R c)≠[]))<|vp 41 i (Ae zBd<|Cs.R c)<|vr 1 (0<Ad (Ai i<|Ae zBd<|Cs.R c))<|vsh 42 hr<|vc hof<|ve (0<2/\1<2/\Ab=Ab/\Aa=Aa/\2=2/\2<=2)<|zA<|vAe<|vf ?_;refine vK<|vd [0,2,4,1,3,5,6,7,8,9,10,11,12]<|vr 6 (True/\True/\0<1/\0<2/\ix ↑i (Ad (Cs.V c):Int) (Ae zAu (Cs.V c)≠[]))<|vp 54 i (Ae zAu<|Cs.V c)<|vr 1 (0<Ad (Ai i<|Ae zAu<|Cs.V c))<|vsh 55 hv<|vr 6 (2<=2/\((1=1/\1<=3/\2=2/\3<=3/\True)/\Aa=Aa)/\((3=3/\3<=3/\True)/\0<3/\3=3/\3<=16777216/\1<=9223372036854775807)/\(Bk.arr (atsB<|Cs.ats c i)=Aa/\Ad (Ay<|atsB<|Cs.ats c i)=i*3/\i*3=i*3/\Bk.ty (atsB<|Cs.ats c i)=87/\Bk.sz (atsB<|Cs.ats c i)=3/\3=3/\0<3/\0<56/\87=87/\(i+1)*56<=140737488355328/\3=3/\Kd.isMap (Bk.kd<|atsB<|Cs.ats c i)=Ab/\(Ab=Ab\/Kd.isSh (Bk.kd<|atsB<|Cs.ats c i)=Aa))/\True/\Ab=Ab/\Aa=Aa/\1=1/\5<=5)<|vnil<|zD<|vN<|zB rfl ?_;refine vr 3 (i6 (↑i+1))<|vnil<|zC ?_;rotate_left
  refine⟨i+1,by omega,by omega,?_⟩;rw[hsu];refine vk 4
 obtain rfl:i=m:=by omega
 have htk1:=htk i;rcases hend with h3|⟨h3,h4,h5⟩
 ·have hb:decide (i=c.V.length/\c.V.length=c.R.length)=((c.V.length:Int)==(c.R.length:Int)):=by
   grind
  rw[hb];focus
   refine zA<|vAs<|vr 6 (True/\0<2) ?_;refine vsp 22 (decide ((i:Int)<(Ad (Cs.V c):Int))) (λhc=>?_)<|λhc=>?_;simp only[decide_eq_true_eq]at hc;refine ve (True/\0<1)<|vF ((i:Int)<(Ad (Cs.R c):Int))<|vZ2<|zA ?_;refine zA6 [1,4,0,2,3,5,6,7] [(8,[(2,100000),(3,100000),(5,100000),(6,100000),(7,100000)],[9])] rfl ?_;refine vr 8 (True/\True/\5<=5/\0<2/\0<1/\True)<|vnil<|zBz rfl rfl<|vr 1 (Ab=Ab/\Aa=Aa/\5=5/\5<=5)<|vnil ?_;refine zEd (C:=0<2/\Aj ((q41_ c))=Aj (By [(q41_ c),(q42_ c)] Uk)/\True/\Aj (iD (Ad (Cs.V c):Int))=Aj (iD (Ad (Cs.V c):Int))/\0<1/\Aj ((q42_ c))=Aj (By [(q42_ c)] Uk)/\True/\Aj (iD (Ad (Cs.R c):Int))=Aj (iD (Ad (Cs.R c):Int))/\True/\Aj (bD ((Ad (Cs.V c):Int)==(Ad (Cs.R c):Int)))=Aj (bD ((Ad (Cs.V c):Int)==(Ad (Cs.R c):Int)))) ⟨(by omega),(by kernel_rfl),trivial,(by kernel_rfl),(by omega),(by kernel_rfl),trivial,(by kernel_rfl),trivial,(by kernel_rfl)⟩ ?_;refine vrT 1<|vnil<|zBu<|vN<|zE ?_;refine zCf (5<=5) (D.tup [Am [iD<|Cs.n c,iD<|Cs.f c,Af (Ae bD<|Cs.desc c)<|Ad<|Cs.desc c,Af (Ae (λ(z:Int)=>iD z)<|Cs.P c)<|Ad<|Cs.P c,Af (Aq (i*3)<|Ai 0<|Ay<|atsB<|Cs.ats c i) i],bD ((Ad (Cs.V c):Int)==(Ad (Cs.R c):Int))]) (D.tup [Am [AF<|A3 A4<|Cs.n c,AF<|A3 A4<|Cs.f c,Af (Ae bD<|Cs.desc c)<|Ad<|Cs.desc c,Af (Ae (λ(z:Int)=>iD z)<|Cs.P c)<|Ad<|Cs.P c,Af (AM atC<|Cs.ats c i) i],AF<|AV ((Ad (Cs.V c):Int)==(Ad (Cs.R c):Int))]) (.inr rfl) (by omega) (by simp(disch:=omega) only[AN,htk1]) rfl;simp only[decide_eq_false_iff_not]at hc;refine veT<|vf<|vZ2<|zA ?_;refine zA6 [1,4,0,2,3,5,6,7] [(8,[(2,100000),(3,100000),(5,100000),(6,100000),(7,100000)],[9])] rfl ?_;refine vr 8 (True/\True/\5<=5/\0<2/\0<1/\True)<|vnil<|zBz rfl rfl<|vr 1 (Ab=Ab/\Aa=Aa/\5=5/\5<=5)<|vnil ?_;refine zEd (C:=0<2/\Aj ((q41_ c))=Aj (By [(q41_ c),(q42_ c)] Uk)/\True/\Aj (iD (Ad (Cs.V c):Int))=Aj (iD (Ad (Cs.V c):Int))/\0<1/\Aj ((q42_ c))=Aj (By [(q42_ c)] Uk)/\True/\Aj (iD (Ad (Cs.R c):Int))=Aj (iD (Ad (Cs.R c):Int))/\True/\Aj (bD ((Ad (Cs.V c):Int)==(Ad (Cs.R c):Int)))=Aj (bD ((Ad (Cs.V c):Int)==(Ad (Cs.R c):Int)))) ⟨(by omega),(by kernel_rfl),trivial,(by kernel_rfl),(by omega),(by kernel_rfl),trivial,(by kernel_rfl),trivial,(by kernel_rfl)⟩ ?_;refine vrT 1<|vnil<|zBu<|vN<|zE ?_;refine zCf (5<=5) (D.tup [Am [iD<|Cs.n c,iD<|Cs.f c,Af (Ae bD<|Cs.desc c)<|Ad<|Cs.desc c,Af (Ae (λ(z:Int)=>iD z)<|Cs.P c)<|Ad<|Cs.P c,Af (Aq (i*3)<|Ai 0<|Ay<|atsB<|Cs.ats c i) i],bD ((Ad (Cs.V c):Int)==(Ad (Cs.R c):Int))]) (D.tup [Am [AF<|A3 A4<|Cs.n c,AF<|A3 A4<|Cs.f c,Af (Ae bD<|Cs.desc c)<|Ad<|Cs.desc c,Af (Ae (λ(z:Int)=>iD z)<|Cs.P c)<|Ad<|Cs.P c,Af (AM atC<|Cs.ats c i) i],AF<|AV ((Ad (Cs.V c):Int)==(Ad (Cs.R c):Int))]) (.inr rfl) (by omega) (by simp(disch:=omega) only[AN,htk1]) rfl
 have hb:decide (i=c.V.length/\c.V.length=c.R.length)=false:=decide_eq_false (by omega);rw[hb];have hv:=hV i (by omega);have hr:=hR i (by omega);have hvn:=hVn (by omega);have hrn:=hRn (by omega);have hrm:c.R.getD i []∈c.R:=by rw[AE,As (by omega)];exact AT _
 obtain⟨r1,r2⟩:=h.r _ hrm;have hof:=zWv (c.V.getD i []).length (c.R.getD i []) _ rfl r1 r2;have hbad:¬rofA (c.V.getD i []).length (c.R.getD i [])=0:=h5;rw[if_neg hbad]at hof;generalize rofA (c.V.getD i []).length (c.R.getD i [])=e at*;focus
  refine zA<|vAs<|vew [] [(5,Aa)] (True/\0<2/\decide ((i:Int)<(Ad (Cs.V c):Int))=Aa/\True/\0<1)<|vT ((i:Int)<(Ad (Cs.R c):Int))<|vKB<|zA<|vd [0,2,6,8,1,3,4,5,7,9,10,11,12,13,14,15,16,17]<|vr 6 (True/\True/\0<2/\ix ↑i (Ad (Cs.V c):Int) (Ae zAu (Cs.V c)≠[])) ?_;refine vp 35 i (Ae zAu<|Cs.V c)<|vr 1 (0<Ad (Ai i<|Ae zAu<|Cs.V c))<|vsh 36 hv<|vr 3 (0<1/\ix ↑i (Ad (Cs.R c):Int) (Ae zBd (Cs.R c)≠[]))<|vp 41 i (Ae zBd<|Cs.R c)<|vr 1 (0<Ad (Ai i<|Ae zBd<|Cs.R c))<|vsh 42 hr<|vc hof<|ve (0<2/\1<2/\Ab=Ab/\Aa=Aa/\2=2/\2<=2)<|zA<|vAe<|zGb (t:=e !=(0:Int)) (by kernel_rfl) (by simpa using by omega) ?_;refine vA<|ve (5<=5/\Ab=Ab/\Aa=Aa/\5=5/\5<=5)<|zE<|zG<|zL<|zG<|zG<|zL<|zG ?_;refine zCf (5<=5) (D.tup [Am [iD<|Cs.n c,iD<|Cs.f c,Af (Ae bD<|Cs.desc c)<|Ad<|Cs.desc c,Af (Ae (λ(z:Int)=>iD z)<|Cs.P c)<|Ad<|Cs.P c,Af (Aq (i*3)<|Ai 0<|Ay<|atsB<|Cs.ats c i) i],bD Ab]) (D.tup [Am [AF<|A3 A4<|Cs.n c,AF<|A3 A4<|Cs.f c,Af (Ae bD<|Cs.desc c)<|Ad<|Cs.desc c,Af (Ae (λ(z:Int)=>iD z)<|Cs.P c)<|Ad<|Cs.P c,Af (AM atC<|Cs.ats c i) i],AF<|AV Ab]) (.inr rfl) (by omega) (by simp(disch:=omega) only[AN,htk1]) rfl
structure Cs.Few(c:Cs):Prop where
 R:c.R.length<=5
 V:c.V.length<=5
 d:c.desc.length<=10
 P:c.P.length<=10
 n:c.n<=6\/32<c.n
 r:∀l∈c.R,l.length<=10
 v:∀l∈c.V,l.length<=8
 C:(c.R.map λl=>max 1 l.length).foldl (· *·) 1<=5000
def mny(L:List (List Rw))(i:Nat):Nat:=((L.take i).map λl=>max 1 l.length).foldl (· *·) 1
theorem zXg(L:List (List Rw))(i:Nat)(h:i<L.length):mny L (i+1)=mny L i*max 1 (L.getD i []).length:=by
 grind [mny,List.take_succ_eq_append_getElem,As]
theorem few_c(c:Cs)(h:c.Small):∃b:Bool,(b=Aa->c.Few)/\Pure Ah 13 [.agg (csC c)] [] (bD b):=by
 have hV:∀i,i<c.V.length->((c.V.map zAu).drop i).headD .unk=zAu (c.V.getD i []):=λi hi=>zBf zAu c.V [] i hi;have hR:∀i,i<c.R.length->((c.R.map zBd).drop i).headD .unk=zBd (c.R.getD i []):=λi hi=>zBf zBd c.R [] i hi;have hVn:0<c.V.length->c.V.map zAu≠[]:=λh=>zAm h;have hRn:0<c.R.length->c.R.map zBd≠[]:=λh=>zAm h;have hlV:=h.V;have hlR:=h.R;have hld:=h.d;have hlP:=h.P;obtain⟨m1,m2,hm1,hg1,hm2,hg2,hend⟩:∃m1 m2,m1<=min c.R.length 6/\(∀j,j<m1->(c.R.getD j []).length<=10)/\m2<=min c.V.length 6/\(∀j,j<m2->(c.V.getD j []).length<=8)/\((m1<min c.R.length 6/\10<(c.R.getD m1 []).length)\/(m1=min c.R.length 6/\(m2<min c.V.length 6/\8<(c.V.getD m2 []).length\/m2=min c.V.length 6))):=by
  by_cases h1:∃p,p<min c.R.length 6/\decide (10<(c.R.getD p []).length)=Aa
  ·obtain⟨p,hp,hpb,hmin⟩:=zD0 (p:=λi=>decide (10<(c.R.getD i []).length)) h1;refine⟨p,0,by omega,λj hj=>?_,AX _,λj hj=>by omega, .inl ⟨hp,by simpa using hpb⟩⟩;grind
  have hall:∀j,j<min c.R.length 6->(c.R.getD j []).length<=10:=λj hj=>Bz λhh=>h1 ⟨j,hj,decide_eq_true (by omega)⟩;by_cases h2:∃p,p<min c.V.length 6/\decide (8<(c.V.getD p []).length)=Aa
  ·obtain⟨p,hp,hpb,hmin⟩:=zD0 (p:=λi=>decide (8<(c.V.getD i []).length)) h2;refine⟨_,p,Ap _,hall,by omega,λj hj=>?_, .inr ⟨rfl, .inl ⟨hp,by simpa using hpb⟩⟩⟩;grind
  exact⟨_,_,Ap _,hall,Ap _,λj hj=>Bz λhh=>h2 ⟨j,hj,decide_eq_true (by omega)⟩, .inr ⟨rfl, .inr rfl⟩⟩
 have hmb:∀i,i<=m1->mny c.R i<=10^i:=λi=>by
  induction i with
  |zero=>intro _;exact Ap _
  |succ i ih=>
   intro hi;rw[zXg c.R i (by omega),Nat.pow_succ];exact Nat.mul_le_mul (ih (by omega)) (by have:=hg1 i (by omega);omega)
 have hm6:∀i,i<=m1->mny c.R i<=1000000:=λi hi=>Ar (hmb i hi) (show 10^i<=10^6 from AL (by omega) (by omega));have hone:mny c.R 0=1:=rfl;refine⟨decide (m1=min c.R.length 6/\mny c.R m1<=5000/\m2=min c.V.length 6/\c.R.length<=5/\c.V.length<=5/\c.desc.length<=10/\c.P.length<=10/\(c.n<=6\/32<c.n)),λhb=>?_,?_⟩
 ·obtain⟨b1,b2,b3,b4,b5,b6,b7,b8⟩:=of_decide_eq_true hb;refine⟨b4,b5,b6,b7,b8,λl hl=>?_,λl hl=>?_,?_⟩;all_goals grind [Br,As,mny,BK]
 refine zF zBb mixed Tryz.func13 rfl ?_;focus
  refine vAu<|vAe<|zA<|vAe<|zH ?_;rotate_left
 refine zK (λ(i:Nat)=>fr 85 [(1,An 0 0),(3,iD (↑(mny (Cs.R c) i):Int)),(4,iD i)]) (λ(i:Nat)=>[csB c]) (λ(i:Nat)=>m1-i) (λ(i:Nat)=>i<=m1) 0 ?_ ?_ ?_
 ·omega
 ·rw[hone];refine vk 1
 intro i h1;rcases AJ i m1 with h2|h2
 ·have hr:=hR i (by omega);have hrn:=hRn (by omega);have hg:=hg1 i h2;have hsu:=zXg c.R i (by omega);have hmi:=hm6 i h1;have hmi2:=hm6 (i+1) (by omega);generalize c.R.getD i []=l at*;have hmx:(if((l.length:Nat):Int)>1 then((l.length:Nat):Int)else 1)=((max 1 l.length:Nat):Int):=by
   split<;>omega
  rw[hsu]at hmi2;focus
   refine zA<|vAs<|vew [] [(5,Aa)] (True/\0<1/\decide ((i:Int)<(Ad (Cs.R c):Int))=Aa)<|vT ((i:Int)<(6:Int))<|vKB<|zA<|vA ?_;refine vr 4 (True/\0<1/\ix ↑i (Ad (Cs.R c):Int) (Ae zBd (Cs.R c)≠[]))<|vp 20 i (Ae zBd<|Cs.R c)<|vr 1 (0<Ad (Ai i<|Ae zBd<|Cs.R c))<|vsh 21 hr<|veT<|vF ((Ad l:Int)>(10:Int))<|vK<|zB rfl<|vr 5 (True/\0<1/\ix ↑i (Ad (Cs.R c):Int) (Ae zBd (Cs.R c)≠[]))<|vp 28 i (Ae zBd<|Cs.R c)<|vr 1 (0<Ad (Ai i<|Ae zBd<|Cs.R c))<|vsh 29 hr ?_;refine vrT 2<|vs 31 (iD (if(Ad l:Int)>(1:Int)then(Ad l:Int)else(1:Int))) (iD (↑(max 1<|Ad l):Int)) (by simp(disch:=omega) only[hmx])<|vr 2 (i6 ((↑(mny (Cs.R c) i):Int)*(↑(max 1<|Ad l):Int)))<|vnil<|zD<|vN<|zB rfl<|vr 3 (i6 (↑i+1))<|vnil<|zC ?_;rotate_left
  refine⟨i+1,by omega,by omega,?_⟩;rw[hsu,Int.natCast_mul];refine vk 1
 obtain rfl:i=m1:=by omega
 rcases hend with⟨h3,h4⟩|⟨h3,h4⟩
 ·rw[decide_eq_false (by omega)];have hr:=hR i (by omega);have hrn:=hRn (by omega);generalize c.R.getD i []=l at*;focus
   refine zA<|vAs<|vew [] [(5,Aa)] (True/\0<1/\decide ((i:Int)<(Ad (Cs.R c):Int))=Aa)<|vT ((i:Int)<(6:Int))<|vKB<|zA<|vA ?_;refine vr 4 (True/\0<1/\ix ↑i (Ad (Cs.R c):Int) (Ae zBd (Cs.R c)≠[]))<|vp 20 i (Ae zBd<|Cs.R c)<|vr 1 (0<Ad (Ai i<|Ae zBd<|Cs.R c))<|vsh 21 hr<|veT<|vT ((Ad l:Int)>(10:Int))<|vAe<|zE<|zG<|zL<|zG<|zG ?_;refine zL<|zG<|vret (True)<|.inr rfl
 have hmi:=hm6 i (Ap _);generalize hmn:mny c.R i=mn at*;by_cases hm5:mn<=5000
 ·by_cases hcR:i<c.R.length
  ·focus
    refine zA<|vAs<|vew [] [(5,Aa)] (True/\0<1/\decide ((i:Int)<(Ad (Cs.R c):Int))=Aa)<|vF ((i:Int)<(6:Int))<|vZ2<|zA<|zA ?_;refine zB rfl<|veT<|vF ((mn:Int)>(5000:Int))<|vK<|zA<|vAe<|zH ?_;rotate_left
   refine zK (λ(j:Nat)=>fr 85 [(1,An 0 0),(5,iD j)]) (λ(j:Nat)=>[csB c]) (λ(j:Nat)=>m2-j) (λ(j:Nat)=>j<=m2) 0 ?_ ?_ ?_
   ·omega
   ·refine vk 1
   intro j h5;rcases AJ j m2 with h6|h6
   ·have hv:=hV j (by omega);have hvn:=hVn (by omega);have hg:=hg2 j h6;generalize c.V.getD j []=l at*;focus
     refine zA<|vAs<|vew [] [(5,Aa)] (True/\0<2/\decide ((j:Int)<(Ad (Cs.V c):Int))=Aa)<|vT ((j:Int)<(6:Int))<|vKB<|vA<|vr 4 (True/\0<2/\ix ↑j (Ad (Cs.V c):Int) (Ae zAu (Cs.V c)≠[])) ?_;refine vp 49 j (Ae zAu<|Cs.V c)<|vr 1 (0<Ad (Ai j<|Ae zAu<|Cs.V c))<|vsh 50 hv<|veT<|vF ((Ad l:Int)>(8:Int))<|zQ<|zD<|vN<|zB rfl<|vr 3 (i6 (↑j+1))<|vnil<|zC ?_;rotate_left
    refine⟨j+1,by omega,by omega,?_⟩;refine vk 1
   obtain rfl:j=m2:=by omega
   rcases h4 with⟨h7,h8⟩|h7
   ·rw[decide_eq_false (by omega)];have hv:=hV j (by omega);have hvn:=hVn (by omega);generalize c.V.getD j []=l at*;focus
     refine zA<|vAs<|vew [] [(5,Aa)] (True/\0<2/\decide ((j:Int)<(Ad (Cs.V c):Int))=Aa)<|vT ((j:Int)<(6:Int))<|vKB<|vA<|vr 4 (True/\0<2/\ix ↑j (Ad (Cs.V c):Int) (Ae zAu (Cs.V c)≠[])) ?_;refine vp 49 j (Ae zAu<|Cs.V c)<|vr 1 (0<Ad (Ai j<|Ae zAu<|Cs.V c))<|vsh 50 hv<|veT<|vT ((Ad l:Int)>(8:Int))<|vAe<|zE<|zL<|zG<|zG<|zL<|zG ?_;refine vret (True)<|.inr rfl
   rw[decide_eq_false (by omega)];by_cases hjV:j<c.V.length
   ·focus
     refine zA<|vAs<|vew [] [(5,Aa)] (True/\0<2/\decide ((j:Int)<(Ad (Cs.V c):Int))=Aa)<|vF ((j:Int)<(6:Int))<|vZ2<|vA ?_;refine vr 4 (True/\0<6) ?_;refine vsp 56 (decide (Cs.n c<=(6:Int))) (λhc=>?_)<|λhc=>?_;simp only[decide_eq_true_eq]at hc;refine vew [] [(14,Ab)] (True/\0<2/\decide ((Ad (Cs.V c):Int)<=(5:Int))=Ab)<|zE<|vret (True)<|.inr rfl;simp only[decide_eq_false_iff_not]at hc;refine vr 5 (True/\0<6) ?_;refine vsp 61 (decide (Cs.n c>(32:Int))) (λhc=>?_)<|λhc=>?_;simp only[decide_eq_true_eq]at hc;refine vew [] [(14,Ab)] (True/\0<2/\decide ((Ad (Cs.V c):Int)<=(5:Int))=Ab)<|zE<|vret (True)<|.inr rfl;simp only[decide_eq_false_iff_not]at hc;refine veT<|zE<|vret (True)<|.inr rfl
   focus
    refine zA<|vAs<|vew [] [(5,Ab)] (True/\0<2/\decide ((j:Int)<(Ad (Cs.V c):Int))=Ab)<|vf<|vZ2<|vA ?_;refine vr 4 (True/\0<6) ?_;refine vsp 56 (decide (Cs.n c<=(6:Int))) (λhc=>?_)<|λhc=>?_;simp only[decide_eq_true_eq]at hc;refine vr 11 (True/\0<2) ?_;refine vsp 67 (decide ((Ad (Cs.V c):Int)<=(5:Int))) (λhc=>?_)<|λhc=>?_;simp only[decide_eq_true_eq]at hc;refine vew [] [(20,Ab)] (True/\0<1/\decide ((Ad (Cs.R c):Int)<=(5:Int))=Ab)<|zE<|vret (True)<|.inr rfl;simp only[decide_eq_false_iff_not]at hc;refine veT<|zE<|vret (True)<|.inr rfl;simp only[decide_eq_false_iff_not]at hc;refine vr 5 (True/\0<6) ?_;refine vsp 61 (decide (Cs.n c>(32:Int))) (λhc=>?_)<|λhc=>?_;simp only[decide_eq_true_eq]at hc;refine vr 6 (True/\0<2) ?_;refine vsp 67 (decide ((Ad (Cs.V c):Int)<=(5:Int))) (λhc=>?_)<|λhc=>?_;simp only[decide_eq_true_eq]at hc;refine vew [] [(20,Ab)] (True/\0<1/\decide ((Ad (Cs.R c):Int)<=(5:Int))=Ab)<|zE<|vret (True)<|.inr rfl;simp only[decide_eq_false_iff_not]at hc;refine veT<|zE<|vret (True)<|.inr rfl;simp only[decide_eq_false_iff_not]at hc;refine veT<|zE<|vret (True)<|.inr rfl
  focus
   refine zA<|vAs<|vew [] [(5,Ab)] (True/\0<1/\decide ((i:Int)<(Ad (Cs.R c):Int))=Ab)<|vf<|vZ2<|zA<|zA ?_;refine zB rfl<|veT<|vF ((mn:Int)>(5000:Int))<|vK<|zA<|vAe<|zH ?_;rotate_left
  refine zK (λ(j:Nat)=>fr 85 [(1,An 0 0),(5,iD j)]) (λ(j:Nat)=>[csB c]) (λ(j:Nat)=>m2-j) (λ(j:Nat)=>j<=m2) 0 ?_ ?_ ?_
  ·omega
  ·refine vk 1
  intro j h5;rcases AJ j m2 with h6|h6
  ·have hv:=hV j (by omega);have hvn:=hVn (by omega);have hg:=hg2 j h6;generalize c.V.getD j []=l at*;focus
    refine zA<|vAs<|vew [] [(5,Aa)] (True/\0<2/\decide ((j:Int)<(Ad (Cs.V c):Int))=Aa)<|vT ((j:Int)<(6:Int))<|vKB<|vA<|vr 4 (True/\0<2/\ix ↑j (Ad (Cs.V c):Int) (Ae zAu (Cs.V c)≠[])) ?_;refine vp 49 j (Ae zAu<|Cs.V c)<|vr 1 (0<Ad (Ai j<|Ae zAu<|Cs.V c))<|vsh 50 hv<|veT<|vF ((Ad l:Int)>(8:Int))<|zQ<|zD<|vN<|zB rfl<|vr 3 (i6 (↑j+1))<|vnil<|zC ?_;rotate_left
   refine⟨j+1,by omega,by omega,?_⟩;refine vk 1
  obtain rfl:j=m2:=by omega
  rcases h4 with⟨h7,h8⟩|h7
  ·rw[decide_eq_false (by omega)];have hv:=hV j (by omega);have hvn:=hVn (by omega);generalize c.V.getD j []=l at*;focus
    refine zA<|vAs<|vew [] [(5,Aa)] (True/\0<2/\decide ((j:Int)<(Ad (Cs.V c):Int))=Aa)<|vT ((j:Int)<(6:Int))<|vKB<|vA<|vr 4 (True/\0<2/\ix ↑j (Ad (Cs.V c):Int) (Ae zAu (Cs.V c)≠[])) ?_;refine vp 49 j (Ae zAu<|Cs.V c)<|vr 1 (0<Ad (Ai j<|Ae zAu<|Cs.V c))<|vsh 50 hv<|veT<|vT ((Ad l:Int)>(8:Int))<|vAe<|zE<|zL<|zG<|zG<|zL<|zG ?_;refine vret (True)<|.inr rfl
  by_cases hjV:j<c.V.length
  ·rw[decide_eq_false (by omega)];focus
    refine zA<|vAs<|vew [] [(5,Aa)] (True/\0<2/\decide ((j:Int)<(Ad (Cs.V c):Int))=Aa)<|vF ((j:Int)<(6:Int))<|vZ2<|vA ?_;refine vr 4 (True/\0<6) ?_;refine vsp 56 (decide (Cs.n c<=(6:Int))) (λhc=>?_)<|λhc=>?_;simp only[decide_eq_true_eq]at hc;refine vew [] [(14,Ab)] (True/\0<2/\decide ((Ad (Cs.V c):Int)<=(5:Int))=Ab)<|zE<|vret (True)<|.inr rfl;simp only[decide_eq_false_iff_not]at hc;refine vr 5 (True/\0<6) ?_;refine vsp 61 (decide (Cs.n c>(32:Int))) (λhc=>?_)<|λhc=>?_;simp only[decide_eq_true_eq]at hc;refine vew [] [(14,Ab)] (True/\0<2/\decide ((Ad (Cs.V c):Int)<=(5:Int))=Ab)<|zE<|vret (True)<|.inr rfl;simp only[decide_eq_false_iff_not]at hc;refine veT<|zE<|vret (True)<|.inr rfl
  by_cases hfin:c.R.length<=5/\c.V.length<=5/\c.desc.length<=10/\c.P.length<=10/\(c.n<=6\/32<c.n)
  ·rw[decide_eq_true ⟨h3,hm5,h7,hfin⟩];obtain⟨f1,f2,f3,f4,f5⟩:=hfin;focus
    refine zA<|vAs<|vew [] [(5,Ab)] (True/\0<2/\decide ((j:Int)<(Ad (Cs.V c):Int))=Ab)<|vf<|vZ2<|vA ?_;refine vr 4 (True/\0<6) ?_;refine vsp 56 (decide (Cs.n c<=(6:Int))) (λhc=>?_)<|λhc=>?_;simp only[decide_eq_true_eq]at hc;refine vew [] [(14,Aa),(20,Aa),(26,Aa)] (True/\0<2/\decide ((Ad (Cs.V c):Int)<=(5:Int))=Aa/\True/\0<1/\decide ((Ad (Cs.R c):Int)<=(5:Int))=Aa/\True/\0<4/\decide ((Ad (Cs.desc c):Int)<=(10:Int))=Aa/\True/\0<3)<|zE ?_;refine vre (True) (AF<|AV<|decide ((Ad (Cs.P c):Int)<=(10:Int))) (.inr rfl) ?_;rotate_left;simp only[decide_eq_false_iff_not]at hc;refine vew [] [(8,Aa),(14,Aa),(20,Aa),(26,Aa)] (True/\0<6/\decide (Cs.n c>(32:Int))=Aa/\True/\0<2/\decide ((Ad (Cs.V c):Int)<=(5:Int))=Aa/\True/\0<1/\decide ((Ad (Cs.R c):Int)<=(5:Int))=Aa/\True/\0<4/\decide ((Ad (Cs.desc c):Int)<=(10:Int))=Aa/\True/\0<3)<|zE ?_;refine vre (True) (AF<|AV<|decide ((Ad (Cs.P c):Int)<=(10:Int))) (.inr rfl) ?_;rotate_left
   all_goals grind
  rw[decide_eq_false λhh=>hfin hh.2.2.2];focus
   refine zA<|vAs<|vew [] [(5,Ab)] (True/\0<2/\decide ((j:Int)<(Ad (Cs.V c):Int))=Ab)<|vf<|vZ2<|vA ?_;refine vr 4 (True/\0<6) ?_;refine vsp 56 (decide (Cs.n c<=(6:Int))) (λhc=>?_)<|λhc=>?_;simp only[decide_eq_true_eq]at hc;refine vr 11 (True/\0<2) ?_;refine vsp 67 (decide ((Ad (Cs.V c):Int)<=(5:Int))) (λhc=>?_)<|λhc=>?_;simp only[decide_eq_true_eq]at hc;refine vr 6 (True/\0<1) ?_;refine vsp 73 (decide ((Ad (Cs.R c):Int)<=(5:Int))) (λhc=>?_)<|λhc=>?_;simp only[decide_eq_true_eq]at hc;refine vr 6 (True/\0<4) ?_;refine vsp 79 (decide ((Ad (Cs.desc c):Int)<=(10:Int))) (λhc=>?_)<|λhc=>?_;simp only[decide_eq_true_eq]at hc;refine ve (True/\0<3)<|zE ?_;refine vre (True) (AF<|AV<|decide ((Ad (Cs.P c):Int)<=(10:Int))) (.inr rfl) ?_;rotate_left;simp only[decide_eq_false_iff_not]at hc;refine veT<|zE<|vret (True)<|.inr rfl;simp only[decide_eq_false_iff_not]at hc;refine veT<|zE<|vret (True)<|.inr rfl;simp only[decide_eq_false_iff_not]at hc;refine veT<|zE<|vret (True)<|.inr rfl;simp only[decide_eq_false_iff_not]at hc;refine vr 5 (True/\0<6) ?_;refine vsp 61 (decide (Cs.n c>(32:Int))) (λhc=>?_)<|λhc=>?_;simp only[decide_eq_true_eq]at hc;refine vr 6 (True/\0<2) ?_;refine vsp 67 (decide ((Ad (Cs.V c):Int)<=(5:Int))) (λhc=>?_)<|λhc=>?_;simp only[decide_eq_true_eq]at hc;refine vr 6 (True/\0<1) ?_;refine vsp 73 (decide ((Ad (Cs.R c):Int)<=(5:Int))) (λhc=>?_)<|λhc=>?_;simp only[decide_eq_true_eq]at hc;refine vr 6 (True/\0<4) ?_;refine vsp 79 (decide ((Ad (Cs.desc c):Int)<=(10:Int))) (λhc=>?_)<|λhc=>?_;simp only[decide_eq_true_eq]at hc;refine ve (True/\0<3)<|zE ?_;refine vre (True) (AF<|AV<|decide ((Ad (Cs.P c):Int)<=(10:Int))) (.inr rfl) ?_;rotate_left;simp only[decide_eq_false_iff_not]at hc;refine veT<|zE<|vret (True)<|.inr rfl;simp only[decide_eq_false_iff_not]at hc;refine veT<|zE<|vret (True)<|.inr rfl;simp only[decide_eq_false_iff_not]at hc;refine veT<|zE<|vret (True)<|.inr rfl;simp only[decide_eq_false_iff_not]at hc;refine veT<|zE<|vret (True)<|.inr rfl
  all_goals grind
 rw[decide_eq_false (by omega)];focus
  refine zA<|vAs<|vr 6 (True/\0<1) ?_;refine vsp 11 (decide ((i:Int)<(Ad (Cs.R c):Int))) (λhc=>?_)<|λhc=>?_;simp only[decide_eq_true_eq]at hc;refine veT<|vF ((i:Int)<(6:Int))<|vZ2<|zA<|vAe<|vT ((mn:Int)>(5000:Int))<|zA ?_;refine zB rfl<|veT<|zE<|zG<|vret (True)<|.inr rfl;simp only[decide_eq_false_iff_not]at hc;refine veT<|vf<|vZ2<|zA<|vAe<|vT ((mn:Int)>(5000:Int))<|zA ?_;refine zB rfl<|veT<|zE<|zG<|vret (True)<|.inr rfl
end
def Vt(v:Va):Prop:=(-9223372036854775808<=v.kind/\v.kind<=9223372036854775807)/\(-9223372036854775808<=v.int/\v.int<=9223372036854775807)
def Cs.Typ(c:Cs):Prop:=∀l∈c.R,∀x∈l,∀v∈x,Vt v
theorem Vt.vs{v:Va}(h:Vt v)(hv:vok v=Aa):Vs v:=by
 refine⟨h.1,h.2,?_⟩;unfold vok at hv;grind
def Cs.inp(c:Cs):Inp:=⟨c.n.toNat,c.f.toNat,c.desc,c.P.map AO,(Ak c.V.length).map λi=>((c.V.getD i []).map AO,relR (c.R.getD i []))⟩
theorem atE_0{n:Int}{a:At}(h:atE n a=0):ascB a.V=Aa/\a.V.all (inB n)=Aa/\(a.V.length:Int)=a.ar:=by
 grind [atE]
theorem atL_all{n:Int}:∀{L:List At},atL n L=0->∀a∈L,atE n a=0
 |[],_,a,h=>by cases h
 | b::L,h,a,ha=>by
  rw[atL]at h;split at h
  ·grind
  rename_i h1;rcases Az.1 ha with rfl|ha
  ·grind
  exact atL_all h a ha
theorem asc_of{l:List Int}(h:ascB l=Aa):l.Pairwise (· <·):=by
 have key:∀l:List Int,(∀i,0<i->i<l.length->l.getD (i-1) 0<l.getD i 0)->l.Pairwise (· <·):=by
  intro l;induction l with
  |nil=>exact λ_=>List.Pairwise.nil
  | cons a l ih=>
   intro h;have h1:l.Pairwise (· <·):=ih λi h0 hi=>by
    have:=h (i+1) (by omega) (by simpa using hi)
    grind
   refine BA.2 ⟨λb hb=>?_,h1⟩;cases l with
   |nil=>cases hb
   |cons d l=>
    have h2:a<d:=by simpa using h 1 (by omega) (by simp)
    grind [BA]
 refine key l λi h0 hi=>?_;have h1:=Bh.1 h i (Au.2 hi);unfold zV3 at h1;grind
theorem zYp{ar:Int}:∀{L:List Rw},accL ar L=0->∀x∈L,(x.length:Int)=ar/\x.all vok=Aa
 |[],_,a,h=>by cases h
 | b::L,h,a,ha=>by
  rw[accL]at h;split at h
  ·grind
  rename_i h1;rcases Az.1 ha with rfl|ha
  ·grind [accE]
  exact zYp h a ha
theorem foldl_r:∀(l:List Nat)(a:Nat),l.foldl (· *·) a=a*l.foldr (· *·) 1
 |[],a=>by simp
 |b::l,a=>by rw[Bt,foldl_r l (a*b),AY,Bc]
section
variable {c : Cs} (hl : c.V.length = c.R.length) (he : ∀ i, i < c.V.length → c.err i = 0) (hc : icE c.n c.f c.desc.length c.P (c.ats c.V.length) = 0)
include hc
theorem Cs.ic:0<=c.n/\c.n<=32/\0<=c.f/\c.f<=c.n/\(c.desc.length:Int)=c.f/\(c.P.length:Int)=c.n-c.f/\pany c.f c.n c.P=Ab/\lfE c.n (c.ats c.V.length)=0:=by
 unfold icE at hc;split at hc;all_goals grind
theorem Cs.lf:c.V.length<=32/\atL c.n (c.ats c.V.length)=0/\(useP c.n.toNat (c.ats c.V.length) []).contains Ab=false:=by
 obtain⟨_,_,_,_,_,_,_,h⟩:=Cs.ic hc;unfold lfE at h;rw[Cs.ats_len]at h;grind
theorem Cs.perm:(∀z∈c.P,c.f<=z/\z<c.n)/\c.P.Nodup:=by
 obtain⟨_,_,_,_,_,_,h,_⟩:=Cs.ic hc;unfold pany at h;have hp:∀i,i<c.P.length->¬c.P.getD i 0<c.f/\¬c.n<=c.P.getD i 0/\c.P.getD i 0∉c.P.take i:=λi hi=>by
  simp_all [List.any_eq_false,Au,pbad,only,Bv]
 grind [Br,As,AS,BM,BW]
theorem Cs.vars{i:Nat}(hi:i<c.V.length):(c.V.getD i []).Pairwise (· <·)/\∀z∈c.V.getD i [],0<=z/\z<c.n:=by
 obtain⟨_,h1,_⟩:=Cs.lf hc;have h2:=atE_0 (atL_all h1 (c.at i) (Ao.2 ⟨i,Au.2 hi,rfl⟩));refine⟨asc_of h2.1,λz hz=>?_⟩
 have:=Bh.1 h2.2.1 z hz
 grind [inB]
include hl he in
theorem Cs.inp_ok(hf:c.Few)(ht:c.Typ):c.inp.Ok:=by
 obtain⟨i1,i2,i3,i4,i5,i6,i7,i8⟩:=Cs.ic hc;obtain⟨l1,l2,l3⟩:=Cs.lf hc;obtain⟨p1,p2⟩:=Cs.perm hc;have hn6:c.n<=6:=by rcases hf.n with h|h<;>omega
 have hAl:c.inp.A.length=c.V.length:=by simp[Cs.inp]
 have hAt:∀i,i<c.V.length->c.inp.A.getD i Ag=((c.V.getD i []).map AO,relR (c.R.getD i [])):=λi hi=>by
  grind [Cs.inp,List.getElem?_range]
 have hrow:∀i,i<c.V.length->(c.R.getD i []).length<=10/\∀x∈c.R.getD i [],x.length=(c.V.getD i []).length/\∀v∈x,vok v=Aa/\Vs v:=λi hi=>by
  have hm:c.R.getD i []∈c.R:=by rw[AE,As (by omega)];exact AT _
  refine⟨hf.r _ hm,λx hx=>?_⟩;have h1:=he i hi;unfold Cs.err rofA at h1;split at h1
  ·omega
  unfold rofE at h1;split at h1
  ·grind
  rename_i h2;have h3:accL ((c.V.getD i []).length:Nat) (c.R.getD i [])=0:=Bz h2;obtain⟨q1,q2⟩:=zYp h3 x hx;refine⟨by omega,λv hv=>?_⟩;have h4:=Bh.1 q2 v hv;exact⟨h4,(ht _ hm x hx v hv).vs h4⟩
 refine⟨?_,?_,?_,?_,λv hv=>?_,?_,by rw[hAl];exact hf.V,?_,λa ha=>?_,?_⟩
 ·show c.n.toNat<=6;omega
 ·show c.f.toNat<=c.n.toNat;omega
 ·show c.desc.length=c.f.toNat;omega
 ·show(c.P.map AO).length+c.f.toNat=c.n.toNat;rw[AA];omega
 ·obtain⟨z,hz,rfl⟩:=Ao.1 hv
  have:=p1 z hz
  show c.f.toNat<=z.toNat/\z.toNat<c.n.toNat;omega
 ·show(c.P.map AO).Nodup;rw[AS,AZ];exact p2.imp_of_mem λ{x y} hx hy hne e=>by
   grind
 ·rw[hAl];refine⟨λi hi=>?_,λi hi w hw=>?_,λv hv=>?_⟩
  ·rw[hAt i hi];obtain⟨q1,q2⟩:=Cs.vars hc hi;exact AZ.2 (q1.imp_of_mem λ{x y} hx hy h=>by have:=q2 x hx;have:=q2 y hy;omega)
  ·rw[hAt i hi]at hw;obtain⟨z,hz,rfl⟩:=Ao.1 hw
   have:=(Cs.vars hc hi).2 z hz
   show z.toNat<c.n.toNat;omega
  have hv:v<c.n.toNat:=hv;have h1:(useP c.n.toNat (c.ats c.V.length) []).getD v Aa=true:=by
   grind
  unfold useP at h1;rw[AE,List.getElem?_map,List.getElem?_range hv,Option.map_some,Option.getD_some]at h1;simp only[BN,decide_false,Bool.or_false,Bl,decide_eq_true_eq]at h1;obtain⟨a,ha,hm⟩:=h1;obtain⟨i,hi,rfl⟩:=Ao.1 ha;have hi:=Au.1 hi;refine⟨i,hi,?_⟩;rw[hAt i hi];exact Ao.2 ⟨(v:Int),hm,by omega⟩
 ·obtain⟨i,hi,rfl⟩:=Ao.1 ha;grind [Ar,zHu,zWr,zH1]
 have h1:=hf.C;rw[foldl_r,AU]at h1;refine Ar ?_ h1;have e:c.R=(Ak c.V.length).map λi=>c.R.getD i []:=by
  apply Ba (by simp[hl]);grind
 unfold combs Cs.inp;rw[e,AI,AI];refine zTy _ _ _ λi hi=>?_;grind [Ak,relR,zHu]
theorem Cs.inp_n:(c.inp.n:Int)=c.n/\(c.inp.f:Int)=c.f:=by
 obtain⟨i1,i2,i3,_⟩:=Cs.ic hc;exact⟨by show((c.n.toNat:Nat):Int)=c.n;omega,by show((c.f.toNat:Nat):Int)=c.f;omega⟩
theorem Cs.inp_P:nsD c.inp.P=c.P.map λz=>iD z:=by
 obtain⟨p1,_⟩:=Cs.perm hc;obtain⟨_,_,i3,_⟩:=Cs.ic hc;show(c.P.map AO).map (λv:Nat=>iD (v:Int))=_;rw[AI];exact Aw λz hz=>by have:=p1 z hz;show iD ((z.toNat:Nat):Int)=iD z;rw[show((z.toNat:Nat):Int)=z by omega]
theorem Cs.inp_A:c.inp.A.flatMap atR=(c.ats c.V.length).flatMap atC:=by
 unfold Cs.inp Cs.ats;rw[Bx,Bx,List.flatMap_def,List.flatMap_def];refine congrArg List.flatten (Aw λi hi=>?_);have hi:=Au.1 hi;show[Af (((c.V.getD i []).map AO).map λv:Nat=>iD (v:Int)) ((c.V.getD i []).map AO).length,iD (((c.V.getD i []).map AO).length:Nat),_]=[Af ((c.V.getD i []).map λz=>iD z) (c.V.getD i []).length,iD ((c.V.getD i []).length:Nat),_];rw[AI,AA];congr 2;exact Aw λz hz=>by have:=(Cs.vars hc hi).2 z hz;show iD ((z.toNat:Nat):Int)=iD z;rw[show((z.toNat:Nat):Int)=z by omega]
theorem Cs.inp_D:inpN c.inp.b=inpD c.n c.f c.desc c.P (c.ats c.V.length):=by
 obtain⟨h1,h2⟩:=Cs.inp_n hc;show Am [iD (c.inp.n:Nat),iD (c.inp.f:Nat), .row (c.desc.map bD) c.desc.length, .row (nsD c.inp.P) c.inp.P.length, .row (c.inp.A.flatMap atR) c.inp.A.length]=_;rw[h1,h2,Cs.inp_P hc,Cs.inp_A hc];have e1:c.inp.P.length=c.P.length:=by simp[Cs.inp]
 have e2:c.inp.A.length=(c.ats c.V.length).length:=by rw[Cs.ats_len];simp[Cs.inp]
 rw[e1,e2]
end
section
set_option maxRecDepth 100000
section
variable {B : Nat}
theorem zQn{P:Program}{n:Nat}{t e:TypeId}(hu:P.underlying t=Aj (.slice e))(he:P.underlying e=Aj (.int .i64)){ds:List D}(h:ShpB P B n t ds):∃l:List Int,ds=[zAu l]/\l.length<=B:=by
 obtain⟨m,ls,rfl,h1,hB⟩:=zEk hu h;obtain⟨bs,h2,h3,h4⟩:=zEs (g:=λz:Int=>iD z) (Q:=λx=>True) λx hx=>by
  obtain⟨z,rfl,h5⟩:=zLo he (h1 x hx);exact⟨z,rfl,trivial⟩
 grind
theorem in_vaB{n:Nat}{ds:List D}(h:ShpB Ah B n 64 ds):∃a:Va,ds=vaC a/\Vt a:=by
 obtain⟨hl,m,hf⟩:=zNo Tryz.underlying64 h;rw[show Ah.cellsOf 64=3 by kernel_rfl]at hl;match ds,hl with
 |[a,b,c],_=>
  have c3:Ah.cellsOf 3=1:=by kernel_rfl
  have c4:Ah.cellsOf 2=1:=by kernel_rfl
  have c5:Ah.cellsOf 9=1:=by kernel_rfl
  simp only[Az,BN,or_false,forall_eq_or_imp,forall_eq,c3,c4,c5,AN,List.drop_succ_cons,List.take_succ_cons,List.take_zero]at hf;obtain⟨g0,g1,g2⟩:=hf;obtain⟨x2,e2,k2⟩:=zLo Tryz.underlying3 g0;obtain⟨x3,e3,k3⟩:=zLo Tryz.underlying2 g1;obtain⟨x4,e4,k4⟩:=zYz Tryz.underlying9 g2;simp only[Bm.injEq,and_true]at e2 e3 e4;subst e2 e3 e4;simp only[inK]at k2 k3;exact⟨⟨x2,x3,x4.data.toList⟩,rfl,⟨k2.1,k2.2⟩,⟨k3.1,k3.2⟩⟩
theorem in_rowB{n:Nat}{ds:List D}(h:ShpB Ah B n 54 ds):∃x:Rw,ds=[rowV x]/\x.length<=B/\∀a∈x,Vt a:=by
 obtain⟨m,ls,rfl,h1,hB⟩:=zEk Tryz.underlying54 h;obtain⟨bs,h2,h3,h4⟩:=zSc (g:=vaC) (Q:=Vt) λx hx=>in_vaB (h1 x hx);exact⟨bs,by rw[h2,<-h3];rfl,by omega,h4⟩
theorem in_rowsB{n:Nat}{ds:List D}(h:ShpB Ah B n 65 ds):∃l:List Rw,ds=[zBd l]/\l.length<=B/\∀x∈l,x.length<=B/\∀a∈x,Vt a:=by
 obtain⟨m,ls,rfl,h1,hB⟩:=zEk Tryz.underlying65 h;obtain⟨bs,h2,h3,h4⟩:=zEs (g:=rowV) (Q:=λx=>x.length<=B/\∀a∈x,Vt a) λx hx=>in_rowB (h1 x hx);grind
theorem arg_case{d:D}(hB:B<=2000000)(h:ArgB Ah B 27 d):∃c:Cs,d= .agg (csC c)/\c.Small/\c.Typ:=by
 obtain⟨n,ds,rfl,h'⟩:=h.agg (by kernel_rfl);clear h;obtain⟨hl,m,hf⟩:=zNo Tryz.underlying27 h';rw[show Ah.cellsOf 27=6 by kernel_rfl]at hl;match ds,hl with
 | [a,b,c,d,e,f],_=>
  have c3:Ah.cellsOf 3=1:=by kernel_rfl
  have c4:Ah.cellsOf 22=1:=by kernel_rfl
  have c5:Ah.cellsOf 23=1:=by kernel_rfl
  have c6:Ah.cellsOf 24=1:=by kernel_rfl
  have c7:Ah.cellsOf 25=1:=by kernel_rfl
  simp only[Az,BN,or_false,forall_eq_or_imp,forall_eq,c3,c4,c5,c6,c7,AN,List.drop_succ_cons,List.take_succ_cons,List.take_zero]at hf;obtain⟨g0,g1,g2,g3,g4,g5⟩:=hf;obtain⟨z0,e0,_⟩:=zLo Tryz.underlying3 g0;obtain⟨z1,e1,_⟩:=zLo Tryz.underlying3 g1;obtain⟨_,l2,e2,k2,b2⟩:=zEk Tryz.underlying22 g2;obtain⟨desc,q2,r2,_⟩:=zEs (g:=bD) (Q:=λ_=>True) λx hx=>by
   obtain⟨b,rfl⟩:=shp_bool Tryz.underlying4 (k2 x hx);exact⟨b,rfl,trivial⟩
  obtain⟨P,e3,b3⟩:=zQn Tryz.underlying23 Tryz.underlying3 g3;obtain⟨_,l4,e4,k4,b4⟩:=zEk Tryz.underlying24 g4;obtain⟨V,q4,r4,s4⟩:=zEs (g:=zAu) (Q:=λl=>l.length<=B) λx hx=>zQn Tryz.underlying23 Tryz.underlying3 (k4 x hx);obtain⟨_,l5,e5,k5,b5⟩:=zEk Tryz.underlying25 g5;obtain⟨R,q5,r5,s5⟩:=zEs (g:=zBd) (Q:=λl=>l.length<=B/\∀x∈l,x.length<=B/\∀a∈x,Vt a) λx hx=>in_rowsB (k5 x hx);simp only[Bm.injEq,and_true]at e0 e1 e2 e3 e4 e5;subst e0 e1 e2 e3 e4 e5;refine⟨⟨z0,z1,desc,P,V,R⟩,?_,⟨?_,?_,?_,?_,?_,?_⟩,λl hl x hx=>((s5 l hl).2 x hx).2⟩;all_goals grind
end
end
section
attribute [local irreducible] seqW awp zAf zAn zAd Weak updS zAx retL Pure Acts rP setP setQ cP nP fr
set_option maxRecDepth 4096
theorem lfAll_c(n:Int)(ats:List At)(h0:0<=n)(hn:n<=32)(hl:∀a∈ats,a.V.length<=2000000):Pure Ah 14 [iD n, .row (ats.flatMap atC) ats.length] [] (iD (lfE n ats)):=by
 obtain⟨k,rfl⟩:∃k:Nat,n=(k:Int):=⟨n.toNat,by omega⟩;grind [lfE,ats,lfMany_c,Int.toNat_natCast,zSd]
theorem Cs.ats_v{c:Cs}(h:c.Small){m:Nat}(hm:m<=c.V.length):∀a∈c.ats m,a.V.length<=2000000:=λa ha=>by
 obtain⟨i,hi,rfl⟩:=Ao.1 ha;have hi:=Au.1 hi;refine h.v _ ?_;show c.V.getD i []∈c.V;rw[AE,As (by omega)];exact AT _
theorem zPb(c:Cs)(h:c.Small){m:Nat}(hm:m<=c.V.length):Pure Ah 16 [inpD c.n c.f c.desc c.P (c.ats m)] [] (iD (icE c.n c.f c.desc.length c.P (c.ats m))):=by
 have hv:=Cs.ats_v h hm;have hV:=h.V;exact icheck_c c.n c.f c.desc c.P (c.ats m) h.d h.P (by rw[Cs.ats_len];omega) hv λh0 h1=>lfAll_c c.n _ h0 h1 hv
theorem zPk(c:Cs)(h:c.Small):∃(m:Nat)(ok:Bool),m<=c.V.length/\(ok=Aa↔c.V.length=c.R.length/\(∀i,i<c.V.length->c.err i=0)/\icE c.n c.f c.desc.length c.P (c.ats c.V.length)=0)/\(ok=Aa->m=c.V.length)/\
  Pure Ah 20 [.agg (csC c)] [] (.tup [inpD c.n c.f c.desc c.P (c.ats m),bD ok]):=by
 obtain⟨m,ok,h1,h2,h3,h4,h5⟩:=make_c c h;have hck:=zPb c h h1;cases ok
 ·refine⟨m,Ab,h1,⟨λhh=>(by cases hh),λhh=>?_⟩,λhh=>(by cases hh),?_⟩
  ·grind
  generalize c.ats m=ats at*;refine zF zBb mixed Tryz.func20 rfl ?_;refine vAu<|vA<|vr 1 (6<=6)<|vc h5<|ve (0<2/\1<2/\Ab=Ab/\Aa=Aa/\5=5/\5<=5)<|zA<|vd [1,2,0,3,4,5,6,7,8]<|ve (5<=5/\Ab=Ab/\Aa=Aa/\5=5/\5<=5)<|zE<|vret (5<=5)<|.inr rfl
 have hm:=h4 rfl;obtain⟨q1,q2⟩:=h3.1 rfl;by_cases hz:icE c.n c.f c.desc.length c.P (c.ats m)=0
 ·refine⟨m,Aa,h1,⟨λ_=>⟨q1,q2,hm▸hz⟩,λ_=>rfl⟩,λ_=>hm,?_⟩;rw[hz]at hck;generalize c.ats m=ats at*;refine zF zBb mixed Tryz.func20 rfl ?_;focus
   refine vAu<|vA<|vr 1 (6<=6)<|vca [Am [iD<|Cs.n c,iD<|Cs.f c,(q40_ c),Af (Ae (λ(z:Int)=>iD z)<|Cs.P c)<|Ad<|Cs.P c,(q41_ c),(q42_ c)]] (by(first|exact h5|exact hck))<|ve (0<2/\1<2/\Ab=Ab/\Aa=Aa/\5=5/\5<=5)<|zA<|vd [1,2,0,3,4,5,6,7,8]<|vr 4 (5<=5/\5<=5)<|vca [Am [iD<|Cs.n c,iD<|Cs.f c,(q40_ c),Af (Ae (λ(z:Int)=>iD z)<|Cs.P c)<|Ad<|Cs.P c,Af (AM atC ats)<|Ad ats]] (by(first|exact h5|exact hck))<|ve (True/\Ab=Ab/\Aa=Aa/\5=5/\5<=5) ?_;refine zE<|vret (5<=5)<|.inr rfl
 refine⟨m,Ab,h1,⟨λhh=>(by cases hh),λhh=>absurd (hm▸hh.2.2) hz⟩,λhh=>(by cases hh),?_⟩;generalize icE c.n c.f c.desc.length c.P (c.ats m)=e at*;generalize c.ats m=ats at*;have hze:(e==0)=false:=by simpa using hz
 refine zF zBb mixed Tryz.func20 rfl ?_;focus
  refine vAu<|vA<|vr 1 (6<=6)<|vca [Am [iD<|Cs.n c,iD<|Cs.f c,(q40_ c),Af (Ae (λ(z:Int)=>iD z)<|Cs.P c)<|Ad<|Cs.P c,(q41_ c),(q42_ c)]] (by(first|exact h5|exact hck))<|ve (0<2/\1<2/\Ab=Ab/\Aa=Aa/\5=5/\5<=5)<|zA<|vd [1,2,0,3,4,5,6,7,8]<|vr 4 (5<=5/\5<=5)<|vca [Am [iD<|Cs.n c,iD<|Cs.f c,(q40_ c),Af (Ae (λ(z:Int)=>iD z)<|Cs.P c)<|Ad<|Cs.P c,Af (AM atC ats)<|Ad ats]] (by(first|exact h5|exact hck))<|vrT 1 ?_;refine vs 16 (bD (e==(0:Int))) (bD Ab) (by simp(disch:=omega) only[hze])<|ve (Ab=Ab/\Aa=Aa/\5=5/\5<=5)<|zE<|vret (5<=5)<|.inr rfl
theorem look_p(z:D)(K:List (List Va×Nat))(r:List Va):zSb Aa z (K.map λp=>kyv p.1) (K.map λp=>iD ((p.2:Nat):Int)) (kyv r)=match tlk K r with
  |some w=> .tup [iD ((w:Nat):Int),bD Aa]
  |none=> .tup [z,bD Ab]:=by
 induction K with
 |nil=>rfl
 |cons p K ih=>
  unfold zSb zEq tlk at*;rw[AQ,AQ,List.findIdx?_cons,zWa,List.find?_cons];by_cases h:r=p.1
  ·rw[decide_eq_true h];rfl
  grind
theorem pt_nd(l:List Bu)(hn:(l.map (·.key)).Nodup):∀j,j<=l.length->ptI l j=(Ak j).map λi=>((l.getD i Ag).key,i)
 |0,_=>rfl
 |j+1,h=>by
  rw[ptI,pt_nd l hn j (by omega),BL,AW,tput];grind [BY,As,BM]
theorem pt_at(l:List Bu)(hn:(l.map (·.key)).Nodup){p:Nat}(hp:p<l.length):tlk (ptI l l.length) (l.getD p Ag).key=Aj p:=by
 rw[pt_nd l hn _ (Ap _),tlk];grind [Ak,List.find?_eq_some_iff_getElem,only,Bool.not_eq_true',As,BM]
theorem pt_no(l:List Bu)(hn:(l.map (·.key)).Nodup){r:List Va}(h:∀b∈l,b.key≠r):tlk (ptI l l.length) r=none:=by
 rw[pt_nd l hn _ (Ap _),tlk,Option.map_eq_none_iff,List.find?_eq_none];grind
abbrev zTree:D:= .agg [bD Ab, .val (.pointer none)]
section
variable (desc : List Bool) (L : List Bg) (U : Nat → List Bu) (tot : Nat)
theorem ifree_c(v:Int)(hd:desc.length<=1000000):Pure Ah 58 [ixD desc L U tot,iD v] [] (bD (decide (0<=v)&&decide (v<(desc.length:Int)))):=free_c desc _ rfl _ _ _ _ _ _ tot v hd
theorem zK5(ht:Sm tot):Pure Ah 19 [ixD desc L U tot] [] (natD tot):=by
 have hn:=zL7 tot ht;refine zF zBb mixed Tryz.func19 rfl ?_;refine vAu<|vA<|vr 2 (True/\0<1)<|vc hn<|veT<|zE<|vret (True)<|.inr rfl
theorem zPf(v:Nat)(key:List Va)(n:Nat)(hn:key.length=n)(hl:n<=10000)(hs:∀x∈key,Vs x)(hd:desc.length<=1000000)(hv:v<desc.length)(hu:((U v).map (·.key)).Nodup)(h:∀b∈U v,b.key≠key):Pure Ah 21 [ixD desc L U tot,iD (v:Nat), .row (zJ key) n] [] (.tup [zTree,bD Ab]):=by
 have hf:=ifree_c desc L U tot (v:Nat) hd;rw[show(decide (0<=((v:Nat):Int))&&decide (((v:Nat):Int)<(desc.length:Int)))=Aa by rw[BB,decide_eq_true_eq,decide_eq_true_eq];omega]at hf;have hid:=zCr key n hn (by omega) hs;have hlk:=look_p (iD 0) (ptI (U v) (U v).length) key;rw[pt_no _ hu h]at hlk;dsimp only at hlk;have hg:((fA desc.length λc=>zCc (U c)).drop v).headD .unk=zCc (U v):=by rw[zD4 hv]
 have hp:=zCa (g:=λc=>zCc (U c)) hv;refine zF zBb mixed Tryz.func21 rfl ?_;focus
  refine vAu (zA (vA (vr 2 (5<=5) (vca [Am [Af (Ae bD desc) (Ad desc),(q38_ L),Af (fA (Ad desc) λ(c:Nat)=>busD (U c)) (Ad desc),Af (fA (Ad desc) λ(c:Nat)=>zCc (U c)) (Ad desc),natD tot],iD v] (by(first|exact hf|exact hid)) (veT (vf (vK ?_)))))));refine zA (vd [0,2,5,1,3,4,6,7,8,9,10,11,12] (vr 5 (True/\0<2/\ix ↑v ↑(Ad desc) ((fA (Ad desc) λ(c:Nat)=>zCc (U c))≠[])) (vp 19 v (fA (Ad desc) λ(c:Nat)=>zCc (U c)) (vr 1 (0<Ad (Ai v (fA (Ad desc) λ(c:Nat)=>zCc (U c)))) (vsh 20 hg (vca [Af (zJ key) n] (by(first|exact hf|exact hid)) (vr 1 (zW (BC (BD BE "string" 1 16 Aa 8 8 (Aj (A5 (BF #[]))) Aa #[])) (A5 (bs (idR key)))=Aa/\List.all (Ae (λ(p:List Va×Nat)=>kyv (AR p)) (ptI (U v) (Ad (U v)))) (zW (BC (BD BE "string" 1 16 Aa 8 8 (Aj (A5 (BF #[]))) Aa #[])))=Aa) (vsh 23 hlk (ve (0<2/\1<2) (zA (vAe ?_)))) ⟨(by kernel_rfl),(by exact zF9 _)⟩))))) ⟨trivial,(by omega),⟨(by omega),⟨(by omega),(by exact fA_ne hv)⟩⟩⟩));refine vt (vA (ve ((True/\Aa=Aa)/\Ab=Ab/\Aa=Aa/\2=2/\2<=2) (zE (zG (vret (2<=2) (.inr rfl))))))
theorem zGq(v:Nat)(p n:Nat)(hn:((U v).getD p Ag).key.length=n)(hl:n<=10000)(hs:∀x∈((U v).getD p Ag).key,Vs x)(hd:desc.length<=1000000)(hv:v<desc.length)(hu:((U v).map (·.key)).Nodup)(hp:p<(U v).length)(hb:(U v).length<=1000000):Pure Ah 21 [ixD desc L U tot,iD (v:Nat), .row (zJ ((U v).getD p Ag).key) n] [] (.tup [zG1 ((U v).getD p Ag).desc ((U v).getD p Ag).t,bD Aa]):=by
 have hf:=ifree_c desc L U tot (v:Nat) hd;rw[show(decide (0<=((v:Nat):Int))&&decide (((v:Nat):Int)<(desc.length:Int)))=Aa by rw[BB,decide_eq_true_eq,decide_eq_true_eq];omega]at hf;have hid:=zCr _ n hn (by omega) hs;have hlk:=look_p (iD 0) (ptI (U v) (U v).length) ((U v).getD p Ag).key;rw[pt_at _ hu hp]at hlk;dsimp only at hlk;have hg:((fA desc.length λc=>zCc (U c)).drop v).headD .unk=zCc (U v):=by rw[zD4 hv]
 have hpo:=zCa (g:=λc=>zCc (U c)) hv;have hg2:((fA desc.length λc=>busD (U c)).drop v).headD .unk=busD (U v):=by rw[zD4 hv]
 have hpo2:=zCa (g:=λc=>busD (U c)) hv;have hg3:=zCz zCg (U v) p hp;have hle:=zEv zCg (U v) p hp;have hne:=zDe zCg (by decide) (U v) (by omega);have hg4:Aq 2 (Ai 1 (Ai (p*3) ((U v).flatMap buC)))=[bD ((U v).getD p Ag).desc,((U v).getD p Ag).t.x]:=by
  rw[<-List.drop_take (i:=1) (j:=3),hg3];rfl
 have hle2:2<=(Ai 1 (Ai (p*3) ((U v).flatMap buC))).length:=by rw[List.length_drop];omega
 generalize (U v).getD p Ag=b at*;refine zF zBb mixed Tryz.func21 rfl ?_;focus
  refine vAu (zA (vA (vr 2 (5<=5) (vca [Am [Af (Ae bD desc) (Ad desc),(q38_ L),Af (fA (Ad desc) λ(c:Nat)=>busD (U c)) (Ad desc),Af (fA (Ad desc) λ(c:Nat)=>zCc (U c)) (Ad desc),natD tot],iD v] (by(first|exact hf|exact hid)) (veT (vf (vK ?_)))))));refine zA (vd [0,2,5,1,3,4,6,7,8,9,10,11,12] (vr 5 (True/\0<2/\ix ↑v ↑(Ad desc) ((fA (Ad desc) λ(c:Nat)=>zCc (U c))≠[])) (vp 19 v (fA (Ad desc) λ(c:Nat)=>zCc (U c)) (vr 1 (0<Ad (Ai v (fA (Ad desc) λ(c:Nat)=>zCc (U c)))) (vsh 20 hg (vca [Af (zJ (Bu.key b)) n] (by(first|exact hf|exact hid)) (vr 1 (zW (BC (BD BE "string" 1 16 Aa 8 8 (Aj (A5 (BF #[]))) Aa #[])) (A5 (bs (idR (Bu.key b))))=Aa/\List.all (Ae (λ(p:List Va×Nat)=>kyv (AR p)) (ptI (U v) (Ad (U v)))) (zW (BC (BD BE "string" 1 16 Aa 8 8 (Aj (A5 (BF #[]))) Aa #[])))=Aa) (vsh 23 hlk (ve (0<2/\1<2) (zA (vAe ?_)))) ⟨(by kernel_rfl),(by exact zF9 _)⟩))))) ⟨trivial,(by omega),⟨(by omega),⟨(by omega),(by exact fA_ne hv)⟩⟩⟩));refine vf (vK (vA (vr 4 (True/\0<3/\ix ↑v ↑(Ad desc) ((fA (Ad desc) λ(c:Nat)=>busD (U c))≠[])) (vp 32 v (fA (Ad desc) λ(c:Nat)=>busD (U c)) (vr 1 (0<Ad (Ai v (fA (Ad desc) λ(c:Nat)=>busD (U c)))) (vsh 33 hg2 (vr 4 (ix ↑p (Ad (U v):Int) (AM buC (U v)≠[])/\True/\2<=Ad (Ai 1 (Ai (p*3) (AM buC (U v))))) (vs 37 (Am (Aq 2 (Ai 1 (Ai (p*3) (AM buC (U v)))))) (Am [bD (Bu.desc b),WT.x (Bu.t b)]) (by simp(disch:=omega) only[hg4]) (ve (Ab=Ab/\Aa=Aa/\2=2/\2<=2) (zE ?_))))))) ⟨trivial,(by omega),⟨(by omega),⟨(by omega),(by exact fA_ne hv)⟩⟩⟩)));refine vret (2<=2) (.inr rfl)
end
end
section
set_option maxRecDepth 100000
def nm(z:Int):Va:=⟨1,z,[]⟩
def exR:List (List Rw):=[[[nm 1,nm 1],[nm 1,nm 2],[nm 2,nm 2]],[[nm 1,nm 7],[nm 2,nm 7],[nm 2,nm 8]]]
def ex1:Cs:=⟨3,3,[Ab,Ab,Ab],[],[[0,1],[1,2]],exR⟩
def ex2:Cs:=⟨3,1,[Ab],[2,1],[[0,1],[1,2]],exR⟩
theorem exR_t:∀l∈exR,∀x∈l,∀v∈x,Vt v:=by unfold Vt;decide+kernel
theorem ex1_s:ex1.Small:=⟨by decide,by decide,by decide,by decide,by decide,by decide⟩
theorem ex2_s:ex2.Small:=⟨by decide,by decide,by decide,by decide,by decide,by decide⟩
theorem ex1_f:ex1.Few:=⟨by decide,by decide,by decide,by decide,by decide,by decide,by decide,by decide⟩
theorem ex2_f:ex2.Few:=⟨by decide,by decide,by decide,by decide,by decide,by decide,by decide,by decide⟩
theorem ex1_v:ex1.V.length=ex1.R.length/\(∀i,i<ex1.V.length->ex1.err i=0)/\icE ex1.n ex1.f ex1.desc.length ex1.P (ex1.ats ex1.V.length)=0:=by decide+kernel
theorem ex2_v:ex2.V.length=ex2.R.length/\(∀i,i<ex2.V.length->ex2.err i=0)/\icE ex2.n ex2.f ex2.desc.length ex2.P (ex2.ats ex2.V.length)=0:=by decide+kernel
theorem ex1_t:ex1.inp.tot=5:=by decide+kernel
theorem ex2_t:ex2.inp.tot=2:=by decide+kernel
theorem ex1_0:(ex1.inp.U 0).length=1/\((ex1.inp.U 0).getD 0 Ag).key=[]/\((ex1.inp.U 0).getD 0 Ag).desc=Ab/\((ex1.inp.U 0).getD 0 Ag).t.look Ab (nm 1)=Aj 3:=by decide+kernel
theorem ex1_2:(ex1.inp.U 2).length=2/\((ex1.inp.U 2).getD 1 Ag).key=[nm 2]/\((ex1.inp.U 2).getD 1 Ag).desc=Ab/\((ex1.inp.U 2).getD 1 Ag).t.sz=2:=by decide+kernel
theorem ex1_k:((ex1.inp.U 0).getD 0 Ag).t.sz<=10/\((ex1.inp.U 0).getD 0 Ag).t.tot<=2^10:=by decide+kernel
theorem ex1_n:((ex1.inp.U 0).map (·.key)).Nodup/\((ex1.inp.U 2).map (·.key)).Nodup:=by decide+kernel
end
section
attribute [local irreducible] seqW awp zAf zAn zAd Weak updS zAx retL Pure Acts rP setP setQ cP nP fr
set_option maxRecDepth 4096
theorem zHy(z:Int):Pure Ah 43 [iD z] [] (vaD (nm z)):=by
 refine zF zBb mixed Tryz.func43 rfl ?_;refine vAu<|vA<|ve (((1=1/\1<=3/\1=1/\2<=3/\True)/\Aa=Aa)/\Ab=Ab/\Aa=Aa/\3=3/\3<=3)<|zE<|vret (3<=3)<|.inr rfl
def Tex:Par:=⟨λ_=>Ab,λ_ _=>none,λ_=>Ab,λ_=>Ab,λt=>t==54||t==23||t==65⟩
theorem Tex_ok:zA7 Ah Tex:=by intro t n f h;cases h
theorem zSt:Pure Ah 47 [] [] (.agg (csC ex1)):=by
 refine zF Tex_ok mixed Tryz.func47 rfl ?_;focus
  refine vAu<|zA<|vd [0,1,2,3,4,5,6,7,8,9,10,11,12,13,14,15,16,17,18,19,20,21,22,23,24,25,26]<|vr 4 (((0:Int)<=(3:Int)/\(3:Int)<=(3:Int)/\(↑(1:Nat):Int)*(3:Int)<=(281474976710656:Int)/\(3:Int)<=(281474976710656:Int)/\0<1/\1=1)/\((1=1/\1<=2/\1=1/\2<=2/\True)/\0<1/\1=1/\2<=16777216/\2<=9223372036854775807)/\((1=1/\1<=2/\1=1/\2<=2/\True)/\0<1/\1=1/\2<=16777216/\2<=9223372036854775807)/\(1=1/\1<=2/\1=1/\2<=2/\True)/\0<1/\1=1/\2<=16777216/\2<=9223372036854775807)<|vc (zHy 1)<|vc (zHy 1)<|vr 1 ((3=3/\3<=6/\3=3/\6<=6/\True)/\0<3/\3=3/\6<=16777216/\2<=9223372036854775807)<|vc (zHy 1)<|vc (zHy 2)<|vr 1 ((3=3/\3<=6/\3=3/\6<=6/\True)/\0<3/\3=3/\6<=16777216/\2<=9223372036854775807)<|vc (zHy 2) ?_;refine vc (zHy 2)<|vr 2 (((3=3/\3<=6/\3=3/\6<=6/\True)/\0<3/\3=3/\6<=16777216/\2<=9223372036854775807)/\(1=1/\1<=3/\1=1/\2<=3/\1=1/\3<=3/\True)/\0<1/\1=1/\3<=16777216/\3<=9223372036854775807)<|vc (zHy 1)<|vc (zHy 7)<|vr 1 ((3=3/\3<=6/\3=3/\6<=6/\True)/\0<3/\3=3/\6<=16777216/\2<=9223372036854775807)<|vc (zHy 2)<|vc (zHy 7)<|vr 1 ((3=3/\3<=6/\3=3/\6<=6/\True)/\0<3/\3=3/\6<=16777216/\2<=9223372036854775807)<|vc (zHy 2)<|vc (zHy 8)<|ve (((3=3/\3<=6/\3=3/\6<=6/\True)/\0<3/\3=3/\6<=16777216/\2<=9223372036854775807)/\((1=1/\1<=3/\1=1/\2<=3/\1=1/\3<=3/\True)/\0<1/\1=1/\3<=16777216/\3<=9223372036854775807)/\((1=1/\1<=2/\1=1/\2<=2/\True)/\0<1/\1=1/\2<=16777216/\2<=9223372036854775807)/\((1=1/\1<=6/\1=1/\2<=6/\1=1/\3<=6/\1=1/\5<=6/\1=1/\6<=6/\True)/\Aa=Aa)/\Ab=Ab/\Aa=Aa/\6=6/\6<=6)<|zE<|vret (6<=6)<|.inr rfl
theorem zK8(c:Cs)(h:c.Small)(hl:c.V.length=c.R.length)(he:∀i,i<c.V.length->c.err i=0)(hc:icE c.n c.f c.desc.length c.P (c.ats c.V.length)=0)(hf:c.Few)(ht:c.Typ):∃S:Nat,S+zDm c.inp.R<=1000000000000000000/\Pure Ah 32 [iD (c.inp.n:Nat), .row (c.inp.L.flatMap bgC) c.inp.L.length, .row (c.inp.A.flatMap atR) c.inp.A.length] [] (.tup [.row (c.inp.R.flatMap atR) c.inp.R.length,iD ((S:Nat):Int),iD 0])/\
  Pure Ah 15 [inpD c.n c.f c.desc c.P (c.ats c.V.length)] [] (.tup [c.inp.ix,iD ((S+zDm c.inp.R:Nat):Int),iD 0]):=by
 have hck:=zPb c h (Ap _);rw[hc,<-Cs.inp_D hc]at hck;obtain⟨S,h1,h2,h3⟩:=Inp.build (Cs.inp_ok hl he hc hf ht) hck;rw[Cs.inp_D hc]at h3;exact⟨S,h1,h2,h3⟩
theorem zMb(a:Nat)(ha:Sm a):Pure Ah 27 [natD a,natD a] [] (iD 0):=by
 grind [ncmp_c,cmpD]
section
variable (a1 a2 a3 b1 b2 b3 : List D) (l1 l2 l3 k1 k2 k3 : Nat) (c1 c2 c3 c4 d1 d2 d3 d4 : List D) (m1 m2 m3 m4 n1 n2 n3 n4 : Nat) (t u : WT) (s1 s2 : Int) (five three two : Nat)
abbrev exI1:D:= .agg [iD 3,iD 3, .row a1 l1, .row a2 l2, .row a3 l3]
abbrev exX(five:Nat):D:= .agg [.row c1 m1, .row c2 m2, .row c3 m3, .row c4 m4,natD five]
abbrev exI2:D:= .agg [iD 3,iD 1, .row b1 k1, .row b2 k2, .row b3 k3]
set_option maxHeartbeats 4000000 in
theorem awakeW(e5:five=5)(e3:three=3)(e2:two=2)(hsz:u.sz=2)
  (h1:Pure Ah 20 [.agg (csC ex1)] [] (.tup [exI1 a1 a2 a3 l1 l2 l3,bD Aa]))
  (h2:Pure Ah 15 [exI1 a1 a2 a3 l1 l2 l3] [] (.tup [exX c1 c2 c3 c4 m1 m2 m3 m4 five,iD s1,iD 0]))
  (h3:Pure Ah 21 [exX c1 c2 c3 c4 m1 m2 m3 m4 five,iD 0, .val (.slice none 0 0)] [] (.tup [zG1 Ab t,bD Aa]))
  (h4:Pure Ah 23 [zG1 Ab t,vaD (nm 1)] [] (.tup [natD three,bD Aa]))
  (h5:Pure Ah 21 [exX c1 c2 c3 c4 m1 m2 m3 m4 five,iD 2, .row (vaC (nm 2)) 1] [] (.tup [zG1 Ab u,bD Aa]))
  (h6:Pure Ah 20 [.agg (csC ex2)] [] (.tup [exI2 b1 b2 b3 k1 k2 k3,bD Aa]))
  (h7:Pure Ah 15 [exI2 b1 b2 b3 k1 k2 k3] [] (.tup [exX d1 d2 d3 d4 n1 n2 n3 n4 two,iD s2,iD 0]))
  (h8:Pure Ah 19 [exX c1 c2 c3 c4 m1 m2 m3 m4 five] [] (natD five))
  (h9:Pure Ah 19 [exX d1 d2 d3 d4 n1 n2 n3 n4 two] [] (natD two)):Pure Ah 11 [] [] (bD Aa):=by
 have o5:Pure Ah 36 [.val (.int .u64 5)] [] (natD five):=by subst e5;exact of_c 5 (by decide)
 have o3:Pure Ah 36 [.val (.int .u64 3)] [] (natD three):=by subst e3;exact of_c 3 (by decide)
 have o2:Pure Ah 36 [.val (.int .u64 2)] [] (natD two):=by subst e2;exact of_c 2 (by decide)
 have q5:=zMb five (by subst e5;exact Sm.pow (e:=10) (by decide) (by decide));have q3:=zMb three (by subst e3;exact Sm.pow (e:=10) (by decide) (by decide));have q2:=zMb two (by subst e2;exact Sm.pow (e:=10) (by decide) (by decide));have hwl:=zV5 Ab u;rw[hsz]at hwl;refine zF zBb mixed Tryz.func11 rfl ?_;focus
  refine vAu<|vA<|vc zSt<|vc h1<|ve (0<2/\1<2/\Ab=Ab/\Aa=Aa/\5=5/\5<=5)<|vA<|vr 1 (5<=5)<|vc h2<|ve (0<3/\1<3/\2<3/\Ab=Ab/\Aa=Aa/\5=5/\5<=5) ?_;refine vA<|vr 1 (5<=5)<|vc h3<|ve (0<2/\1<2/\Ab=Ab/\Aa=Aa/\2=2/\2<=2)<|zA<|vd [0,1,2,3,4,5,6,7]<|vr 1 (2<=2)<|vc (zHy 1)<|vc h4<|ve (0<2/\1<2)<|zA<|vd [0,1,2,3,4,5,6,7,8,9]<|vr 1 (5<=5) ?_;refine vc (zHy 2)<|vr 1 ((3=3/\3<=3/\True)/\0<3/\3=3/\3<=16777216/\1<=9223372036854775807)<|vc h5<|ve (0<2/\1<2/\Ab=Ab/\Aa=Aa/\2=2/\2<=2)<|vA<|vc zSt<|ve (Ab=Ab/\Aa=Aa/\6=6/\6<=6)<|zA ?_;refine zA6 [2,0,1] [(3,[(0,6),(1,7)],[4]),(5,[(1,7)],[6,7])] rfl ?_;refine vr 3 (True/\((0:Int)<=(1:Int)/\(1:Int)<=(1:Int)/\(↑(1:Nat):Int)*(1:Int)<=(281474976710656:Int)/\(1:Int)<=(281474976710656:Int)/\0<1/\1=1)/\(1=1/\1<=2/\1=1/\2<=2/\True)/\0<1/\1=1/\2<=16777216/\2<=9223372036854775807)<|vnil<|zBz rfl rfl<|vr 1 (Ab=Ab/\Aa=Aa/\1=1/\2<=6)<|vnil ?_;refine zEd (C:=((0:Int)<=(1:Int)/\(1:Int)<=(1:Int)/\(↑(1:Nat):Int)*(1:Int)<=(281474976710656:Int)/\(1:Int)<=(281474976710656:Int)/\0<1/\1=1)/\Aj (AD 6 0 1 1 Aa)=Aj (AD 6 0 1 1 Aa)/\eqDL [bD Ab] [bD Ab]/\4=4/\1=1/\Aa=Aa/\(kdOf Ab)=kdOf Ab/\((1=1/\1<=2/\1=1/\2<=2/\True)/\0<1/\1=1/\2<=16777216/\2<=9223372036854775807)/\Aj (AD 7 0 2 2 Aa)=Aj (AD 7 0 2 2 Aa)/\eqDL [iD 2,iD 1] [iD 2,iD 1]/\3=3/\1=1/\Aa=Aa/\Ax=Ax) ⟨(by omega),(by kernel_rfl),rfl,(by kernel_rfl),(by kernel_rfl),(by kernel_rfl),(by kernel_rfl),⟨⟨(by kernel_rfl),⟨(by omega),⟨(by kernel_rfl),⟨(by omega),trivial⟩⟩⟩⟩,(by omega)⟩,(by kernel_rfl),rfl,(by kernel_rfl),(by kernel_rfl),(by kernel_rfl),(by kernel_rfl)⟩ ?_;refine vrT 1<|vnil<|zBz rfl rfl<|vr 1 (Ab=Ab/\Aa=Aa/\1=1/\3<=6)<|vnil ?_;refine zEd (C:=((1=1/\1<=2/\1=1/\2<=2/\True)/\0<1/\1=1/\2<=16777216/\2<=9223372036854775807)/\Aj (AD 7 0 2 2 Aa)=Aj (AD 7 0 2 2 Aa)/\eqDL [iD 2,iD 1] [iD 2,iD 1]/\3=3/\1=1/\Aa=Aa/\Ax=Ax) ⟨⟨⟨(by kernel_rfl),⟨(by omega),⟨(by kernel_rfl),⟨(by omega),trivial⟩⟩⟩⟩,(by omega)⟩,(by kernel_rfl),rfl,(by kernel_rfl),(by kernel_rfl),(by kernel_rfl),(by kernel_rfl)⟩ ?_;refine vr 2 (True/\Ab=Ab/\Aa=Aa/\1=1/\4<=6)<|vnil<|zBu<|vN<|vA<|vr 1 (6<=6)<|vc h6<|ve (0<2/\1<2/\Ab=Ab/\Aa=Aa/\5=5/\5<=5)<|vA<|vr 1 (5<=5)<|vc h7 ?_;refine ve (0<3/\1<3/\2<3/\Ab=Ab/\Aa=Aa/\5=5/\5<=5)<|vA<|vr 23 (True/\True/\5<=5)<|vc h8<|vc o5<|vc q5<|vrT 4<|vc o3<|vc q3<|vr 4 (True/\2<=2)<|vc hwl<|vr 4 (True/\5<=5)<|vc h9 ?_;refine vc o2<|vc q2<|veT<|zE<|vret (True)<|.inr rfl
end
theorem zV9(c:Cs)(h:c.Small)(hv:c.V.length=c.R.length/\(∀i,i<c.V.length->c.err i=0)/\icE c.n c.f c.desc.length c.P (c.ats c.V.length)=0):Pure Ah 20 [.agg (csC c)] [] (.tup [inpD c.n c.f c.desc c.P (c.ats c.V.length),bD Aa]):=by
 obtain⟨m,ok,_,h1,h2,h3⟩:=zPk c h;grind
theorem awake_c:Pure Ah 11 [] [] (bD Aa):=by
 have v1:=zV9 ex1 ex1_s ex1_v;have v2:=zV9 ex2 ex2_s ex2_v;obtain⟨S1,_,_,b1⟩:=zK8 ex1 ex1_s ex1_v.1 ex1_v.2.1 ex1_v.2.2 ex1_f exR_t;obtain⟨S2,_,_,b2⟩:=zK8 ex2 ex2_s ex2_v.1 ex2_v.2.1 ex2_v.2.2 ex2_f exR_t;obtain⟨p1,p2,p3,p4⟩:=ex1_0;obtain⟨q1,q2,q3,q4⟩:=ex1_2;obtain⟨k1,k2⟩:=ex1_k;have u0:=zGq ex1.inp.desc (ex1.inp.L.take ex1.inp.f) ex1.inp.U ex1.inp.tot 0 0 0 (by rw[p2];rfl) (by omega) (by rw[p2];simp) (by decide) (by decide) ex1_n.1 (by omega) (by omega);have u2:=zGq ex1.inp.desc (ex1.inp.L.take ex1.inp.f) ex1.inp.U ex1.inp.tot 2 1 1 (by rw[q2];rfl) (by omega) (by rw[q2];intro x hx;obtain rfl:=A1.1 hx;exact Vt.vs (by unfold Vt;decide) (by decide)) (by decide) (by decide) ex1_n.2 (by omega) (by omega);rw[p2,p3]at u0;rw[q2,q3]at u2;have g0:=wget_c Ab ((ex1.inp.U 0).getD 0 Ag).t (nm 1) ⟨by omega,Sm.pow k2 (by decide)⟩;rw[p4]at g0;have t1:=zK5 ex1.inp.desc (ex1.inp.L.take ex1.inp.f) ex1.inp.U ex1.inp.tot (by rw[ex1_t];exact Sm.pow (e:=10) (by decide) (by decide));have t2:=zK5 ex2.inp.desc (ex2.inp.L.take ex2.inp.f) ex2.inp.U ex2.inp.tot (by rw[ex2_t];exact Sm.pow (e:=10) (by decide) (by decide));refine awakeW (t:=((ex1.inp.U 0).getD 0 Ag).t) (u:=((ex1.inp.U 2).getD 1 Ag).t) (five:=ex1.inp.tot) (three:=3) (two:=ex2.inp.tot) (e5:=ex1_t) (e3:=rfl) (e2:=ex2_t) (hsz:=q4) (h1:=v1) (h2:=b1) (h3:=u0.le (.cons (.refl _) (.cons (.refl _) (.cons Bn .nil)))) (h4:=g0) (h5:=u2) (h6:=v2) (h7:=b2) (h8:=t1) (h9:=t2)
abbrev dB(c:Cs)(pm:List Int)(x y:D):Bk:=⟨[iD c.n,iD c.f, .row (c.desc.map bD) c.desc.length,zAu pm,x,y],27,0,Ab,Ab, .plain⟩
abbrev ovB(l:List (List Int)):Bk:=⟨l.map zAu,23,1,Aa,Ab, .plain⟩
abbrev orB(l:List (List Rw)):Bk:=⟨l.map zBd,65,1,Aa,Ab, .plain⟩
abbrev orS(c:Cs)(pm:List Int)(ats ats2:List At)(L1 L2:List Bg)(U W:Nat->List Bu)(tot:Nat)(x:List D):List Bk:=[csB c,dB c pm (.osl 2 0 c.V.length c.V.length Aa) (.osl 3 0 c.V.length c.V.length Aa),⟨c.V.reverse.map zAu,23,1,Aa,Aa, .plain⟩,⟨c.R.reverse.map zBd,65,1,Aa,Aa, .plain⟩,⟨[iD c.n,iD c.f, .row (c.desc.map bD) c.desc.length,zAu c.P, .row (ats.flatMap atC) ats.length],31,0,Ab,Ab, .plain⟩,⟨[iD c.n,iD c.f, .row (c.desc.map bD) c.desc.length,zAu pm, .row (ats2.flatMap atC) ats2.length],31,0,Ab,Ab, .plain⟩,⟨[.row (c.desc.map bD) c.desc.length, .row (L1.flatMap bgC) L1.length, .row (fA c.desc.length λc=>busD (U c)) c.desc.length, .row (fA c.desc.length λc=>zCc (U c)) c.desc.length,natD tot],46,0,Ab,Ab, .plain⟩,⟨[.row (c.desc.map bD) c.desc.length, .row (L2.flatMap bgC) L2.length, .row (fA c.desc.length λc=>busD (W c)) c.desc.length, .row (fA c.desc.length λc=>zCc (W c)) c.desc.length,natD tot],46,0,Ab,Ab, .plain⟩,⟨x,57,0,Ab,Ab, .plain⟩,⟨x,57,0,Ab,Ab, .plain⟩]
theorem zXk{x:Nat}:∀{l:List Nat},x∈l->x<=l.sum
 |y::l,h=>by
  rw[List.sum_cons];rcases Az.1 h with rfl|h
  ·omega
  have:=zXk h;omega
theorem go_smo{t:WT}(h:t.Ok){m:Nat}(hm:m<t.sz):Sm (t.go m).2.2.2:=by
 refine h.2.le ?_;rw[<-WT.tot_lst];refine zXk<|Ao.2 ⟨(t.go m).2.2,?_,rfl⟩;exact List.mem_of_getElem? (WT.go_lst t m hm)
section
variable (c : Cs) (pm : List Int) (ats ats2 : List At)
set_option maxHeartbeats 4000000 in
theorem ordersNe(hs:c.Small)(hne:c.V.length≠c.R.length)(b ok2:Bool)
  (h1:Pure Ah 20 [.agg (csC c)] [] (.tup [inpD c.n c.f c.desc c.P ats,bD Ab]))
  (h1':Pure Ah 20 [.agg [iD c.n,iD c.f, .row (c.desc.map bD) c.desc.length,zAu pm, .row [] 0, .row [] 0]] [] (.tup [inpD c.n c.f c.desc pm ats2,bD ok2]))
  (h2:Pure Ah 13 [.agg (csC c)] [] (bD b)):Pure Ah 5 [.agg (csC c),zAu pm] [] (bD Aa):=by
 have hV:=hs.V;have hR:=hs.R;refine zF zBb mixed Tryz.func5 rfl ?_;focus
  refine vAu<|zA<|vA<|vc awake_c<|veT<|vf<|vK<|zA ?_;refine zB rfl<|ve (6<=6/\Ab=Ab/\Aa=Aa/\6=6/\6<=6)<|vA<|ve (True/\Ab=Ab/\Aa=Aa/\1=1/\4<=6)<|vA<|vr 4 (True/\(Ab=Ab/\Aa=Aa/\1=1/\5<=6)/\True/\Ab=Ab/\Aa=Aa/\1=1/\6<=6)<|vnil<|zC<|vnn (fr 171 [(2,An 0 0),(4,bD Ab),(5,An 1 0),(33,An 1 4),(34,An 1 5)]) [AK [iD<|Cs.n c,iD<|Cs.f c,(q40_ c),Af (Ae (λ(z:Int)=>iD z)<|Cs.P c)<|Ad<|Cs.P c,(q41_ c),(q42_ c)] 27 0 Ab Ab Ax,AK [iD<|Cs.n c,iD<|Cs.f c,(q40_ c),Af (Ae (λ(z:Int)=>iD z) pm)<|Ad pm,nl,nl] 27 0 Ab Ab Ax] ?_;rotate_left
 refine zBx ((Bj (j:=1) (i:=4) (ej:=dB c pm nl0 nl0) (ovB []) rfl rfl rfl rfl).trans<|Bj (j:=1) (i:=5) (ej:=dB c pm (.osl 2 0 0 0 Aa) nl0) (orB []) rfl rfl rfl rfl) ?_;focus
  refine zA<|vAs<|ve (True/\0<2/\i6 ((Ad (Cs.V c):Int)-(1:Int)))<|zH ?_;rotate_left
 refine zK (λ(j:Nat)=>fr 171 [(2,An 0 0),(4,bD Ab),(5,An 1 0),(6,iD ((Ad (Cs.V c):Int)-(1:Int)))]) (λ(j:Nat)=>[csB c,dB c pm (.osl 2 0 0 0 Aa)<|.osl 3 0 0 0 Aa,ovB [],orB []]) (λ(j:Nat)=>0) (λ(j:Nat)=>True) 0 ?_ ?_ ?_
 ·trivial
 ·refine vk 4
 intro j _;cases b
 ·by_cases hz:c.V.length=0
  ·focus
    refine zA<|vAs<|vew [] [(2,Ab)] (decide ((Ad (Cs.V c):Int)-(1:Int)>=(0:Int))=Ab)<|vf<|vZ2<|vA ?_;refine vr 1 (6<=6)<|vc h1<|ve (0<2/\1<2/\Ab=Ab/\Aa=Aa/\5=5/\5<=5)<|vA<|vr 1 (6<=6)<|vc h1'<|ve (0<2/\1<2/\Ab=Ab/\Aa=Aa/\5=5/\5<=5)<|zA<|vA<|vr 1 (6<=6)<|vc h2<|veT ?_;refine vt<|vAe<|zE<|zG<|vret (True)<|.inr rfl
  focus
   refine zA<|vAs<|vew [] [(2,Aa)] (decide ((Ad (Cs.V c):Int)-(1:Int)>=(0:Int))=Aa/\True/\0<1/\True/\0<2/\True)<|vEf ((Ad (Cs.R c):Int)) ((Ad (Cs.V c):Int))<|vZ2<|vA ?_;refine vr 1 (6<=6)<|vc h1<|ve (0<2/\1<2/\Ab=Ab/\Aa=Aa/\5=5/\5<=5)<|vA<|vr 1 (6<=6)<|vc h1'<|ve (0<2/\1<2/\Ab=Ab/\Aa=Aa/\5=5/\5<=5)<|zA<|vA<|vr 1 (6<=6)<|vc h2<|veT ?_;refine vt<|vAe<|zE<|zG<|vret (True)<|.inr rfl
 by_cases hz:c.V.length=0
 ·focus
   refine zA<|vAs<|vew [] [(2,Ab)] (decide ((Ad (Cs.V c):Int)-(1:Int)>=(0:Int))=Ab)<|vf<|vZ2<|vA ?_;refine vr 1 (6<=6)<|vc h1<|ve (0<2/\1<2/\Ab=Ab/\Aa=Aa/\5=5/\5<=5)<|vA<|vr 1 (6<=6)<|vc h1'<|ve (0<2/\1<2/\Ab=Ab/\Aa=Aa/\5=5/\5<=5)<|zA<|vA<|vr 1 (6<=6)<|vc h2<|veT ?_;refine vt<|vAe<|zE<|zG<|vret (True)<|.inr rfl
 focus
  refine zA<|vAs<|vew [] [(2,Aa)] (decide ((Ad (Cs.V c):Int)-(1:Int)>=(0:Int))=Aa/\True/\0<1/\True/\0<2/\True)<|vEf ((Ad (Cs.R c):Int)) ((Ad (Cs.V c):Int))<|vZ2<|vA ?_;refine vr 1 (6<=6)<|vc h1<|ve (0<2/\1<2/\Ab=Ab/\Aa=Aa/\5=5/\5<=5)<|vA<|vr 1 (6<=6)<|vc h1'<|ve (0<2/\1<2/\Ab=Ab/\Aa=Aa/\5=5/\5<=5)<|zA<|vA<|vr 1 (6<=6)<|vc h2<|veT ?_;refine vt<|vAe<|zE<|zG<|vret (True)<|.inr rfl
variable (L1 L2 : List Bg) (U W : Nat → List Bu) (tot : Nat) (s1 s2 : Int)
set_option maxHeartbeats 4000000 in
theorem ordersW(hs:c.Small)(hVR:c.V.length=c.R.length)(b ok1 ok2:Bool)
  (h1:Pure Ah 20 [.agg (csC c)] [] (.tup [inpD c.n c.f c.desc c.P ats,bD ok1]))
  (h1':Pure Ah 20 [.agg [iD c.n,iD c.f, .row (c.desc.map bD) c.desc.length,zAu pm, .row (c.V.reverse.map zAu) c.V.length, .row (c.R.reverse.map zBd) c.V.length]] [] (.tup [inpD c.n c.f c.desc pm ats2,bD ok2]))
  (h2:Pure Ah 13 [.agg (csC c)] [] (bD b))
  (hall:b=Aa->ok1=Aa->ok2=Aa->
   Pure Ah 15 [inpD c.n c.f c.desc c.P ats] [] (.tup [ixD c.desc L1 U tot,iD s1,iD 0])/\
   Pure Ah 15 [inpD c.n c.f c.desc pm ats2] [] (.tup [ixD c.desc L2 W tot,iD s2,iD 0])/\Sm tot/\
   (c.f≠0->(Pure Ah 21 [ixD c.desc L1 U tot,iD 0, .val (.slice none 0 0)] [] (.tup [zTree,bD Ab])/\Pure Ah 21 [ixD c.desc L2 W tot,iD 0, .val (.slice none 0 0)] [] (.tup [zTree,bD Ab]))\/
    ∃(d:Bool)(t:WT),t.Ok/\Pure Ah 21 [ixD c.desc L1 U tot,iD 0, .val (.slice none 0 0)] [] (.tup [zG1 d t,bD Aa])/\Pure Ah 21 [ixD c.desc L2 W tot,iD 0, .val (.slice none 0 0)] [] (.tup [zG1 d t,bD Aa]))):Pure Ah 5 [.agg (csC c),zAu pm] [] (bD Aa):=by
 have hV:=hs.V;have hR:=hs.R;have hVg:∀p,p<c.V.length->((c.V.map zAu).drop p).headD .unk=zAu (c.V.getD p []):=λp hp=>zBf zAu c.V [] p hp;have hRg:∀p,p<c.V.length->((c.R.map zBd).drop p).headD .unk=zBd (c.R.getD p []):=λp hp=>zBf zBd c.R [] p (by omega);have htV:c.V.reverse.take c.V.length=c.V.reverse:=Bi (by simp);have htR:c.R.reverse.take c.V.length=c.R.reverse:=Bi (by simp;omega);have htk1:(c.V.reverse.map zAu).take c.V.length=c.V.reverse.map zAu:=Bi (by simp);have htk2:(c.R.reverse.map zBd).take c.V.length=c.R.reverse.map zBd:=Bi (by simp;omega);refine zF zBb mixed Tryz.func5 rfl ?_;focus
  refine vAu<|zA<|vA<|vc awake_c<|veT<|vf<|vK<|zA ?_;refine zB rfl<|ve (6<=6/\Ab=Ab/\Aa=Aa/\6=6/\6<=6)<|vA<|ve (True/\Ab=Ab/\Aa=Aa/\1=1/\4<=6)<|vA<|vr 4 (True/\(Ab=Ab/\Aa=Aa/\1=1/\5<=6)/\True/\Ab=Ab/\Aa=Aa/\1=1/\6<=6)<|vnil<|zC<|vnn (fr 171 [(2,An 0 0),(4,bD Ab),(5,An 1 0),(33,An 1 4),(34,An 1 5)]) [AK [iD<|Cs.n c,iD<|Cs.f c,(q40_ c),Af (Ae (λ(z:Int)=>iD z)<|Cs.P c)<|Ad<|Cs.P c,(q41_ c),(q42_ c)] 27 0 Ab Ab Ax,AK [iD<|Cs.n c,iD<|Cs.f c,(q40_ c),Af (Ae (λ(z:Int)=>iD z) pm)<|Ad pm,nl,nl] 27 0 Ab Ab Ax] ?_;rotate_left
 refine zBx ((Bj (j:=1) (i:=4) (ej:=dB c pm nl0 nl0) (ovB []) rfl rfl rfl rfl).trans<|Bj (j:=1) (i:=5) (ej:=dB c pm (.osl 2 0 0 0 Aa) nl0) (orB []) rfl rfl rfl rfl) ?_;focus
  refine zA<|vAs<|ve (True/\0<2/\i6 ((Ad (Cs.V c):Int)-(1:Int)))<|zH ?_;rotate_left
 refine zK (λ(j:Nat)=>fr 171 [(2,An 0 0),(4,bD Ab),(5,An 1 0),(6,iD ((Ad (Cs.V c):Int)-(1:Int)-(j:Int)))]) (λ(j:Nat)=>[csB c,dB c pm (.osl 2 0 j j Aa)<|.osl 3 0 j j Aa,ovB<|c.V.reverse.take j,orB<|c.R.reverse.take j]) (λ(j:Nat)=>c.V.length-j) (λ(j:Nat)=>j<=c.V.length) 0 ?_ ?_ ?_
 ·omega
 ·rw[show((c.V.length:Nat)-1-((0:Nat):Int):Int)=(c.V.length:Nat)-1 by omega];refine vk 4
 intro j h3;rcases AJ j c.V.length with h4|h4
 ·obtain⟨p,hp⟩:∃p:Nat,p=c.V.length-1-j:=⟨_,rfl⟩;have hcp:((c.V.length:Nat)-1-(j:Nat):Int)=(p:Nat):=by omega
  have hv:=hVg p (by omega);have hr:=hRg p (by omega);have hvn:c.V.map zAu≠[]:=zAm (by omega);have hrn:c.R.map zBd≠[]:=zAm (by omega);have hl1:(c.V.reverse.take j).length=j:=by simp;omega
  have hl2:(c.R.reverse.take j).length=j:=by simp;omega
  have e1:c.V.reverse.take (j+1)=c.V.reverse.take j++[c.V.getD p []]:=by
   rw[List.take_add_one,BO (by omega),<-hp,As (by omega),AE,As (by omega)];rfl
  have e2:c.R.reverse.take (j+1)=c.R.reverse.take j++[c.R.getD p []]:=by
   rw[List.take_add_one,BO (by omega),<-hVR,<-hp,As (by omega),AE,As (by omega)];rfl
  have s1:ovB (c.V.reverse.take (j+1))=⟨(c.V.reverse.take j).map zAu++[zAu (c.V.getD p [])],23,1,Aa,Ab, .plain⟩:=by rw[e1];simp
  have s2:orB (c.R.reverse.take (j+1))=⟨(c.R.reverse.take j).map zBd++[zBd (c.R.getD p [])],65,1,Aa,Ab, .plain⟩:=by rw[e2];simp
  rw[hcp];focus
   refine zA<|vAs<|vew [] [(2,Aa)] (decide ((p:Int)>=(0:Int))=Aa/\True/\0<1/\True/\0<2/\True)<|vEt ((Ad (Cs.R c):Int)) ((Ad (Cs.V c):Int))<|vKB<|zA<|vd [0,2,4,1,3,5,6,7,8,9,10]<|vr 6 (True/\True/\0<2/\0<2/\ix ↑p (Ad (Cs.V c):Int) (Ae zAu (Cs.V c)≠[])) ?_;refine vp 57 p (Ae zAu<|Cs.V c)<|vr 1 (0<Ad (Ai p<|Ae zAu<|Cs.V c))<|vsh 58 hv<|vr 4 (((1=1/\1<=1/\True)/\0<1/\1=1/\1<=16777216/\1<=9223372036854775807)/\(Bk.arr (ovB<|Aq j<|Al<|Cs.V c)=Aa/\Ad (Ay<|ovB<|Aq j<|Al<|Cs.V c)=j*1/\j=j*1/\Bk.ty (ovB<|Aq j<|Al<|Cs.V c)=23/\Bk.sz (ovB<|Aq j<|Al<|Cs.V c)=1/\1=1/\0<1/\0<24/\23=23/\(j+1)*24<=140737488355328/\1=1/\Kd.isMap (Bk.kd<|ovB<|Aq j<|Al<|Cs.V c)=Ab/\(Ab=Ab\/Kd.isSh (Bk.kd<|ovB<|Aq j<|Al<|Cs.V c)=Aa))/\True/\Ab=Ab/\Aa=Aa/\1=1/\5<=6)<|vb 1 (AK [iD<|Cs.n c,iD<|Cs.f c,Af (Ae bD<|Cs.desc c)<|Ad<|Cs.desc c,Af (Ae (λ(z:Int)=>iD z) pm)<|Ad pm,AD 2 0 (j+1) ((j+1)*1) Aa,AD 3 0 j j Aa] 27 0 Ab Ab Ax) (AK [iD<|Cs.n c,iD<|Cs.f c,Af (Ae bD<|Cs.desc c)<|Ad<|Cs.desc c,Af (Ae (λ(z:Int)=>iD z) pm)<|Ad pm,AD 2 0 (j+1) (j+1) Aa,AD 3 0 j j Aa] 27 0 Ab Ab Ax) (by simp(disch:=omega) only[Nat.mul_one]) ?_;refine veT<|vd [0,2,4,1,3,5,6,7,8,9,10]<|vr 6 (True/\True/\0<1/\0<1/\ix ↑p (Ad (Cs.R c):Int) (Ae zBd (Cs.R c)≠[]))<|vp 67 p (Ae zBd<|Cs.R c)<|vr 1 (0<Ad (Ai p<|Ae zBd<|Cs.R c))<|vsh 68 hr<|vr 4 (((1=1/\1<=1/\True)/\0<1/\1=1/\1<=16777216/\1<=9223372036854775807)/\(Aa=Aa/\Ad (Ae zBd<|Aq j<|Al<|Cs.R c)=j*1/\j=j*1/\65=65/\1=1/\1=1/\0<1/\0<24/\65=65/\(j+1)*24<=140737488355328/\1=1/\Kd.isMap Ax=Ab/\(Ab=Ab\/Kd.isSh Ax=Aa))/\True/\Ab=Ab/\Aa=Aa/\1=1/\6<=6)<|vb 1 (AK [iD<|Cs.n c,iD<|Cs.f c,Af (Ae bD<|Cs.desc c)<|Ad<|Cs.desc c,Af (Ae (λ(z:Int)=>iD z) pm)<|Ad pm,AD 2 0 (j+1) (j+1) Aa,AD 3 0 (j+1) ((j+1)*1) Aa] 27 0 Ab Ab Ax) (AK [iD<|Cs.n c,iD<|Cs.f c,Af (Ae bD<|Cs.desc c)<|Ad<|Cs.desc c,Af (Ae (λ(z:Int)=>iD z) pm)<|Ad pm,AD 2 0 (j+1) (j+1) Aa,AD 3 0 (j+1) (j+1) Aa] 27 0 Ab Ab Ax) (by simp(disch:=omega) only[Nat.mul_one]) ?_;refine vnil<|zD<|vN<|zB rfl<|vr 3 (i6 (↑p-1))<|vnil<|zC ?_;rotate_left
  refine⟨j+1,by omega,by omega,?_⟩;rw[s1,s2,show((c.V.length:Nat)-1-((j+1:Nat):Int):Int)=(p:Nat)-1 by omega];refine vk 4
 obtain rfl:j=c.V.length:=by omega
 rw[htV,htR];cases b
 ·focus
   refine zA<|vAs<|vew [] [(2,Ab)] (decide ((Ad (Cs.V c):Int)-(1:Int)-(Ad (Cs.V c):Int)>=(0:Int))=Ab)<|vf<|vZ2<|vA ?_;refine vr 1 (6<=6)<|vc h1<|ve (0<2/\1<2/\Ab=Ab/\Aa=Aa/\5=5/\5<=5)<|vA<|vr 1 (6<=6)<|vcl [Am [iD<|Cs.n c,iD<|Cs.f c,Af (Ae bD<|Cs.desc c)<|Ad<|Cs.desc c,Af (Ae (λ(z:Int)=>iD z) pm)<|Ad pm,Af (Aq (Ad<|Cs.V c)<|Ai 0<|Ay<|ovB<|Al<|Cs.V c)<|Ad<|Cs.V c,Af (Aq (Ad<|Cs.V c)<|Ai 0<|Ay<|orB<|Al<|Cs.R c)<|Ad<|Cs.V c]] [Am [iD<|Cs.n c,iD<|Cs.f c,Af (Ae bD<|Cs.desc c)<|Ad<|Cs.desc c,Af (Ae (λ(z:Int)=>iD z) pm)<|Ad pm,Af (Ae zAu<|Al<|Cs.V c)<|Ad<|Cs.V c,Af (Ae zBd<|Al<|Cs.R c)<|Ad<|Cs.V c]] (A6 (by simp(disch:=omega) only[AN,htk2,htk1])) (by exact h1')<|ve (0<2/\1<2/\Ab=Ab/\Aa=Aa/\5=5/\5<=5)<|zA<|vA<|vr 1 (6<=6)<|vc h2<|veT ?_;refine vt<|vAe<|zE<|zG<|vret (True)<|.inr rfl
 cases ok1
 ·focus
   refine zA<|vAs<|vew [] [(2,Ab)] (decide ((Ad (Cs.V c):Int)-(1:Int)-(Ad (Cs.V c):Int)>=(0:Int))=Ab)<|vf<|vZ2<|vA ?_;refine vr 1 (6<=6)<|vc h1<|ve (0<2/\1<2/\Ab=Ab/\Aa=Aa/\5=5/\5<=5)<|vA<|vr 1 (6<=6)<|vcl [Am [iD<|Cs.n c,iD<|Cs.f c,Af (Ae bD<|Cs.desc c)<|Ad<|Cs.desc c,Af (Ae (λ(z:Int)=>iD z) pm)<|Ad pm,Af (Aq (Ad<|Cs.V c)<|Ai 0<|Ay<|ovB<|Al<|Cs.V c)<|Ad<|Cs.V c,Af (Aq (Ad<|Cs.V c)<|Ai 0<|Ay<|orB<|Al<|Cs.R c)<|Ad<|Cs.V c]] [Am [iD<|Cs.n c,iD<|Cs.f c,Af (Ae bD<|Cs.desc c)<|Ad<|Cs.desc c,Af (Ae (λ(z:Int)=>iD z) pm)<|Ad pm,Af (Ae zAu<|Al<|Cs.V c)<|Ad<|Cs.V c,Af (Ae zBd<|Al<|Cs.R c)<|Ad<|Cs.V c]] (A6 (by simp(disch:=omega) only[AN,htk2,htk1])) (by exact h1')<|ve (0<2/\1<2/\Ab=Ab/\Aa=Aa/\5=5/\5<=5)<|zA<|vA<|vr 1 (6<=6)<|vc h2<|veT ?_;refine vt<|vAe<|zE<|zG<|vret (True)<|.inr rfl
 cases ok2
 ·focus
   refine zA<|vAs<|vew [] [(2,Ab)] (decide ((Ad (Cs.V c):Int)-(1:Int)-(Ad (Cs.V c):Int)>=(0:Int))=Ab)<|vf<|vZ2<|vA ?_;refine vr 1 (6<=6)<|vc h1<|ve (0<2/\1<2/\Ab=Ab/\Aa=Aa/\5=5/\5<=5)<|vA<|vr 1 (6<=6)<|vcl [Am [iD<|Cs.n c,iD<|Cs.f c,Af (Ae bD<|Cs.desc c)<|Ad<|Cs.desc c,Af (Ae (λ(z:Int)=>iD z) pm)<|Ad pm,Af (Aq (Ad<|Cs.V c)<|Ai 0<|Ay<|ovB<|Al<|Cs.V c)<|Ad<|Cs.V c,Af (Aq (Ad<|Cs.V c)<|Ai 0<|Ay<|orB<|Al<|Cs.R c)<|Ad<|Cs.V c]] [Am [iD<|Cs.n c,iD<|Cs.f c,Af (Ae bD<|Cs.desc c)<|Ad<|Cs.desc c,Af (Ae (λ(z:Int)=>iD z) pm)<|Ad pm,Af (Ae zAu<|Al<|Cs.V c)<|Ad<|Cs.V c,Af (Ae zBd<|Al<|Cs.R c)<|Ad<|Cs.V c]] (A6 (by simp(disch:=omega) only[AN,htk1,htk2])) (by exact h1')<|ve (0<2/\1<2/\Ab=Ab/\Aa=Aa/\5=5/\5<=5)<|zA<|vA<|vr 1 (6<=6)<|vc h2<|veT ?_;refine vt<|vAe<|zE<|zG<|vret (True)<|.inr rfl
 obtain⟨b1,b2,ht,hrest⟩:=hall rfl rfl rfl;have htt:=zK5 c.desc L1 U tot ht;have htw:=zK5 c.desc L2 W tot ht;have hcm:=zMb tot ht;by_cases hf0:c.f=0
 ·focus
   refine zA<|vAs<|vew [] [(2,Ab)] (decide ((Ad (Cs.V c):Int)-(1:Int)-(Ad (Cs.V c):Int)>=(0:Int))=Ab)<|vf<|vZ2<|vA ?_;refine vr 1 (6<=6)<|vc h1<|ve (0<2/\1<2/\Ab=Ab/\Aa=Aa/\5=5/\5<=5)<|vA<|vr 1 (6<=6)<|vcl [Am [iD<|Cs.n c,iD<|Cs.f c,Af (Ae bD<|Cs.desc c)<|Ad<|Cs.desc c,Af (Ae (λ(z:Int)=>iD z) pm)<|Ad pm,Af (Aq (Ad<|Cs.V c)<|Ai 0<|Ay<|ovB<|Al<|Cs.V c)<|Ad<|Cs.V c,Af (Aq (Ad<|Cs.V c)<|Ai 0<|Ay<|orB<|Al<|Cs.R c)<|Ad<|Cs.V c]] [Am [iD<|Cs.n c,iD<|Cs.f c,Af (Ae bD<|Cs.desc c)<|Ad<|Cs.desc c,Af (Ae (λ(z:Int)=>iD z) pm)<|Ad pm,Af (Ae zAu<|Al<|Cs.V c)<|Ad<|Cs.V c,Af (Ae zBd<|Al<|Cs.R c)<|Ad<|Cs.V c]] (A6 (by simp(disch:=omega) only[AN,htk2,htk1])) (by exact h1')<|ve (0<2/\1<2/\Ab=Ab/\Aa=Aa/\5=5/\5<=5)<|zA<|vA<|vr 1 (6<=6)<|vc h2<|veT ?_;refine vf<|vK<|vA<|vr 1 (5<=5)<|vc b1<|ve (0<3/\1<3/\2<3/\Ab=Ab/\Aa=Aa/\5=5/\5<=5)<|vA<|vr 1 (5<=5)<|vc b2<|ve (0<3/\1<3/\2<3/\Ab=Ab/\Aa=Aa/\5=5/\5<=5) ?_;refine zA<|zA<|vd [0,1,2,3,4,5,6,7,8,9,10,11,12,13]<|vr 8 (True/\True/\5<=5)<|vc htt<|vr 1 (5<=5)<|vc htw<|vc hcm<|veT<|vf<|vK<|zA ?_;refine vA<|ve (True/\0<5/\True)<|vEt (Cs.f c) ((0:Int))<|vAe<|zE<|zG<|vret (True)<|.inr rfl
 rcases hrest hf0 with⟨u1,u2⟩|⟨d,t,hto,u1,u2⟩
 ·have u3:Pure Ah 28 [zTree] [] (iD 0):=(zV5 Ab .nil).le (.cons (agg2_le nilx_le) .nil);focus
   refine zA<|vAs<|vew [] [(2,Ab)] (decide ((Ad (Cs.V c):Int)-(1:Int)-(Ad (Cs.V c):Int)>=(0:Int))=Ab)<|vf<|vZ2<|vA ?_;refine vr 1 (6<=6)<|vc h1<|ve (0<2/\1<2/\Ab=Ab/\Aa=Aa/\5=5/\5<=5)<|vA<|vr 1 (6<=6)<|vcl [Am [iD<|Cs.n c,iD<|Cs.f c,Af (Ae bD<|Cs.desc c)<|Ad<|Cs.desc c,Af (Ae (λ(z:Int)=>iD z) pm)<|Ad pm,Af (Aq (Ad<|Cs.V c)<|Ai 0<|Ay<|ovB<|Al<|Cs.V c)<|Ad<|Cs.V c,Af (Aq (Ad<|Cs.V c)<|Ai 0<|Ay<|orB<|Al<|Cs.R c)<|Ad<|Cs.V c]] [Am [iD<|Cs.n c,iD<|Cs.f c,Af (Ae bD<|Cs.desc c)<|Ad<|Cs.desc c,Af (Ae (λ(z:Int)=>iD z) pm)<|Ad pm,Af (Ae zAu<|Al<|Cs.V c)<|Ad<|Cs.V c,Af (Ae zBd<|Al<|Cs.R c)<|Ad<|Cs.V c]] (A6 (by simp(disch:=omega) only[AN,htk1,htk2])) (by exact h1')<|ve (0<2/\1<2/\Ab=Ab/\Aa=Aa/\5=5/\5<=5)<|zA<|vA<|vr 1 (6<=6)<|vc h2<|veT ?_;refine vf<|vK<|vA<|vr 1 (5<=5)<|vc b1<|ve (0<3/\1<3/\2<3/\Ab=Ab/\Aa=Aa/\5=5/\5<=5)<|vA<|vr 1 (5<=5)<|vc b2<|ve (0<3/\1<3/\2<3/\Ab=Ab/\Aa=Aa/\5=5/\5<=5) ?_;refine zA<|zA<|vd [0,1,2,3,4,5,6,7,8,9,10,11,12,13]<|vr 8 (True/\True/\5<=5)<|vc htt<|vr 1 (5<=5)<|vc htw<|vc hcm<|veT<|vf<|vK<|zA ?_;refine vA<|ve (True/\0<5/\True)<|vEf (Cs.f c) ((0:Int))<|vK<|vA<|vr 1 (5<=5)<|vc u1<|ve (0<2/\1<2/\Ab=Ab/\Aa=Aa/\2=2/\2<=2)<|vA ?_;refine vr 1 (5<=5)<|vc u2<|ve (0<2/\1<2/\Ab=Ab/\Aa=Aa/\2=2/\2<=2)<|zA<|zA<|vd [0,1,2,3,4,5,6,7,8,9]<|vr 5 (True/\2<=2)<|vc u3<|vr 1 (2<=2)<|vc u3<|veT<|vf<|zQ<|zC ?_;refine zAw<|zA<|vAe<|zH ?_;rotate_left
  refine zK (λ(i:Nat)=>fr 171 [(17,An 8 0),(19,An 9 0),(21,iD 0)]) (λ(i:Nat)=>orS c pm ats ats2 L1 L2 U W tot [bD Ab,.val<|.pointer none]) (λ(i:Nat)=>0) (λ(i:Nat)=>True) 0 ?_ ?_ ?_
  ·trivial
  ·refine vk 10
  intro i _;focus
   refine zA<|vAs<|vr 2 (2<=2)<|vc u3<|veT<|vf<|vZ2 ?_;refine vAe<|zE<|vret (True)<|.inr rfl
 have u3:=zV5 d t;have hat:=λ(i:Nat)(hi:i<t.sz)=>wat_c d t i hto hi;have hsz:=hto.1;focus
  refine zA<|vAs<|vew [] [(2,Ab)] (decide ((Ad (Cs.V c):Int)-(1:Int)-(Ad (Cs.V c):Int)>=(0:Int))=Ab)<|vf<|vZ2<|vA ?_;refine vr 1 (6<=6)<|vc h1<|ve (0<2/\1<2/\Ab=Ab/\Aa=Aa/\5=5/\5<=5)<|vA<|vr 1 (6<=6)<|vcl [Am [iD<|Cs.n c,iD<|Cs.f c,Af (Ae bD<|Cs.desc c)<|Ad<|Cs.desc c,Af (Ae (λ(z:Int)=>iD z) pm)<|Ad pm,Af (Aq (Ad<|Cs.V c)<|Ai 0<|Ay<|ovB<|Al<|Cs.V c)<|Ad<|Cs.V c,Af (Aq (Ad<|Cs.V c)<|Ai 0<|Ay<|orB<|Al<|Cs.R c)<|Ad<|Cs.V c]] [Am [iD<|Cs.n c,iD<|Cs.f c,Af (Ae bD<|Cs.desc c)<|Ad<|Cs.desc c,Af (Ae (λ(z:Int)=>iD z) pm)<|Ad pm,Af (Ae zAu<|Al<|Cs.V c)<|Ad<|Cs.V c,Af (Ae zBd<|Al<|Cs.R c)<|Ad<|Cs.V c]] (A6 (by simp(disch:=omega) only[AN,htk2,htk1])) (by exact h1')<|ve (0<2/\1<2/\Ab=Ab/\Aa=Aa/\5=5/\5<=5)<|zA<|vA<|vr 1 (6<=6)<|vc h2<|veT ?_;refine vf<|vK<|vA<|vr 1 (5<=5)<|vc b1<|ve (0<3/\1<3/\2<3/\Ab=Ab/\Aa=Aa/\5=5/\5<=5)<|vA<|vr 1 (5<=5)<|vc b2<|ve (0<3/\1<3/\2<3/\Ab=Ab/\Aa=Aa/\5=5/\5<=5) ?_;refine zA<|zA<|vd [0,1,2,3,4,5,6,7,8,9,10,11,12,13]<|vr 8 (True/\True/\5<=5)<|vc htt<|vr 1 (5<=5)<|vc htw<|vc hcm<|veT<|vf<|vK<|zA ?_;refine vA<|ve (True/\0<5/\True)<|vEf (Cs.f c) ((0:Int))<|vK<|vA<|vr 1 (5<=5)<|vc u1<|ve (0<2/\1<2/\Ab=Ab/\Aa=Aa/\2=2/\2<=2)<|vA ?_;refine vr 1 (5<=5)<|vc u2<|ve (0<2/\1<2/\Ab=Ab/\Aa=Aa/\2=2/\2<=2)<|zA<|zA<|vd [0,1,2,3,4,5,6,7,8,9]<|vr 5 (True/\2<=2)<|vc u3<|vr 1 (2<=2)<|vc u3<|veT<|zFs (t:=(↑(WT.sz t):Int)!=(↑(WT.sz t):Int)) (by kernel_rfl) (by simp)<|zQ<|zC ?_;refine zAw<|zA<|vAe<|zH ?_;rotate_left
 refine zK (λ(i:Nat)=>fr 171 [(17,An 8 0),(19,An 9 0),(21,iD i)]) (λ(i:Nat)=>orS c pm ats ats2 L1 L2 U W tot [bD d,t.x]) (λ(i:Nat)=>t.sz-i) (λ(i:Nat)=>i<=t.sz) 0 ?_ ?_ ?_
 ·omega
 ·refine vk 10
 intro i h3;rcases AJ i t.sz with h4|h4
 ·have hat1:=hat i h4;have hce:=zMb (t.go i).2.2.2 (go_smo hto h4);generalize (t.go i).2.2=e at*;focus
   refine zA<|vAs<|vr 2 (2<=2)<|vc u3<|veT<|vT ((i:Int)<↑(WT.sz t))<|vKB<|zA ?_;refine zB rfl<|vr 2 (2<=2)<|vc hat1<|ve (0<3/\1<3/\2<3/\Ab=Ab/\Aa=Aa/\3=3/\3<=3)<|vA<|vr 2 (2<=2)<|vc hat1<|ve (0<3/\1<3/\2<3/\Ab=Ab/\Aa=Aa/\3=3/\3<=3)<|vA<|vr 3 (3<=3/\3<=3/\True)<|vs 164 (bD !(Va.kind (AR e)==Va.kind (AR e)&&(Va.int (AR e)==Va.int (AR e)&&(ByteArray.toList (bs<|Va.str<|AR e)==ByteArray.toList (bs<|Va.str<|AR e)&&Aa)))) (bD Ab) (by simp(disch:=omega) only[beq_self_eq_true,Bool.and_true,Bool.not_true])<|vrT 3 ?_;refine vc hce<|veT<|vf<|zQ<|zD<|vN<|zB rfl<|vr 3 (i6 (↑i+1))<|vnil<|zC ?_;rotate_left
  refine⟨i+1,by omega,by omega,?_⟩;refine vk 10
 focus
  refine zA<|vAs<|vr 2 (2<=2)<|vc u3<|veT<|vF ((i:Int)<↑(WT.sz t))<|vZ2 ?_;refine vAe<|zE<|vret (True)<|.inr rfl
end
end
theorem zXb{n:Nat}{O:List Nat}{nb:Nat->Nat}(hO:Ook n O)(h0:Nbk n O 0 nb){u w:Nat}(hu:u<n)(hw:w<n)(hne:w≠u){i j:Nat}(hij:i<=j)(hju:j<=O.idxOf u)(hjw:j<=O.idxOf w)(hb:(nbT n O nb i u).testBit w=Aa):(nbT n O nb j u).testBit w=true:=by
 induction j with
 |zero=>
  grind
 | succ j ih=>
  rcases AJ j i with h1|h1
  ·grind
  have h2:=ih h1 (by omega) (by omega);have hj:j<n:=by have:=(hO.ix hu).1;omega
  obtain⟨v1,v2⟩:=hO.at hj;have hwv:w≠O.getD j 0:=λe=>by rw[e,v2]at hjw;omega
  rw[nbT,zJs hO.n32 hu v1 (zH0 h0.b j u) (zH0 h0.b j _),h2];grind
theorem zZe{n:Nat}{O:List Nat}{nb:Nat->Nat}(hO:Ook n O)(h0:Nbk n O 0 nb){c u w:Nat}(hc:c<n)(ku:(bagE n O nb c).k.testBit u=Aa)(kw:(bagE n O nb c).k.testBit w=Aa)(hne:w≠u)(hi:O.idxOf u<=O.idxOf w):(bagE n O nb u).k.testBit w=true:=by
 have hr:=(zVx hO h0).r c;obtain⟨u1,u2⟩:=hr u hc ku;obtain⟨w1,w2⟩:=hr w hc kw;obtain⟨c1,c2⟩:=hO.ix hc;have hwc:w≠c:=λe=>by rw[e]at w2;omega
 refine zXb hO h0 (i:=O.idxOf c+1) u1 w1 hne (by omega) (Ap _) hi ?_;have ku':(nbT n O nb (O.idxOf c) c).testBit u=true:=ku;have kw':(nbT n O nb (O.idxOf c) c).testBit w=true:=kw;rw[nbT,c2,zJs hO.n32 u1 hc (zH0 h0.b _ u) (zH0 h0.b _ c),if_pos ku',kw'];simp[hne,hwc]
theorem key_par{n:Nat}{O:List Nat}{nb:Nat->Nat}(hO:Ook n O)(h0:Nbk n O 0 nb){c v w:Nat}(hc:c<n)(hp:(bagE n O nb c).p=(v:Int))(kw:(bagE n O nb c).k.testBit w=Aa)(hne:w≠v):(bagE n O nb v).k.testBit w=true:=by
 obtain⟨p1,p2⟩:=(zVx hO h0).p c v hc hp;grind [zZe]
theorem zQt{n:Nat}{O:List Nat}{E:List Nat}(hO:Ook n O)(hE:∀e∈E,e<2^n)(h0:Nbk n O 0 λv=>if v<n then nbE E v else 0){e u w:Nat}(he:e∈E)(hu:e.testBit u=Aa)(hw:e.testBit w=Aa)(hne:w≠u)(hi:O.idxOf u<=O.idxOf w):(bagE n O (λv=>if v<n then nbE E v else 0) u).k.testBit w=true:=by
 have hlt:∀v,e.testBit v=Aa->v<n:=λv hv=>by
  grind [AJ,Nat.testBit_lt_two_pow,Bw,AL]
 have hu1:=hlt u hu;have hw1:=hlt w hw;have hn:=hO.n32;have hE2:∀e∈E,e<4294967296:=λx hx=>Bw (hE x hx) (show 2^n<=2^32 from AL (by omega) hn);refine zXb hO h0 (i:=0) hu1 hw1 hne (AX _) (Ap _) hi ?_;show(if u<n then nbE E u else 0).testBit w=Aa;grind [zQd,Bl]
structure Elt(n:Nat)(ix:Nat->Nat)(k:Nat->Nat->Prop)(par:Nat->Nat->Prop):Prop where
 inj:∀u v,u<n->v<n->ix u=ix v->u=v
 kk:∀c w,c<n->k c w->w<n/\ix c<ix w
 pp:∀c v,c<n->par c v->k c v/\∀w,k c w->w≠v->k v w
 uu:∀c v v',par c v->par c v'->v=v'
 qq:∀c w,c<n->k c w->∃v,par c v
inductive Und(par:Nat->Nat->Prop):Nat->Nat->Prop
 |refl (c:Nat):Und par c c
 |step {u v c:Nat}:par u v->Und par v c->Und par u c
section
variable {n : Nat} {ix : Nat → Nat} {k : Nat → Nat → Prop} {par : Nat → Nat → Prop} (H : Elt n ix k par)
include H
theorem Elt.pn{c v:Nat}(hc:c<n)(h:par c v):v<n/\ix c<ix v:=H.kk c v hc (H.pp c v hc h).1
theorem Elt.und_ix{u c:Nat}(h:Und par u c)(hu:u<n):c<n/\ix u<=ix c:=by
 induction h with
 |refl=>exact⟨hu,Ap _⟩
 |step hp _ ih=>
  obtain⟨h1,h2⟩:=H.pn hu hp;omega
theorem Elt.und_key{u c:Nat}(h:Und par u c)(hu:u<n){w:Nat}(hw:k u w):Und par w c\/k c w:=by
 induction h with
 |refl=>exact .inr hw
 |step hp hs ih=>
  rename_i u v c;obtain⟨h1,_⟩:=H.pn hu hp;by_cases e:w=v
  ·subst e;exact .inl hs
  exact ih h1 ((H.pp u v hu hp).2 w hw e)
omit H in
theorem Und.trans{u v w:Nat}(h:Und par u v)(g:Und par v w):Und par u w:=by
 induction h with
 |refl=>exact g
 |step hp _ ih=>exact .step hp (ih g)
theorem Elt.und_one{u c:Nat}(h:Und par u c):∀{d:Nat},Und par u d->Und par c d\/Und par d c:=by
 induction h with
 |refl=>exact λg=> .inl g
 | step hp hs ih=>
  intro d g;cases g with
  |refl=>exact .inr (.step hp hs)
  |step hp' hs'=>
   obtain rfl:=H.uu _ _ _ hp hp';exact ih hs'
theorem Elt.sib{v c d u:Nat}(hc:c<n)(hd:d<n)(pc:par c v)(pd:par d v)(h1:Und par u c)(h2:Und par u d):c=d:=by
 rcases H.und_one h1 h2 with h|h
 ·cases h with
  |refl=>rfl
  |step hp hs=>
   obtain rfl:=H.uu _ _ _ pc hp;have h3:=H.und_ix hs (H.pn hc pc).1;have h4:=H.pn hd pd;omega
 cases h with
 |refl=>rfl
 |step hp hs=>
  obtain rfl:=H.uu _ _ _ pd hp;have h3:=H.und_ix hs (H.pn hd pd).1;have h4:=H.pn hc pc;omega
end
section
variable {α : Type} {n : Nat} {ix : Nat → Nat} {k : Nat → Nat → Prop} {par : Nat → Nat → Prop} (H : Elt n ix k par) (R : Nat → (Nat → α) → Prop)
def Loc(k:Nat->Nat->Prop)(R:Nat->(Nat->α)->Prop):Prop:=∀v σ τ,σ v=τ v->(∀w,k v w->σ w=τ w)->R v σ->R v τ
def AllU(n:Nat)(par:Nat->Nat->Prop)(R:Nat->(Nat->α)->Prop)(v:Nat)(σ:Nat->α):Prop:=∀u,u<n->Und par u v->R u σ
include H
theorem Elt.join2(hR:Loc k R){v:Nat}(hv:v<n){σ:Nat->α}(h0:R v σ)(g:Nat->Nat->α)(hg:∀c,c<n->par c v->(∀w,k c w->g c w=σ w)/\AllU n par R c (g c)):
  ∃τ,((∀w,¬(∃c,c<n/\par c v/\Und par w c)->τ w=σ w)/\∀w c,c<n->par c v->Und par w c->τ w=g c w)/\AllU n par R v τ:=by
 classical
 let τ:Nat->α:=λw=>if h:∃c,c<n/\par c v/\Und par w c then g (A2 h) w else σ w
 have hτ1:∀w c,c<n->par c v->Und par w c->τ w=g c w:=λw c h1 h2 h3=>by
  have h:∃c,c<n/\par c v/\Und par w c:=⟨c,h1,h2,h3⟩;obtain⟨s1,s2,s3⟩:=BX h;show(if h:∃c,c<n/\par c v/\Und par w c then g (A2 h) w else σ w)=g c w;rw[dif_pos h,H.sib s1 h1 s2 h2 s3 h3]
 have hτ0:∀w,¬(∃c,c<n/\par c v/\Und par w c)->τ w=σ w:=λw h=>dif_neg h;have hup:∀w,w<n->ix v<=ix w->¬(∃c,c<n/\par c v/\Und par w c):=λw hw hi ⟨c,h1,h2,h3⟩=>by
  have:=H.und_ix h3 hw
  have:=H.pn h1 h2
  omega
 refine⟨τ,⟨hτ0,hτ1⟩,λu hu h=>?_⟩;have hcase:u=v\/∃c,c<n/\par c v/\Und par u c:=by
  clear h0;induction h with
  |refl=>exact .inl rfl
  |step hp hs ih=>
   rename_i u' v' c';rcases ih hv hg hτ1 hτ0 hup (H.pn hu hp).1 with rfl|⟨c,c1,c2,c3⟩
   ·exact .inr ⟨u',hu,hp, .refl _⟩
   exact .inr ⟨c,c1,c2, .step hp c3⟩
 rcases hcase with rfl|⟨c,c1,c2,c3⟩
 ·refine hR u σ τ ?_ (λw hw=>?_) h0
  ·grind
  have:=H.kk u w hu hw
  grind
 obtain⟨g1,g2⟩:=hg c c1 c2;refine hR u (g c) τ (hτ1 u c c1 c2 c3).symm (λw hw=>?_) (g2 u hu c3);rcases H.und_key c3 hu hw with h|h
 ·grind
 have hkv:w=v\/k v w:=by
  by_cases e:w=v
  ·exact .inl e
  exact .inr ((H.pp c v c1 c2).2 w h e)
 have hwn:=H.kk c w c1 h;have hwi:ix v<=ix w:=by
  rcases hkv with rfl|h'
  ·exact Ap _
  have:=H.kk v w hv h';omega
 grind
end
def Crd{α:Type}(Q:List α->Prop)(m:Nat):Prop:=∃L:List (List α),L.Nodup/\(∀y,y∈L↔Q y)/\L.length=m
section
variable {α : Type}
theorem Crd.congr{Q Q':List α->Prop}{m:Nat}(h:Crd Q m)(e:∀y,Q y↔Q' y):Crd Q' m:=by
 obtain⟨L,h1,h2,h3⟩:=h;exact⟨L,h1,λy=>(h2 y).trans (e y),h3⟩
theorem Crd.one{m:Nat}{A:Prop}(h1:A->m=1)(h0:¬A->m=0):Crd (λy:List α=>y=[]/\A) m:=by
 by_cases hA:A
 ·exact⟨[[]],by simp,λy=>by simp[hA],by rw[h1 hA];rfl⟩
 exact⟨[],A7,λy=>by simp[hA],by rw[h0 hA];rfl⟩
theorem Crd.uniq{Q:List α->Prop}{m m':Nat}(h:Crd Q m)(h':Crd Q m'):m=m':=by
 classical
 obtain⟨L,h1,h2,rfl⟩:=h;obtain⟨L',k1,k2,rfl⟩:=h';have:L.Perm L':=(BP h1 k1).2 λy=>(h2 y).trans (k2 y).symm;exact this.length_eq
theorem Crd.pos{Q:List α->Prop}{m:Nat}(h:Crd Q m):0<m↔∃y,Q y:=by
 obtain⟨L,h1,h2,rfl⟩:=h;grind [List.length_pos_iff_exists_mem]
theorem nd_app{L M:List (List α)}{l:Nat}(h1:L.Nodup)(h2:M.Nodup)(hl:∀y∈L,y.length=l):(L.flatMap λa=>M.map λb=>a++b).Nodup:=by
 rw[AS,List.pairwise_flatMap];refine⟨λa ha=>?_,?_⟩
 ·grind [List.append_cancel_left]
 refine h1.imp_of_mem λ{a b} ha hb hne x hx y hy e=>?_;grind [List.append_inj_left]
theorem Crd.mul{Q Q':List α->Prop}{m m' l:Nat}(h:Crd Q m)(h':Crd Q' m')(hl:∀y,Q y->y.length=l):Crd (λy=>∃a b,Q a/\Q' b/\y=a++b) (m*m'):=by
 obtain⟨L,h1,h2,rfl⟩:=h;obtain⟨M,k1,k2,rfl⟩:=h';refine⟨L.flatMap λa=>M.map λb=>a++b,nd_app h1 k1 λy hy=>hl y ((h2 y).1 hy),λy=>?_,?_⟩
 ·grind
 have hs:∀L:List (List α),(L.map λa=>(M.map λb=>a++b).length).sum=L.length*M.length:=by
  intro L;induction L<;>grind
 simp_all
theorem Crd.prod{Q:Nat->List α->Prop}{m l:Nat->Nat}:∀(cs:List Nat),cs.Nodup->(∀c∈cs,Crd (Q c) (m c))->(∀c∈cs,∀y,Q c y->y.length=l c)->Crd (λy=>∃g:Nat->List α,(∀c∈cs,Q c (g c))/\y=cs.flatMap g) ((cs.map m).foldr (· *·) 1)
 |[],_,_,_=>⟨[[]],by simp,λy=>by simp,rfl⟩
 | c::cs,hn,h,hl=>by
  rw[Bs]at hn;have ih:=Crd.prod cs hn.2 (λd hd=>h d (AC _ hd)) λd hd=>hl d (AC _ hd);have hm:=(h c (AH ..)).mul ih (hl c (AH ..));refine hm.congr λy=>⟨?_,?_⟩
  ·rintro⟨a,b,ha,⟨g,hg,rfl⟩,rfl⟩;refine⟨λd=>if d=c then a else g d,λd hd=>?_,?_⟩
   ·grind
   rw[List.flatMap_cons,if_pos rfl];congr 1;simp only[AM];congr 1;exact Aw λd h9=>(if_neg λe=>hn.1 (by rw[<-e];exact h9)).symm
  grind
theorem Crd.sum{Q:α->List α->Prop}{m:α->Nat}:∀(xs:List α),xs.Nodup->(∀x∈xs,Crd (Q x) (m x))->Crd (λy=>∃x z,x∈xs/\Q x z/\y=x::z) ((xs.map m).sum)
 |[],_,_=>⟨[],A7,λy=>by simp,rfl⟩
 |x::xs,hn,h=>by
  rw[Bs]at hn;obtain⟨M,k1,k2,k3⟩:=Crd.sum xs hn.2 λz hz=>h z (AC _ hz);obtain⟨L,h1,h2,h3⟩:=h x (AH ..);refine⟨L.map (x::·)++M,?_,λy=>?_,by rw[List.length_append,AA,h3,k3,AQ,List.sum_cons]⟩;all_goals grind
end
section
variable {α : Type} {n : Nat} {ix : Nat → Nat} {k : Nat → Nat → Prop} {par : Nat → Nat → Prop} (H : Elt n ix k par) (R : Nat → (Nat → α) → Prop) (ch : Nat → List Nat) (fr : Nat → Bool)
def Dn(ch:Nat->List Nat)(fr:Nat->Bool):Nat->Nat->List Nat
 |0,_=>[]
 |m+1,v=>(ch v).flatMap λc=>if fr c then c::Dn ch fr m c else[]
def Pv(n:Nat)(k par:Nat->Nat->Prop)(R:Nat->(Nat->α)->Prop)(ch:Nat->List Nat)(fr:Nat->Bool)(m v:Nat)(σ:Nat->α)(y:List α):Prop:=∃τ,τ v=σ v/\(∀w,k v w->τ w=σ w)/\AllU n par R v τ/\y=(Dn ch fr m v).map τ
def Qv(n:Nat)(k par:Nat->Nat->Prop)(R:Nat->(Nat->α)->Prop)(ch:Nat->List Nat)(fr:Nat->Bool)(m c:Nat)(σ:Nat->α)(y:List α):Prop:=∃τ,(∀w,k c w->τ w=σ w)/\AllU n par R c τ/\y=if fr c then(c::Dn ch fr m c).map τ else[]
include H
theorem Elt.split(hR:Loc k R)(hch:∀v c,c∈ch v↔c<n/\par c v){m v:Nat}(hv:v<n){σ:Nat->α}(h0:R v σ)(hD:∀c,c∈ch v->∀u∈Dn ch fr m c,Und par u c)(y:List α):
  Pv n k par R ch fr (m+1) v σ y↔∃g:Nat->List α,(∀c∈ch v,Qv n k par R ch fr m c σ (g c))/\y=(ch v).flatMap g:=by
 constructor
 ·rintro⟨τ,t1,t2,t3,rfl⟩;refine⟨λc=>if fr c then(c::Dn ch fr m c).map τ else[],λc hc=>?_,?_⟩
  ·obtain⟨c1,c2⟩:=(hch v c).1 hc;refine⟨τ,λw hw=>?_,λu hu h=>t3 u hu (h.trans (.step c2 (.refl _))),rfl⟩;by_cases e:w=v
   ·rw[e,t1]
   exact t2 w ((H.pp c v c1 c2).2 w hw e)
  grind [Dn,List.map_flatMap,only,AM,Aw]
 rintro⟨g,hg,rfl⟩;obtain⟨f,hf⟩:∃f:Nat->Nat->α,∀c∈ch v,(∀w,k c w->f c w=σ w)/\AllU n par R c (f c)/\g c=if fr c then(c::Dn ch fr m c).map (f c)else[]:=by
  classical
  refine⟨λc=>if h:c∈ch v then A2 (hg c h)else σ,λc hc=>?_⟩;grind
 obtain⟨τ,t0,t1⟩:=H.join2 R hR hv h0 (λc=>f c) λc c1 c2=>⟨(hf c ((hch v c).2 ⟨c1,c2⟩)).1,(hf c ((hch v c).2 ⟨c1,c2⟩)).2.1⟩;have hup:∀w,w<n->ix v<=ix w->τ w=σ w:=λw hw hi=>t0.1 w λ⟨c,h1,h2,h3⟩=>by
  have:=H.und_ix h3 hw
  have:=H.pn h1 h2
  omega
 refine⟨τ,hup v hv (Ap _),λw hw=>?_,t1,?_⟩
 ·have:=H.kk v w hv hw
  exact hup w this.1 (by omega)
 rw[Dn,List.map_flatMap];simp only[AM];congr 1;refine Aw λc hc=>?_;obtain⟨c1,c2⟩:=(hch v c).1 hc;rw[(hf c hc).2.2];split
 ·refine Aw λu hu=>?_;have hu2:Und par u c:=by
   rcases Az.1 hu with rfl|hu
   ·exact .refl _
   exact hD c hc u hu
  exact(t0.2 u c c1 c2 hu2).symm
 rfl
def up(σ:Nat->α)(c:Nat)(a:α):Nat->α:=λw=>if w=c then a else σ w
omit H in
theorem zQ8(σ:Nat->α)(c:Nat)(a:α):up σ c a c=a:=if_pos rfl
omit H in
theorem zKs(σ:Nat->α){c w:Nat}(a:α)(h:w≠c):up σ c a w=σ w:=if_neg h
omit H in
theorem Elt.Dn_und(hch:∀v c,c∈ch v↔c<n/\par c v):∀(m v:Nat),∀u∈Dn ch fr m v,Und par u v
 |0,v,u,h=>by cases h
 | m+1,v,u,h=>by
  obtain⟨c,hc,hu⟩:=A_.1 h;obtain⟨c1,c2⟩:=(hch v c).1 hc;split at hu
  ·rcases Az.1 hu with rfl|hu
   ·exact .step c2 (.refl _)
   exact(Elt.Dn_und hch m c u hu).trans (.step c2 (.refl _))
  cases hu
theorem Elt.count(hR:Loc k R)(hch:∀v c,c∈ch v↔c<n/\par c v)(hnd:∀v,(ch v).Nodup)(W:Nat->(Nat->α)->Nat)(one:Nat->(Nat->α)->Nat)(vals:Nat->(Nat->α)->List α)
  (hW:∀v σ,v<n->R v σ->W v σ=((ch v).map λc=>one c σ).foldr (· *·) 1)
  (hv1:∀c σ,c<n->(∃v,par c v)->(vals c σ).Nodup/\∀a,a∈vals c σ↔R c (up σ c a))
  (h1:∀c σ,c<n->(∃v,par c v)->fr c=Aa->one c σ=((vals c σ).map λa=>W c (up σ c a)).sum)
  (h0:∀c σ,c<n->(∃v,par c v)->fr c=Ab->((∃a,R c (up σ c a)/\0<W c (up σ c a))->one c σ=1)/\(¬(∃a,R c (up σ c a)/\0<W c (up σ c a))->one c σ=0)):
  ∀(m v:Nat)(σ:Nat->α),v<n->ix v<m->R v σ->Crd (Pv n k par R ch fr m v σ) (W v σ)
 |0,v,σ,_,h,_=>by omega
 | m +1,v,σ,hv,hm,hr=>by
  have hq:∀c∈ch v,Crd (Qv n k par R ch fr m c σ) (one c σ):=λc hc=>by
   obtain⟨c1,c2⟩:=(hch v c).1 hc;have hix:=(H.pn c1 c2).2;have hkc:∀w,k c w->w≠c:=λw hw e=>by
    have:=H.kk c w c1 hw
    rw[e]at this;omega
   have ih:=λa (ha:R c (up σ c a))=>Elt.count hR hch hnd W one vals hW hv1 h1 h0 m c (up σ c a) c1 (by omega) ha;have hgo:∀τ:Nat->α,(∀w,k c w->τ w=σ w)->AllU n par R c τ->R c (up σ c (τ c)):=λτ t1 t2=>by
    refine hR c τ _ (zQ8 σ c _).symm (λw hw=>?_) (t2 c c1 (.refl _));grind [zKs]
   cases hf:fr c with
   | true=>
    rw[h1 c σ c1 ⟨v,c2⟩ hf];refine(Crd.sum (Q:=λa=>Pv n k par R ch fr m c (up σ c a)) (vals c σ) (hv1 c σ c1 ⟨v,c2⟩).1 λa ha=>ih a (((hv1 c σ c1 ⟨v,c2⟩).2 a).1 ha)).congr λy=>?_;unfold Qv;simp only[hf,if_true];constructor
    ·rintro⟨a,z,ha,⟨τ,t1,t2,t3,rfl⟩,rfl⟩;grind [zQ8,zKs]
    rintro⟨τ,t1,t2,rfl⟩;refine⟨τ c,(Dn ch fr m c).map τ,((hv1 c σ c1 ⟨v,c2⟩).2 _).2 (hgo τ t1 t2),⟨τ,(zQ8 σ c _).symm,λw hw=>?_,t2,rfl⟩,rfl⟩;grind [zKs]
   | false=>
    obtain⟨e1,e0⟩:=h0 c σ c1 ⟨v,c2⟩ hf;refine(Crd.one e1 e0).congr λy=>?_;unfold Qv;simp only[hf,Bool.false_eq_true,if_false];constructor
    ·rintro⟨rfl,a,ha,hw⟩;obtain⟨z,τ,t1,t2,t3,_⟩:=(ih a ha).pos.1 hw;grind [zKs]
    rintro⟨τ,t1,t2,rfl⟩;have hr:=hgo τ t1 t2;exact⟨rfl,τ c,hr,(ih _ hr).pos.2 ⟨_,τ,(zQ8 σ c _).symm,λw hw=>by rw[zKs σ _ (hkc w hw)];exact t1 w hw,t2,rfl⟩⟩
  have hp:=Crd.prod (l:=λc=>if fr c then(c::Dn ch fr m c).length else 0) (ch v) (hnd v) hq λc hc y hy=>by
   obtain⟨τ,_,_,rfl⟩:=hy;split<;>simp
  rw[hW v σ hv hr];exact hp.congr λy=>(Elt.split H R ch fr hR hch hv hr (λc _=>Elt.Dn_und ch fr hch m c) y).symm
theorem Elt.Dn_nd(hch:∀v c,c∈ch v↔c<n/\par c v)(hnd:∀v,(ch v).Nodup):∀(m v:Nat),(Dn ch fr m v).Nodup
 |0,_=>A7
 | m + 1,v=>by
  rw[Dn,AS,List.pairwise_flatMap];have hu:∀c∈ch v,∀u∈(if fr c then c::Dn ch fr m c else[]),Und par u c:=λc hc u hu=>by
   split at hu
   ·rcases Az.1 hu with rfl|hu
    ·exact .refl _
    exact Elt.Dn_und ch fr hch m c u hu
   cases hu
  refine⟨λc hc=>?_,?_⟩
  ·split
   ·refine Bs.2 ⟨λhm=>?_,Elt.Dn_nd hch hnd m c⟩;have hcn:=((hch v c).1 hc).1;obtain⟨d,hd,hcd⟩:∃d,d∈ch c/\Und par c d:=by
     cases m with
     |zero=>cases hm
     | succ m=>
      obtain⟨d,hd,hx⟩:=A_.1 hm;refine⟨d,hd,?_⟩;split at hx
      ·rcases Az.1 hx with rfl|hx
       ·exact .refl _
       exact Elt.Dn_und ch fr hch m d c hx
      cases hx
    obtain⟨d1,d2⟩:=(hch c d).1 hd
    have:=(H.pn d1 d2).2
    have:=(H.und_ix hcd hcn).2
    omega
   exact A7
  refine(hnd v).imp_of_mem λ{c d} hc hd hne x hx y hy e=>hne ?_;subst e;obtain⟨c1,c2⟩:=(hch v c).1 hc;obtain⟨d1,d2⟩:=(hch v d).1 hd;exact H.sib c1 d1 c2 d2 (hu c hc x hx) (hu d hd x hy)
theorem Elt.Dn_in(hch:∀v c,c∈ch v↔c<n/\par c v)(hfp:∀c v,c<n->fr c=Aa->par c v->fr v=Aa){u v:Nat}(h:Und par u v)(hu:u<n)(hf:fr u=Aa)(hne:u≠v):∀m,ix v<=ix u+m->u∈Dn ch fr m v:=by
 have key:∀{u v:Nat},Und par u v->u<n->fr u=Aa->u≠v->∃c,c<n/\par c v/\Und par u c/\fr c=true:=by
  intro u v h;induction h with
  |refl=>exact λ_ _ h=>absurd rfl h
  | step hp hs ih=>
   rename_i u w v;intro hu hf _;by_cases e:w=v
   ·subst e;exact⟨u,hu,hp, .refl _,hf⟩
   obtain⟨c,c1,c2,c3,c4⟩:=ih (H.pn hu hp).1 (hfp u w hu hf hp) e;exact⟨c,c1,c2, .step hp c3,c4⟩
 intro m;induction m generalizing v with
 |zero=>
  intro hm;obtain⟨c,c1,c2,c3,c4⟩:=key h hu hf hne
  have:=(H.pn c1 c2).2
  have:=(H.und_ix c3 hu).2
  omega
 |succ m ih=>
  intro hm;obtain⟨c,c1,c2,c3,c4⟩:=key h hu hf hne;have h1:=(H.pn c1 c2).2;grind [Dn,AH,AC]
omit H in
theorem Elt.Dn_fr(hch:∀v c,c∈ch v↔c<n/\par c v):∀(m v:Nat),∀u∈Dn ch fr m v,fr u=Aa/\u<n
 |0,v,u,h=>by cases h
 | m+1,v,u,h=>by
  obtain⟨c,hc,hu⟩:=A_.1 h;split at hu
  ·rename_i hf;rcases Az.1 hu with rfl|hu
   ·grind
   exact Elt.Dn_fr hch m c u hu
  cases hu
end
theorem Crd.perm{α:Type}[Inhabited α]{S:(Nat->α)->Prop}{D D':List Nat}(hp:D.Perm D'){m:Nat}(h:Crd (λy=>∃τ,S τ/\y=D.map τ) m):Crd (λy=>∃τ,S τ/\y=D'.map τ) m:=by
 obtain⟨L,h1,h2,h3⟩:=h;have hat:∀(E:List Nat)(τ:Nat->α)(w:Nat),w∈E->(E.map τ).getD (E.idxOf w) Ag=τ w:=λE τ w hw=>by
  grind
 let f:List α->List α:=λy=>D'.map λw=>y.getD (D.idxOf w) Ag;have hf:∀τ:Nat->α,f (D.map τ)=D'.map τ:=λτ=>Aw λw hw=>hat D τ w (hp.mem_iff.2 hw);refine⟨L.map f,?_,λy=>?_,by rw[AA,h3]⟩
 ·rw[AS,AZ];refine h1.imp_of_mem λ{a b} ha hb hne e=>hne ?_;obtain⟨τ,_,rfl⟩:=(h2 a).1 ha;obtain⟨ξ,_,rfl⟩:=(h2 b).1 hb;grind [Aw]
 rw[Ao];constructor
 ·grind
 rintro⟨τ,ht,rfl⟩;exact⟨D.map τ,(h2 _).2 ⟨τ,ht,rfl⟩,hf τ⟩
theorem put_hi(v:Va)(w:Nat):∀t:WT,(∀x∈t.lst,vcmp x.1 v<0)->(t.put Ab v w).lst=t.lst++[(v,w)]
 | .nil,_=>rfl
 | .node u y l r,h=>by
  have hu:vcmp u v<0:=h (u,y) (by simp[WT.lst]);have h1:0<WT.cmp Ab v u:=by
   have:=(zA8 u v).2.2
   show 0<vcmp v u;omega
  rw[WT.put,if_neg (by omega),if_pos h1,WT.bal_lst,put_hi v w r λx hx=>h x (by simp[WT.lst,hx])];simp[WT.lst]
theorem put_lo(v:Va)(w:Nat):∀t:WT,(∀x∈t.lst,vcmp x.1 v<0)->(t.put Aa v w).lst=(v,w)::t.lst
 | .nil,_=>rfl
 | .node u y l r,h=>by
  have hu:vcmp u v<0:=h (u,y) (by simp[WT.lst]);have h1:WT.cmp Aa v u<0:=hu;rw[WT.put,if_pos h1,WT.bal_lst,put_lo v w l λx hx=>h x (by simp[WT.lst,hx])];simp[WT.lst]
def asc(d:Bool)(l:List (Va×Nat)):List (Va×Nat):=if d then l.reverse else l
theorem asc_put(d:Bool)(v:Va)(w:Nat)(t:WT)(h:∀x∈t.lst,vcmp x.1 v<0):asc d (t.put d v w).lst=asc d t.lst++[(v,w)]:=by
 cases d
 ·exact put_hi v w t h
 show(t.put Aa v w).lst.reverse=t.lst.reverse++[(v,w)];grind [put_lo,A8]
theorem mem_asc{d:Bool}{l:List (Va×Nat)}{x:Va×Nat}:x∈asc d l↔x∈l:=by
 grind [asc]
theorem asc_sum(d:Bool)(l:List (Va×Nat)):((asc d l).map Prod.snd).sum=(l.map Prod.snd).sum:=by
 grind [asc,List.map_reverse]
theorem zLw:∀(p:List Va)(a b:Va),rcmp (p++[a]) (p++[b])=vcmp a b
 |[],a,b=>by
  grind [only,rcmp]
 |x::p,a,b=>by
  have:=(zA8 x x).2.1.2 rfl
  simp only[List.cons_append,rcmp];rw[if_pos this];exact zLw p a b
theorem zSf{n:Nat}{x:List Va}(h:x.length=n+1):x=kyX x++[vaX x]:=by
 have h1:x.drop n=[x.getD n Ag]:=by
  grind [List.drop_eq_getElem_cons,List.drop_eq_nil_of_le,As]
 conv=>lhs;rw[<-List.take_append_drop n x]
 grind
def sh2(d:Bool)(b:Bu):List Va×List (Va×Nat):=(b.key,asc d b.t.lst)
def gpA(l:List (List Va×List (Va×Nat)))(k:List Va)(e:Va×Nat):List (List Va×List (Va×Nat)):=match l.getLast? with
 |some b=>if b.1=k then l.dropLast++[(b.1,b.2++[e])]else l++[(k,[e])]
 |none=>[(k,[e])]
def gp(w:List Va->Nat)(rows:List (List Va)):List (List Va×List (Va×Nat)):=rows.foldl (λl x=>if 0<w x then gpA l (kyX x) (vaX x,w x)else l) []
theorem gAdd_sh(d:Bool)(l:List Bu)(k:List Va)(v:Va)(w:Nat)(h:∀b∈l,b.key=k->∀e∈b.t.lst,vcmp e.1 v<0):(gAdd d l k v w).map (sh2 d)=gpA (l.map (sh2 d)) k (v,w):=by
 rcases BQ l with rfl|⟨m,b,rfl⟩
 ·rw[zGn];cases d<;>rfl
 rw[BR]at*;unfold gpA;rw[AW,AQ,List.map_nil,List.getLast?_concat];dsimp only;by_cases e:b.key=k
 ·rw[zJ1 _ _ _ _ _ _ e,if_pos (show(sh2 d b).1=k from e),List.dropLast_concat,AW]
  have:=asc_put d v w b.t (h b (by simp) e)
  grind [only,sh2]
 rw[zMm _ _ _ _ _ _ e,if_neg (show¬(sh2 d b).1=k from e),AW,AW];cases d<;>rfl
theorem gpA_mem{l:List (List Va×List (Va×Nat))}{k:List Va}{e:Va×Nat}{b:List Va×List (Va×Nat)}(hb:b∈gpA l k e){x:Va×Nat}(hx:x∈b.2):(b.1=k/\x=e)\/∃c∈l,c.1=b.1/\x∈c.2:=by
 grind [gpA,List.mem_of_getLast?,List.dropLast_subset,A1]
theorem gp_snoc(w:List Va->Nat)(rows:List (List Va))(x:List Va):gp w (rows++[x])=if 0<w x then gpA (gp w rows) (kyX x) (vaX x,w x)else gp w rows:=by
 grind [gp]
theorem gp_mem(w:List Va->Nat):∀(r rows:List (List Va)),rows.reverse=r->∀b∈gp w rows,∀e∈b.2,∃x∈rows,kyX x=b.1/\vaX x=e.1
 |[],rows,hr,b,hb,e,he=>by
  obtain rfl:rows=[]:=by simpa using hr
  cases hb
 | x::r,rows,hr,b,hb,e,he=>by
  obtain rfl:rows=r.reverse++[x]:=by rw[<-AG rows,hr,A8]
  have ih:=gp_mem w r r.reverse (AG r);rw[gp_snoc]at hb;split at hb
  ·rcases gpA_mem hb he with⟨h1,h2⟩|⟨c,h1,h2,h3⟩;all_goals grind
  grind
def Srn(n:Nat)(rows:List (List Va)):Prop:=rows.Pairwise (λx y=>rcmp x y<0)/\∀x∈rows,x.length=n+1
theorem grpL_sh(d:Bool)(w:List Va->Nat)(n:Nat):∀(r rows:List (List Va)),rows.reverse=r->Srn n rows->(grpL d w rows).map (sh2 d)=gp w rows
 |[],rows,hr,_=>by
  obtain rfl:rows=[]:=by simpa using hr
  rfl
 | x::r,rows,hr,hs=>by
  obtain rfl:rows=r.reverse++[x]:=by rw[<-AG rows,hr,A8]
  obtain⟨s1,s2⟩:=hs;rw[List.pairwise_append]at s1;have ih:=grpL_sh d w n r r.reverse (AG r) ⟨s1.1,λy hy=>s2 y (AP _ hy)⟩;rw[zDy,gp_snoc];split
  ·rw[gAdd_sh,ih];intro b hb hk e he;obtain⟨y,y1,y2,y3⟩:=gp_mem w r r.reverse (AG r) (sh2 d b) (by rw[<-ih];exact List.mem_map_of_mem hb) e (mem_asc.2 he);have h1:=s1.2.2 y y1 x (by simp);rw[zSf (s2 y (AP _ y1)),zSf (s2 x (by simp)),y2,y3,show(sh2 d b).1=kyX x from hk,zLw]at h1;exact h1
  exact ih
theorem tot_asc(d:Bool)(t:WT):((asc d t.lst).map Prod.snd).sum=t.tot:=by rw[asc_sum,WT.tot_lst]
section
variable {I : Inp} (h : I.Ok)
include h
theorem Inp.srt(v:Nat):∃n,Srn n (I.b.R.getD v Ag).2:=by
 by_cases hv:v<I.n
 ·have hj:=(zFh (Inp.aok h hv)).1;have ha:=Inp.jall h hv;have hm:=(Inp.mem_len h hv).1;refine⟨(zAo (bgS (I.bag v))).length-1,?_⟩;show Srn _ (I.R.getD v Ag).2;rw[Inp.Rat hv];exact⟨hj,λx hx=>by have:=(ha x hx).1;omega⟩
 refine⟨0,?_⟩;have e:I.b.R.getD v Ag=default:=by
  grind
 rw[e];exact⟨List.Pairwise.nil,λx hx=>by cases hx⟩
theorem Inp.U_ok{c:Nat}(hc:c<I.n):(I.U c).length<=65536/\∀b∈I.U c,b.key.length<=10000/\b.t.Ok:=by
 have hb:=Inp.bal h;have h1:=hb.rl c hc;have h2:=hb.T c hc;have h3:=hb.V c hc;have h4:=hb.r c hc;show(if I.tot=0 then[]else buk I.b I.VT I.TT c).length<=65536/\∀b∈(if I.tot=0 then[]else buk I.b I.VT I.TT c),_;split
 ·grind
 obtain⟨g1,g2⟩:=zQp (desc:=I.b.desc.getD c Ab) (w:=λx=>wtL I.b.f I.VT I.TT x (chV I.b c)) (Q:=λk=>k.length<=10000) (I.b.R.getD c Ag).2 λx hx=>by
  grind
 exact⟨Ar g1 h1,λb hb=>⟨(g2 b hb).q,Ar (g2 b hb).n (Ar h1 (by omega)),h2.le (g2 b hb).s⟩⟩
theorem Inp.tot_sm:Sm I.tot:=by
 have hb:=Inp.bal h;show Sm (if zG0 I.b.A then 0 else rtL I.b.L I.b.f I.VT I.TT I.b.L.length);split
 ·exact Sm.zero
 exact hb.Rt _ (by rw[hb.L];exact Ap _)
end
def rowS(s:Nat)(σ:Nat->Va):List Va:=(zAo s).map σ
theorem mem_at(s v:Nat)(hv:v<32)(hb:s.testBit v=Aa):rk (λw=>s.testBit w) v<(zAo s).length/\(zAo s).getD (rk (λw=>s.testBit w) v) 0=v:=by
 have h1:rk (λw=>s.testBit w) v<(zAo s).length:=by rw[zSa];exact rk_lt hv hb
 refine⟨h1,?_⟩;obtain⟨g1,g2,g3⟩:=zWs (λw=>s.testBit w) 32 _ h1;show((Ak 32).filter λw=>s.testBit w).getD _ 0=v;generalize ((Ak 32).filter λw=>s.testBit w).getD (rk (λw=>s.testBit w) v) 0=u at*;rcases Nat.lt_trichotomy u v with h|h|h
 ·have:=rk_lt (p:=λw=>s.testBit w) h g2;omega
 ·exact h
 have:=rk_lt (p:=λw=>s.testBit w) h hb;omega
theorem zRp(s:Nat)(σ:Nat->Va){v:Nat}(hv:v<32)(hb:s.testBit v=Aa):(rowS s σ).getD (rk (λw=>s.testBit w) v) Ag=σ v:=by
 grind [mem_at,rowS,As,zAo,rk]
theorem mem_mem32{s v:Nat}:v∈zAo s↔v<32/\s.testBit v=true:=by
 grind [zAo]
theorem row_of(s:Nat)(x:List Va)(h:x.length=(zAo s).length):x=rowS s λw=>x.getD (rk (λu=>s.testBit u) w) default:=by
 unfold rowS;apply Ba
 ·rw[h,AA]
 intro i h1 h2;rw[List.getElem_map];have hi:i<((Ak 32).filter λw=>s.testBit w).length:=by
  grind [zAo]
 obtain⟨g1,g2,g3⟩:=zWs (λw=>s.testBit w) 32 i hi;grind [zAo,Ak,As]
theorem zFz{s:Nat}{σ τ:Nat->Va}(h:∀w,s.testBit w=Aa->σ w=τ w):rowS s σ=rowS s τ:=
 Aw λw hw=>h w (mem_mem32.1 hw).2
theorem row_inj{s:Nat}{σ τ:Nat->Va}(h:rowS s σ=rowS s τ){w:Nat}(hw:w<32)(hb:s.testBit w=Aa):σ w=τ w:=by
 rw[<-zRp s σ hw hb,<-zRp s τ hw hb,h]
theorem zP5(q:Nat->Bool)(V:List Nat)(σ:Nat->Va):zT (V.map σ) (zBy q V)=(V.filter q).map σ:=by
 have e:V=(Ak V.length).map λj=>V.getD j 0:=by
  apply Ba (by simp);grind
 unfold zT zBy;conv=>rhs;rw[e,List.filter_map,AI]
 refine Aw λc hc=>?_;grind
theorem mem32_sub{s k:Nat}(h:∀w,k.testBit w=Aa->s.testBit w=Aa):(zAo s).filter (λu=>k.testBit u)=zAo k:=by
 unfold zAo;rw[List.filter_filter];grind
theorem zHv{s k:Nat}(h:∀w,k.testBit w=Aa->s.testBit w=Aa)(σ:Nat->Va):zT (rowS s σ) (zBy (λu=>k.testBit u) (zAo s))=rowS k σ:=by
 grind [rowS,zP5,mem32_sub]
def FitS(s:Nat)(a:List Nat×List Rw)(σ:Nat->Va):Prop:=∃r∈a.2,zT r (zBy (λv=>s.testBit v) a.1)=(a.1.filter λv=>s.testBit v).map σ
section
variable {I : Inp} (h : I.Ok)
include h
theorem Inp.jn_row{v:Nat}(hv:v<I.n)(σ:Nat->Va):rowS (bgS (I.bag v)) σ∈(I.R.getD v Ag).2↔∀a∈I.A,FitS (bgS (I.bag v)) a σ:=by
 have hn:=h.n;rw[Inp.Rat hv];show rowS (bgS (I.bag v)) σ∈jn (mkP (bgS (I.bag v)) I.A)↔_;rw[(zFh (Inp.aok h hv)).2];have hl:(rowS (bgS (I.bag v)) σ).length=(mkP (bgS (I.bag v)) I.A).n:=by unfold rowS;rw[AA];rfl
 have hml:(mkP (bgS (I.bag v)) I.A).A.length=I.A.length:=AA _;have key:∀a,a<I.A.length->(prj (mkP (bgS (I.bag v)) I.A).vs a 0 (rowS (bgS (I.bag v)) σ)∈((mkP (bgS (I.bag v)) I.A).A.getD a Ag).2↔FitS (bgS (I.bag v)) (I.A.getD a Ag) σ):=λa ha=>by
  have hpa:(mkP (bgS (I.bag v)) I.A).A.getD a Ag=zBe (bgS (I.bag v)) (I.A.getD a Ag):=zEn _ I.A ha;have hvs:(mkP (bgS (I.bag v)) I.A).vs a=(zBe (bgS (I.bag v)) (I.A.getD a Ag)).1:=congrArg AR hpa;have hp:prj (mkP (bgS (I.bag v)) I.A).vs a 0 (rowS (bgS (I.bag v)) σ)=((I.A.getD a Ag).1.filter λv'=>(bgS (I.bag v)).testBit v').map σ:=by
   unfold prj;rw[hvs];unfold zBe;dsimp only;rw[List.filter_map,AI];have e:BG ((λw=>decide (0<=w))∘λv'=>(numL (bgS (I.bag v))).getD v' 0) (BG (λv'=>(bgS (I.bag v)).testBit v') (I.A.getD a Ag).1)=BG (λv'=>(bgS (I.bag v)).testBit v') (I.A.getD a Ag).1:=Bo.2 λw _=>by simp
   rw[e];refine Aw λw hw=>?_;obtain⟨w1,w2⟩:=AB.1 hw;have hw32:w<32:=by have:=h.V.lt a ha w w1;omega
   show(rowS (bgS (I.bag v)) σ).getD ((numL (bgS (I.bag v))).getD w 0) Ag=σ w;grind [zL4,zRp]
  grind [zBe,FitS,only,zH1]
 grind [Br,As,AT]
theorem Inp.jn_of{v:Nat}(hv:v<I.n){x:Rw}(hx:x∈(I.R.getD v Ag).2):∃σ,x=rowS (bgS (I.bag v)) σ:=by
 rw[Inp.Rat hv]at hx;exact⟨_,row_of _ x (Inp.jall h hv x hx).1⟩
def Inp.Sol(I:Inp)(σ:Nat->Va):Prop:=∀a∈I.A,a.1.map σ∈a.2
theorem Inp.bag_bit{v w:Nat}(hv:v<I.n):(bgS (I.bag v)).testBit w=Aa↔w=v\/(I.bag v).k.testBit w=true:=by
 rw[Inp.bits h hv,Bv,decide_eq_true_eq];exact Or.comm
theorem Inp.atom_bag{a:List Nat×List Rw}(ha:a∈I.A)(hne:a.1≠[]):∃u,u∈a.1/\u<I.n/\∀w∈a.1,(bgS (I.bag u)).testBit w=true:=by
 obtain⟨v1,v2⟩:=zNk h.V a ha;have hmin:∃u∈a.1,∀w∈a.1,I.O.idxOf u<=I.O.idxOf w:=by
  have:∀l:List Nat,l≠[]->∃u∈l,∀w∈l,I.O.idxOf u<=I.O.idxOf w:=by
   intro l;induction l with
   |nil=>exact λh=>absurd rfl h
   |cons x l ih=>
    intro _;by_cases hl:l=[]
    ·simp_all
    grind
  exact this a.1 hne
 obtain⟨u,hu,hm⟩:=hmin;have hun:=v2 u hu;refine⟨u,hu,hun,λw hw=>(Inp.bag_bit h hun).2 ?_⟩;by_cases e:w=u
 ·exact .inl e
 refine .inr (zQt (Inp.ook h) (Inp.Elt h) (zMc (by have:=h.n;omega) (Inp.Elt h)) (Ao.2 ⟨a,ha,rfl⟩) ?_ ?_ e (hm w hw));all_goals grind [zHa]
theorem Inp.sol_iff(hA:∀a∈I.A,a.2≠[])(σ:Nat->Va):(∀v,v<I.n->rowS (bgS (I.bag v)) σ∈(I.R.getD v Ag).2)↔I.Sol σ:=by
 constructor
 ·intro hb a ha;by_cases hne:a.1=[]
  ·obtain⟨r,hr⟩:=BH _ (hA a ha);have hrl:=((h.R a ha).2.2 r hr).1;grind
  obtain⟨u,hu,hun,hall⟩:=Inp.atom_bag h ha hne;obtain⟨r,hr,e⟩:=(Inp.jn_row h hun σ).1 (hb u hun) a ha;have hrl:=((h.R a ha).2.2 r hr).1;have e1:a.1.filter (λv=>(bgS (I.bag u)).testBit v)=a.1:=Bo.2 hall;have e2:zBy (λv=>(bgS (I.bag u)).testBit v) a.1=Ak a.1.length:=Bo.2 λj hj=>hall _ (zBv a.1 j (Au.1 hj));grind [zTz]
 intro hs v hv;refine(Inp.jn_row h hv σ).2 λa ha=>⟨_,hs a ha,?_⟩;rw[zP5]
end
theorem zPn(K:List (List Va×Nat))(r key:List Va)(w:Nat):tlk (tput K r w) key=if key=r then Aj w else tlk K key:=by
 unfold tput;split
 ·rename_i i hi;obtain⟨h1,h2,h3⟩:=List.findIdx?_eq_some_iff_getElem.1 hi;have hr:r=K[i].1:=by simpa using h2
  unfold tlk;have hset:∀(K:List (List Va×Nat))(i:Nat)(h1:i<K.length),r=K[i].1->(∀j (hj:j<i),¬r=K[j].1)->((K.set i (r,w)).find? λp=>decide (key=p.1)).map (·.2)=if key=r then Aj w else(K.find? λp=>decide (key=p.1)).map (·.2):=by
   intro K;induction K with
   |nil=>intro i h1;simp at h1
   | cons p K ih=>
    intro i h1 hr hb;cases i with
    |zero=>
     grind
    |succ i=>
     have h0:¬r=p.1:=hb 0 (by omega);grind
  grind
 grind [BY,tlk,List.find?_eq_none]
theorem zLj(l:List Bu)(b:Bu):totL (l++[b])=tput (totL l) b.key b.t.tot:=by
 grind [totL]
theorem zWz:∀(p q:List Va)(a c:Va),p.length=q.length->rcmp (p++[a]) (q++[c])=if rcmp p q=0 then vcmp a c else rcmp p q
 |[],[],a,c,_=>by
  grind [rcmp]
 |[],y::q,a,c,h=>by simp at h
 |x::p,[],a,c,h=>by simp at h
 |x::p,y::q,a,c,h=>by
  have ih:=zWz p q a c (by simpa using h);grind [only,rcmp,vcmp]
theorem squeeze{p q:List Va}{a b c:Va}(h:p.length=q.length)(h1:rcmp (p++[a]) (q++[c])<0)(h2:rcmp (q++[c]) (p++[b])<0):p=q:=by
 grind [zWz,zBk,rcmp]
def sumK(w:List Va->Nat)(rows:List (List Va))(key:List Va):Nat:=((rows.filter λx=>decide (kyX x=key)).map w).sum
theorem zHt(w:List Va->Nat)(rows:List (List Va))(x key:List Va):sumK w (rows++[x]) key=sumK w rows key+if kyX x=key then w x else 0:=by
 unfold sumK;grind
theorem zTw{d:Bool}{v:Va}{w:Nat}{t:WT}(h:∀x∈t.lst,vcmp x.1 v<0):(t.put d v w).tot=t.tot+w:=by
 rw[<-tot_asc d,asc_put d v w t h,AW,List.sum_append,tot_asc];simp
theorem tot_sum(d:Bool)(w:List Va->Nat)(n:Nat):∀(r rows:List (List Va)),rows.reverse=r->Srn n rows->
  (∀key,(tlk (totL (grpL d w rows)) key).getD 0=sumK w rows key)/\∀m b,grpL d w rows=m++[b]->∃z∈rows,kyX z=b.key/\∀y∈rows,0<w y->y=z\/rcmp y z<0
 | [],rows,hr,_=>by
  obtain rfl:rows=[]:=by simpa using hr
  exact⟨λkey=>rfl,λm b e=>by
   have:=congrArg Ad e
   simp[grpL]at this⟩
 | x :: r, rows,hr,hs=>by
  obtain rfl:rows=r.reverse++[x]:=by rw[<-AG rows,hr,A8]
  obtain⟨s1,s2⟩:=hs;rw[List.pairwise_append]at s1;have hsr:Srn n r.reverse:=⟨s1.1,λy hy=>s2 y (AP _ hy)⟩;obtain⟨ih1,ih2⟩:=tot_sum d w n r r.reverse (AG r) hsr;have hlt:∀y∈r.reverse,rcmp y x<0:=λy hy=>s1.2.2 y hy x (by simp);have hsh:=grpL_sh d w n r r.reverse (AG r) hsr;rw[zDy];by_cases hw:0<w x
  ·rw [if_pos hw];have hbel:∀b∈grpL d w r.reverse,b.key=kyX x->∀e∈b.t.lst,vcmp e.1 (vaX x)<0:=λb hb hk e he=>by
    obtain⟨y,y1,y2,y3⟩:=gp_mem w r r.reverse (AG r) (sh2 d b) (by rw[<-hsh];exact List.mem_map_of_mem hb) e (mem_asc.2 he);have h1:=hlt y y1;rw[zSf (s2 y (AP _ y1)),zSf (s2 x (by simp)),y2,y3,show(sh2 d b).1=kyX x from hk,zLw]at h1;exact h1
   have hlast:∀y∈r.reverse++[x],0<w y->y=x\/rcmp y x<0:=λy hy _=>by
    grind
   rcases BQ (grpL d w r.reverse)with e|⟨m,b,e⟩
   ·rw[e]at ih1⊢;rw[zGn];refine⟨λkey=>?_,λm b e2=>⟨x,by simp,?_,hlast⟩⟩
    ·rw[zHt,<-ih1 key,show[(⟨kyX x,d,WT.nil.put d (vaX x) (w x)⟩:Bu)]=[]++[⟨kyX x,d,WT.nil.put d (vaX x) (w x)⟩]from rfl,zLj,zPn];dsimp only;rw[zTw (λx hx=>by cases hx)];by_cases ek:key=kyX x
     ·rw[if_pos ek,if_pos ek.symm];simp[totL,tlk,WT.tot]
     grind
    have:=BS (show[]++[(⟨kyX x,d,WT.nil.put d (vaX x) (w x)⟩:Bu)]=m++[b]from e2) rfl
    rw[<-(Bm.inj this).1]
   rw [BR]at e;rw[e]at ih1 ih2 hbel⊢;obtain⟨z,z1,z2,z3⟩:=ih2 m b rfl;by_cases ek:b.key=kyX x
   ·grind [zJ1,zLj,zPn,zHt,only,zTw,BS,Bm.inj]
   rw [zMm _ _ _ _ _ _ ek];refine⟨λkey=>?_,λm' b' e2=>⟨x,by simp,?_,hlast⟩⟩
   ·rw [zHt,zLj,zPn];dsimp only;rw[zTw (λx hx=>by cases hx)];by_cases e3:key=kyX x
    ·rw [if_pos e3,if_pos e3.symm];have h0:sumK w r.reverse key=0:=by
      unfold sumK;have:∀l:List Nat,(∀v∈l,v=0)->l.sum=0:=by
       intro l;induction l<;>simp_all
      refine this _ λv hv=>?_;obtain⟨y,hy,rfl⟩:=Ao.1 hv;obtain⟨y1,y2⟩:=AB.1 hy;have y2:kyX y=key:=by simpa using y2
      rcases Nat.eq_zero_or_pos (w y)with h|h
      ·exact h
      exfalso;rcases z3 y y1 h with rfl|hyz
      ·grind
      have hzx:=hlt z z1;rw[zSf (s2 y (AP _ y1)),zSf (s2 z (AP _ z1))]at hyz;rw[zSf (s2 z (AP _ z1)),zSf (s2 x (by simp)),<-e3,<-y2]at hzx;have hlen:(kyX y).length=(kyX z).length:=by
       grind
      grind [squeeze]
     rw[h0];simp[WT.tot]
    grind
   grind [BS,Bm.inj]
  grind [zHt,AP,A1]
def Inp.ix'(I:Inp)(v:Nat):Nat:=if v<I.n then I.O.idxOf v else I.n
def Inp.k'(I:Inp)(c w:Nat):Prop:=c<I.n/\((w<I.n/\(I.bag c).k.testBit w=Aa)\/(w=I.n/\(I.bag c).p<0))
def Inp.par'(I:Inp)(c v:Nat):Prop:=c<I.n/\((v<I.n/\(I.bag c).p=(v:Int))\/(v=I.n/\(I.bag c).p<0))
def Inp.R'(I:Inp)(v:Nat)(σ:Nat->Va):Prop:=v<I.n->rowS (bgS (I.bag v)) σ∈(I.R.getD v Ag).2
def Inp.ch'(I:Inp)(v:Nat):List Nat:=(Ak I.n).filter λc=>decide ((v<I.n/\(I.bag c).p=(v:Int))\/(v=I.n/\(I.bag c).p<0))
def Inp.fr'(I:Inp)(v:Nat):Bool:=decide (v<I.f)||decide (v=I.n)
def Inp.one'(I:Inp)(c:Nat)(σ:Nat->Va):Nat:=if c<I.f then(tlk (I.TT c) (rowS (I.bag c).k σ)).getD 0 else if rowS (I.bag c).k σ∈I.VT c then 1 else 0
def Inp.w'(I:Inp)(v:Nat)(σ:Nat->Va):Nat:=if v<I.n then wtL I.f I.VT I.TT (rowS (bgS (I.bag v)) σ) (chV I.b v)else((I.ch' I.n).map λc=>I.one' c σ).foldr (· *·) 1
def Inp.vals(I:Inp)(c:Nat)(σ:Nat->Va):List Va:=((I.R.getD c Ag).2.filter λx=>decide (zT x (zBy (λu=>(I.bag c).k.testBit u) (zAo (bgS (I.bag c))))=rowS (I.bag c).k σ)).map λx=>x.getD (rk (λu=>(bgS (I.bag c)).testBit u) c) Ag
theorem filt1(p:Nat->Bool)(N:Nat):BG p [N]=if p N=Aa then[N]else[]:=by simp[List.filter_cons]
theorem zJc:∀(l:List Nat)(a:Nat),l.foldl (· *·) a=a*l.foldr (· *·) 1
 |[],a=>by simp
 |x::l,a=>by rw[Bt,zJc l,AY,Bc]
section
variable {I : Inp} (h : I.Ok)
include h
theorem Inp.elt:Go.Proofs.YtjcofbkhoeockaaGreatDoor.Elt (I.n+1) I.ix' I.k' I.par':=by
 have hO:=Inp.ook h;have hb:=Inp.bok h;have hE:=Inp.Elt h;have h0:=zMc (O:=I.O) (by have:=h.n;omega:I.n<=32) hE;have hix:∀v,v<I.n->I.ix' v<I.n/\I.ix' v=I.O.idxOf v:=λv hv=>by
  unfold Inp.ix';rw[if_pos hv];exact⟨(hO.ix hv).1,rfl⟩
 have hixn:I.ix' I.n=I.n:=if_neg (by omega);refine⟨λu v hu hv e=>?_,λc w hc hk=>?_,λc v hc hp=>?_,λc v v' hp hp'=>?_,λc w hc hk=>?_⟩
 ·rcases AJ u I.n with h1|h1<;>rcases AJ v I.n with h2|h2
  ·rw[(hix u h1).2,(hix v h2).2]at e;exact hO.inj h1 h2 e
  all_goals grind
 ·obtain⟨c1,⟨w1,w2⟩|⟨rfl,w2⟩⟩:=hk
  ·have:=(hb.r c w c1 w2).2
   grind
  grind
 ·obtain⟨c1,⟨v1,v2⟩|⟨rfl,v2⟩⟩:=hp
  ·obtain⟨p1,p2⟩:=hb.p c v c1 v2;refine⟨⟨c1, .inl ⟨v1,p1⟩⟩,λw hw hne=>?_⟩;obtain⟨_,⟨w1,w2⟩|⟨rfl,w2⟩⟩:=hw
   ·exact⟨v1, .inl ⟨w1,key_par hO h0 c1 v2 w2 hne⟩⟩
   omega
  refine⟨⟨c1, .inr ⟨rfl,v2⟩⟩,λw hw hne=>?_⟩;obtain⟨_,⟨w1,w2⟩|⟨rfl,w2⟩⟩:=hw
  ·rw[hb.q c c1 v2]at w2;simp at w2
  exact absurd rfl hne
 ·obtain⟨_,⟨v1,v2⟩|⟨rfl,v2⟩⟩:=hp<;>obtain⟨_,⟨v3,v4⟩|⟨rfl,v4⟩⟩:=hp'<;>omega
 have c1:=hk.1;rcases hb.pz c c1 with e|⟨v,e,hv⟩
 ·exact⟨I.n,c1, .inr ⟨rfl,by omega⟩⟩
 exact⟨v,c1, .inl ⟨hv,e⟩⟩
theorem Inp.locR:Loc I.k' I.R':=λv σ τ e1 e2 hr hv=>by
 have:=hr hv
 rwa[zFz (τ:=τ) λw hw=>?_]at this;rcases(Inp.bag_bit h hv).1 hw with rfl|hk
 ·exact e1
 exact e2 w ⟨hv, .inl ⟨((Inp.bok h).r v w hv hk).1,hk⟩⟩
omit h in
theorem Inp.mem_ch'(v c:Nat):c∈I.ch' v↔c<I.n+1/\I.par' c v:=by
 grind [Inp.ch',Inp.par']
omit h in
theorem Inp.nd_ch'(v:Nat):(I.ch' v).Nodup:=Bf.filter _
theorem Inp.key_sub{c:Nat}(hc:c<I.n):∀w,(I.bag c).k.testBit w=Aa->(bgS (I.bag c)).testBit w=true:=λw hw=>(Inp.bag_bit h hc).2 (.inr hw)
theorem Inp.row_up{c:Nat}(hc:c<I.n)(σ:Nat->Va){x:Rw}(hx:x∈(I.R.getD c Ag).2)(hk:zT x (zBy (λu=>(I.bag c).k.testBit u) (zAo (bgS (I.bag c))))=rowS (I.bag c).k σ):rowS (bgS (I.bag c)) (up σ c (x.getD (rk (λu=>(bgS (I.bag c)).testBit u) c) Ag))=x:=by
 have hn:=h.n;obtain⟨ξ,rfl⟩:=Inp.jn_of h hc hx;rw[zHv (Inp.key_sub h hc)]at hk;rw[zRp _ ξ (by omega:c<32) ((Inp.bag_bit h hc).2 (.inl rfl))];refine zFz λw hw=>?_;by_cases e:w=c
 ·subst e;exact zQ8 σ _ _
 rw[zKs σ _ e];have hk2:=((Inp.bag_bit h hc).1 hw).resolve_left e;have hwn:=((Inp.bok h).r c w hc hk2).1;exact(row_inj hk (by omega) hk2).symm
theorem Inp.up_row{c:Nat}(hc:c<I.n)(σ:Nat->Va)(a:Va):zT (rowS (bgS (I.bag c)) (up σ c a)) (zBy (λu=>(I.bag c).k.testBit u) (zAo (bgS (I.bag c))))=rowS (I.bag c).k σ:=by
 rw[zHv (Inp.key_sub h hc)];refine zFz λw hw=>zKs σ _ λe=>?_
 have:=((Inp.bok h).r c w hc hw).2
 rw[e]at this;omega
theorem Inp.vals_ok{c:Nat}(hc:c<I.n)(σ:Nat->Va):(I.vals c σ).Nodup/\∀a,a∈I.vals c σ↔I.R' c (up σ c a):=by
 have hn:=h.n;have hnd:(I.R.getD c Ag).2.Nodup:=by
  rw[Inp.Rat hc];exact((zFh (Inp.aok h hc)).1).imp λ{a b} hab e=>by
   grind [zBk]
 constructor
 ·unfold Inp.vals;rw[AS,AZ];refine(hnd.filter _).imp_of_mem λ{x y} hx hy hne e=>hne ?_;obtain⟨x1,x2⟩:=AB.1 hx;obtain⟨y1,y2⟩:=AB.1 hy;have x2:=of_decide_eq_true x2;have y2:=of_decide_eq_true y2;rw[<-Inp.row_up h hc σ x1 x2,<-Inp.row_up h hc σ y1 y2,e]
 intro a;unfold Inp.vals;rw[Ao];constructor
 ·rintro⟨x,hx,rfl⟩ _;grind [Inp.row_up]
 intro hr;refine⟨_,AB.2 ⟨hr hc,decide_eq_true (Inp.up_row h hc σ a)⟩,?_⟩;rw[zRp _ _ (by omega:c<32) ((Inp.bag_bit h hc).2 (.inl rfl))];exact zQ8 σ c a
theorem Inp.free_key{c w:Nat}(hc:c<I.f)(hw:(I.bag c).k.testBit w=Aa):w<c:=by
 have hf:=h.f;obtain⟨w1,w2⟩:=(Inp.bok h).r c w (by omega) hw;rw[Inp.ixF h hc]at w2;rcases AJ w I.f with h1|h1
 ·rw[Inp.ixF h h1]at w2;omega
 exfalso;have hP:=zGj (Inp.ook h).nd (Inp.ook h).len (Inp.ook h).lt w w1;grind [ordL,List.idxOf_lt_length_iff]
theorem Inp.free_row{c:Nat}(hc:c<I.f)(σ:Nat->Va):kyX (rowS (bgS (I.bag c)) σ)=rowS (I.bag c).k σ:=by
 have hf:=h.f;have hn:=h.n;have hcn:c<I.n:=by omega
 have e:zAo (bgS (I.bag c))=zAo (I.bag c).k++[c]:=by
  have h1:∀N,c<N->N<=32->(Ak N).filter (λv=>(bgS (I.bag c)).testBit v)=(Ak N).filter (λv=>(I.bag c).k.testBit v)++[c]:=by
   intro N;induction N with
   |zero=>intro h;omega
   | succ N ih=>
    intro hN h32;rw[BL,List.filter_append,List.filter_append];by_cases e:N=c
    ·subst e;have e1:(Ak N).filter (λv=>(bgS (I.bag N)).testBit v)=(Ak N).filter λv=>(I.bag N).k.testBit v:=BT λv hv=>by
      have hv:=Au.1 hv;rw[Bool.eq_iff_iff,Inp.bag_bit h hcn];grind
     have e2:(I.bag N).k.testBit N=false:=Bp.2 λhk=>by
      have:=Inp.free_key h hc hk;omega
     rw[e1,filt1,filt1,if_pos ((Inp.bag_bit h hcn).2 (.inl rfl)),if_neg (by rw[e2];decide),List.append_nil]
    rw[ih (by omega) (by omega)];have e2:(I.bag c).k.testBit N=false:=Bp.2 λhk=>by
     have:=Inp.free_key h hc hk;omega
    have e3:(bgS (I.bag c)).testBit N=false:=Bp.2 λhk=>by
     rcases(Inp.bag_bit h hcn).1 hk with h'|h';all_goals grind
    grind
  exact h1 32 (by omega) (Ap _)
 unfold rowS kyX;rw[e,AW];simp
end
theorem zLy(q:Nat->Bool)(g g':Nat->Nat):∀l:List Nat,(∀c∈l,g c=if q c=Aa then g' c else 1)->(l.map g).foldr (· *·) 1=((l.filter q).map g').foldr (· *·) 1
 |[],_=>rfl
 |c::l,hl=>by
  have ih:=zLy q g g' l λd hd=>hl d (AC _ hd);rw[AQ,AY,ih,hl c (AH ..),List.filter_cons];split
  ·rfl
  rw[AU]
section
variable {I : Inp} (h : I.Ok)
include h
omit h in
theorem Inp.fr_c{c:Nat}(hc:c<I.n):I.fr' c=decide (c<I.f):=by
 unfold Inp.fr';rw[decide_eq_false (show¬c=I.n by omega),Bool.or_false]
theorem Inp.w_prod{v:Nat}{σ:Nat->Va}(hv:v<I.n+1):I.w' v σ=((I.ch' v).map λc=>I.one' c σ).foldr (· *·) 1:=by
 unfold Inp.w';by_cases hvn:v<I.n
 ·rw[if_pos hvn];unfold wtL;rw[zJc,AU];have hL:I.b.L.length=I.n:=by simp
  have e:chV I.b v=(I.ch' v).map λc=>(c,zBy (λu=>(I.bag c).k.testBit u) (zAo (bgS (I.bag v)))):=by
   show chI I.L (I.R.getD v Ag).1 v I.L.length=_;unfold chI Inp.ch';rw[show I.L.length=I.n by simp];have e1:(Ak I.n).filter (λc=>decide ((I.L.getD c Ag).p=(v:Int)))=(Ak I.n).filter (λc=>decide ((v<I.n/\(I.bag c).p=(v:Int))\/(v=I.n/\(I.bag c).p<0))):=BT λc hc=>by
    rw[Inp.Lat (Au.1 hc)];exact decide_eq_decide.2 ⟨λhh=> .inl ⟨hvn,hh⟩,λhh=>by rcases hh with hh|hh<;>omega⟩
   rw[e1];refine Aw λc hc=>?_;have hcn:=Au.1 (AB.1 hc).1;rw[Inp.Lat hcn,Inp.Rat hvn]
  rw[e,AI];congr 1;refine Aw λc hc=>?_;obtain⟨_,c1,c2⟩:=(Inp.mem_ch' v c).1 hc;have hp:(I.bag c).p=(v:Int):=by rcases c2 with c2|c2<;>omega
  have hsub:∀w,(I.bag c).k.testBit w=Aa->(bgS (I.bag v)).testBit w=true:=λw hw=>by
   refine(Inp.bag_bit h hvn).2 ?_;by_cases ew:w=v
   ·exact .inl ew
   exact .inr (key_par (Inp.ook h) (zMc (O:=I.O) (by have:=h.n;omega) (Inp.Elt h)) c1 hp hw ew)
  show wone I.f I.VT I.TT (rowS (bgS (I.bag v)) σ) (c,_)=I.one' c σ;unfold wone Inp.one';dsimp only;rw[zHv hsub]
 rw[if_neg hvn,show v=I.n by omega]
omit h in
theorem Inp.keyC_eq{c:Nat}(hc:c<I.n):keyC I.b c=zBy (λu=>(I.bag c).k.testBit u) (zAo (bgS (I.bag c))):=by
 show zBy (λu=>(I.L.getD c Ag).k.testBit u) (I.R.getD c Ag).1=_;rw[Inp.Lat hc,Inp.Rat hc]
theorem Inp.one_free{c:Nat}(hc:c<I.f)(σ:Nat->Va):I.one' c σ=((I.vals c σ).map λa=>I.w' c (up σ c a)).sum:=by
 have hcn:c<I.n:=by have:=h.f;omega
 obtain⟨m,hm⟩:=Inp.srt h c;have ht:=(Inp.teq h hcn).2;unfold Inp.one';rw[if_pos hc,ht,(tot_sum _ _ m _ _ rfl hm).1];unfold sumK Inp.vals;rw[AI];have e:(I.b.R.getD c Ag).2.filter (λx=>decide (kyX x=rowS (I.bag c).k σ))=(I.R.getD c Ag).2.filter (λx=>decide (zT x (zBy (λu=>(I.bag c).k.testBit u) (zAo (bgS (I.bag c))))=rowS (I.bag c).k σ)):=BT λx hx=>by
  obtain⟨ξ,rfl⟩:=Inp.jn_of h hcn hx;rw[Inp.free_row h hc,zHv (Inp.key_sub h hcn)]
 rw[e];congr 1;refine Aw λx hx=>?_;obtain⟨x1,x2⟩:=AB.1 hx;show wtL _ _ _ x _=I.w' c (up σ c _);unfold Inp.w';rw[if_pos hcn,Inp.row_up h hcn σ x1 (of_decide_eq_true x2)]
theorem Inp.one_non{c:Nat}(hc:I.f<=c)(hcn:c<I.n)(σ:Nat->Va):rowS (I.bag c).k σ∈I.VT c↔∃a,I.R' c (up σ c a)/\0<I.w' c (up σ c a):=by
 rw[(Inp.teq h hcn).1];unfold redK;rw[zYm,Ao,Inp.keyC_eq hcn];constructor
 ·rintro⟨x,hx,e⟩;obtain⟨x1,x2⟩:=AB.1 hx;have hru:=Inp.row_up h hcn σ x1 e;refine⟨_,λ_=>by rw[hru];exact x1,?_⟩;unfold Inp.w';rw[if_pos hcn,hru];exact of_decide_eq_true x2
 rintro⟨a,hr,hw⟩;unfold Inp.w' at hw;rw[if_pos hcn]at hw;exact⟨_,AB.2 ⟨hr hcn,decide_eq_true hw⟩,Inp.up_row h hcn σ a⟩
theorem Inp.cnt{m v:Nat}{σ:Nat->Va}(hv:v<I.n+1)(hm:I.ix' v<m)(hr:I.R' v σ):Crd (Pv (I.n+1) I.k' I.par' I.R' I.ch' I.fr' m v σ) (I.w' v σ):=by
 refine Elt.count (Inp.elt h) I.R' I.ch' I.fr' (Inp.locR h) Inp.mem_ch' Inp.nd_ch' I.w' I.one' I.vals (λv σ hv _=>Inp.w_prod h hv) (λc σ _ hp=>?_) (λc σ _ hp hf=>?_) (λc σ _ hp hf=>?_) m v σ hv hm hr
 ·obtain⟨v,c1,_⟩:=hp;exact Inp.vals_ok h c1 σ
 ·obtain⟨v,c1,_⟩:=hp;rw[Inp.fr_c c1]at hf;exact Inp.one_free h (of_decide_eq_true hf) σ
 obtain⟨v,c1,_⟩:=hp;rw[Inp.fr_c c1]at hf;have hcf:¬c<I.f:=of_decide_eq_false hf
 have:=Inp.one_non h (by omega) c1 σ
 unfold Inp.one';rw[if_neg hcf];exact⟨λhh=>if_pos (this.2 hh),λhh=>if_neg λhk=>hh (this.1 hk)⟩
theorem Inp.und_root{u:Nat}(hu:u<I.n):Und I.par' u I.n:=by
 have key:∀d u,u<I.n->I.n<=I.ix' u+d->Und I.par' u I.n:=by
  intro d;induction d with
  |zero=>
   intro u hu hd
   have:=((Inp.elt h).kk u I.n (by omega))
   exfalso;unfold Inp.ix' at hd;rw[if_pos hu]at hd
   have:=((Inp.ook h).ix hu).1
   omega
  | succ d ih=>
   intro u hu hd;rcases(Inp.bok h).pz u hu with e|⟨v,e,hv⟩
   ·exact .step ⟨hu, .inr ⟨rfl,by omega⟩⟩ (.refl _)
   have hp:I.par' u v:=⟨hu, .inl ⟨hv,e⟩⟩
   have:=((Inp.elt h).pn (by omega) hp).2
   exact .step hp (ih v hv (by omega))
 exact key I.n u hu (by omega)
theorem Inp.tot_w(hA:∀a∈I.A,a.2≠[])(σ:Nat->Va):I.tot=I.w' I.n σ:=by
 have hb:=Inp.bok h;show(if zG0 I.b.A then 0 else rtL I.b.L I.b.f I.VT I.TT I.b.L.length)=_;rw[if_neg]
 ·unfold rtL;rw[zJc,AU];unfold Inp.w';rw[if_neg (by omega)];show((Ak I.L.length).map _).foldr _ _=_;rw[show I.L.length=I.n by simp];unfold Inp.ch';refine zLy _ _ _ _ λc hc=>?_;have hcn:=Au.1 hc;show rone I.L I.f I.VT I.TT c=_;unfold rone;rw[Inp.Lat hcn];by_cases hp:0<=(I.bag c).p
  ·rw[if_pos hp,if_neg];rw[decide_eq_true_eq];omega
  rw [if_neg hp,if_pos (decide_eq_true (.inr ⟨rfl,by omega⟩))];have hk:=hb.q c hcn (by omega);have hr0:rowS (I.bag c).k σ=[]:=by
   rw[hk];unfold rowS zAo;simp
  unfold Inp.one';rw[hr0];by_cases hcf:c<I.f
  ·rw[if_pos hcf,if_pos hcf]
  rw[if_neg hcf,if_neg hcf];by_cases hV:I.VT c=[]
  ·rw[if_pos hV,if_neg (by rw[hV];simp)]
  rw[if_neg hV,if_pos];obtain⟨r,hr⟩:=BH _ hV;have hr':=hr;rw[(Inp.teq h hcn).1]at hr';unfold redK at hr';rw[zYm,Ao]at hr';obtain⟨x,hx,e⟩:=hr';obtain⟨ξ,rfl⟩:=Inp.jn_of h hcn (AB.1 hx).1;rw[Inp.keyC_eq hcn,zHv (Inp.key_sub h hcn),hk]at e;have:r=[]:=by
   rw[<-e];unfold rowS zAo;simp
  rw[<-this];exact hr
 unfold zG0;rw[Bool.not_eq_true,List.any_eq_false];intro a ha;simpa using hA a ha
end
section
variable {n : Nat} {ix : Nat → Nat} {k : Nat → Nat → Prop} {par : Nat → Nat → Prop} (H : Elt n ix k par) {ch : Nat → List Nat} {fr : Nat → Bool}
include H
theorem Elt.Dn_ix(hch:∀v c,c∈ch v↔c<n/\par c v):∀(m v:Nat),∀u∈Dn ch fr m v,ix u<ix v
 |0,v,u,h=>by cases h
 | m+1,v,u,h=>by
  obtain⟨c,hc,hu⟩:=A_.1 h;obtain⟨c1,c2⟩:=(hch v c).1 hc;have h1:=(H.pn c1 c2).2;split at hu
  ·rcases Az.1 hu with rfl|hu
   ·exact h1
   have:=(H.und_ix (Elt.Dn_und ch fr hch m c u hu) (Elt.Dn_fr ch fr hch m c u hu).2).2
   omega
  cases hu
theorem Elt.key_und:∀(d:Nat){u w:Nat},u<n->k u w->ix w<=ix u+d->Und par u w
 |0,u,w,hu,hk,hd=>by
  have:=(H.kk u w hu hk).2
  omega
 | d+1,u,w,hu,hk,hd=>by
  obtain⟨v,hp⟩:=H.qq u w hu hk;obtain⟨v1,v2⟩:=H.pn hu hp;by_cases e:w=v
  ·subst e;exact .step hp (.refl _)
  have hk2:=(H.pp u v hu hp).2 w hk e;exact .step hp (Elt.key_und d v1 hk2 (by omega))
end
inductive Cn(A:List (List Nat×List Rw))(r:Nat):Nat->Prop
 |refl:Cn A r r
 |step {u w:Nat} (a:List Nat×List Rw):a∈A->u∈a.1->w∈a.1->Cn A r w->Cn A r u
theorem Cn.sub{A A':List (List Nat×List Rw)}(hA:∀a,a∈A->a∈A'){r u:Nat}(h:Cn A r u):Cn A' r u:=by
 induction h with
 |refl=>exact .refl
 |step a ha hu hw _ ih=>exact .step a (hA a ha) hu hw ih
theorem rsc_ext:∀{L M:List Rw},Rsc L->Rsc M->(∀x,x∈L↔x∈M)->L=M
 |[],[],_,_,_=>rfl
 |[],y::M,_,_,h=>by have:=(h y).2 (by simp);cases this
 |x::L,[],_,_,h=>by have:=(h x).1 (by simp);cases this
 | x ::L,y::M,hl,hm,h=>by
  have hl':=BA.1 hl;have hm':=BA.1 hm;have hirr:∀z:Rw,¬rcmp z z<0:=λz=>by have:=(zBk z z).2.1.2 rfl;omega
  have e:x=y:=by
   rcases Az.1 ((h x).1 (by simp))with e|hx
   ·exact e
   rcases Az.1 ((h y).2 (by simp))with e|hy
   ·exact e.symm
   have h1:=hm'.1 x hx;have h2:=hl'.1 y hy
   have:=(zBk x y).2.2
   omega
  subst e;rw[rsc_ext hl'.2 hm'.2 λz=>⟨λhz=>?_,λhz=>?_⟩]
  ·rcases Az.1 ((h z).1 (AC _ hz))with rfl|hz'
   ·exact absurd (hl'.1 z hz) (hirr z)
   exact hz'
  rcases Az.1 ((h z).2 (AC _ hz))with rfl|hz'
  ·exact absurd (hm'.1 z hz) (hirr z)
  exact hz'
theorem zN5(d:Bool){w w':List Va->Nat}:∀(r rows:List (List Va)),rows.reverse=r->(∀x∈rows,w x=w' x)->grpL d w rows=grpL d w' rows
 |[],rows,hr,_=>by
  obtain rfl:rows=[]:=by simpa using hr
  rfl
 |x::r,rows,hr,hw=>by
  obtain rfl:rows=r.reverse++[x]:=by rw[<-AG rows,hr,A8]
  rw[zDy,zDy,zN5 d r r.reverse (AG r) λy hy=>hw y (AP _ hy),hw x (by simp)]
section
variable {I : Inp} (h : I.Ok)
include h
theorem Inp.fr_par(c v:Nat)(hc:c<I.n+1)(hf:I.fr' c=Aa)(hp:I.par' c v):I.fr' v=true:=by
 obtain⟨c1,⟨v1,v2⟩|⟨rfl,v2⟩⟩:=hp
 ·rw[Inp.fr_c c1,decide_eq_true_eq]at hf
  have:=Inp.free_key h hf ((Inp.bok h).p c v c1 v2).1
  rw[Inp.fr_c v1,decide_eq_true_eq];omega
 unfold Inp.fr';simp
theorem Inp.tot_sol(hA:∀a∈I.A,a.2≠[]):Crd (λy=>∃τ,I.Sol τ/\y=(Ak I.f).map τ) I.tot:=by
 have hf:=h.f;have hixn:I.ix' I.n=I.n:=if_neg (by omega);have hc:=Inp.cnt h (m:=I.n+1) (v:=I.n) (σ:=λ_=>Ag) (by omega) (by omega) (λhlt=>absurd hlt (by omega));rw[<-Inp.tot_w h hA]at hc;have hmem:∀w,w∈Dn I.ch' I.fr' (I.n+1) I.n↔w∈Ak I.f:=λw=>by
  rw[Au];constructor
  ·intro hw;obtain⟨f1,f2⟩:=Elt.Dn_fr I.ch' I.fr' Inp.mem_ch' _ _ w hw;have f3:=Elt.Dn_ix (Inp.elt h) (fr:=I.fr') Inp.mem_ch' _ _ w hw;have hne:w≠I.n:=λe=>by rw[e]at f3;omega
   rw[Inp.fr_c (by omega),decide_eq_true_eq]at f1;exact f1
  intro hw;exact Elt.Dn_in (Inp.elt h) I.ch' I.fr' Inp.mem_ch' (Inp.fr_par h) (Inp.und_root h (by omega)) (by omega) (by rw[Inp.fr_c (by omega)];exact decide_eq_true hw) (by omega) _ (by omega)
 have hperm:=(BP (Elt.Dn_nd (Inp.elt h) I.ch' I.fr' Inp.mem_ch' Inp.nd_ch' (I.n+1) I.n) Bf).2 hmem;refine Crd.perm hperm (hc.congr λy=>⟨?_,?_⟩)
 ·rintro⟨τ,_,_,t3,rfl⟩;exact⟨τ,(Inp.sol_iff h hA τ).1 λv hv=>t3 v (by omega) (Inp.und_root h hv) hv,rfl⟩
 rintro⟨τ,hs,rfl⟩;refine⟨up τ I.n Ag,zQ8 τ _ _,λw hw=>absurd hw.1 (by omega),λu hu _ hun=>?_,Aw λw hw=>?_⟩
 ·have:=(Inp.sol_iff h hA τ).2 hs u hun
  rwa[zFz (τ:=up τ I.n Ag) λw hw=>?_]at this;have hwn:w<I.n:=by
   rcases(Inp.bag_bit h hun).1 hw with rfl|hk
   ·exact hun
   exact((Inp.bok h).r u w hun hk).1
  exact(zKs τ _ (by omega)).symm
 have:=Au.1 ((hmem w).1 hw)
 exact(zKs τ _ (by omega)).symm
theorem Inp.cn_nb(r:Nat):∀(i u w:Nat),i<=I.n->u<I.n->w<I.n->i<=I.O.idxOf u->i<=I.O.idxOf w->(nbT I.n I.O I.nb i u).testBit w=Aa->Cn I.A r w->Cn I.A r u:=by
 have hO:=Inp.ook h;have h0:=zMc (O:=I.O) (by have:=h.n;omega:I.n<=32) (Inp.Elt h);have hn:=h.n;intro i;induction i with
 |zero=>
  intro u w _ hu hw _ _ hb hc;have hE2:∀e∈I.E,e<4294967296:=λx hx=>Bw (Inp.Elt h x hx) (show 2^I.n<=2^32 from AL (by omega) (by omega));have hb:(if u<I.n then nbE I.E u else 0).testBit w=true:=hb;rw[if_pos hu,zQd hE2 (by omega),Bl]at hb;obtain⟨e,he,hb⟩:=hb;obtain⟨a,ha,rfl⟩:=Ao.1 he;simp only[BB,zHa,decide_eq_true_eq]at hb;exact .step a ha hb.1 hb.2.1 hc
 | succ i ih=>
  intro u w hi hu hw hiu hiw hb hc;obtain⟨v1,v2⟩:=hO.at (show i<I.n by omega);rw[nbT,zJs hO.n32 hu v1 (zH0 h0.b i u) (zH0 h0.b i _)]at hb;have hN:=h0.all hO i (by omega);split at hb
  ·rename_i hk;simp only[BB,Bv]at hb;rcases hb.1 with hb|hb
   ·exact ih u w (by omega) hu hw (by omega) (by omega) hb hc
   have hv:=ih _ w (by omega) v1 hw (by omega) (by omega) hb hc;refine ih u _ (by omega) hu v1 (by omega) (by omega) ?_ hv;rw[hN.s u _ hu v1 (by omega) (by omega)];exact hk
  exact ih u w (by omega) hu hw (by omega) (by omega) hb hc
theorem Inp.cn_key(r:Nat){u w:Nat}(hu:u<I.n)(hk:(I.bag u).k.testBit w=Aa):Cn I.A r u↔Cn I.A r w:=by
 have hO:=Inp.ook h;have h0:=zMc (O:=I.O) (by have:=h.n;omega:I.n<=32) (Inp.Elt h);obtain⟨w1,w2⟩:=(Inp.bok h).r u w hu hk;have hi:=(hO.ix hu).1;have hk':(nbT I.n I.O I.nb (I.O.idxOf u) u).testBit w=true:=hk;refine⟨λhc=>Inp.cn_nb h r (I.O.idxOf u) w u (by omega) w1 hu (by omega) (Ap _) ?_ hc,λhc=>Inp.cn_nb h r (I.O.idxOf u) u w (by omega) hu w1 (Ap _) (by omega) hk' hc⟩;rw[(h0.all hO _ (by omega)).s w u w1 hu (by omega) (Ap _)];exact hk'
theorem Inp.und_cn{u r:Nat}(hr:r<I.n)(hu:Und I.par' u r)(hun:u<I.n):Cn I.A r u:=by
 induction hu with
 |refl=>exact .refl
 | step hp hs ih=>
  rename_i u v r;obtain⟨_,⟨v1,v2⟩|⟨rfl,v2⟩⟩:=hp
  ·exact(Inp.cn_key h r hun ((Inp.bok h).p u v hun v2).1).2 (ih hr v1)
  exfalso;have h1:=((Inp.elt h).und_ix hs (by omega)).2;have hixn:I.ix' I.n=I.n:=if_neg (by omega);have h2:I.ix' r=I.O.idxOf r:=if_pos hr
  have:=((Inp.ook h).ix hr).1
  omega
theorem Inp.cn_und{u r:Nat}(hr:r<I.n)(hk:(I.bag r).k=0)(hu:Cn I.A r u):Und I.par' u r/\u<I.n:=by
 induction hu with
 |refl=>exact⟨.refl _,hr⟩
 | step a ha hua hwa hcw ih=>
  rename_i u w;obtain⟨i1,i2⟩:=ih;have hun:=(zNk h.V a ha).2 u hua;refine⟨?_,hun⟩;by_cases e:u=w
  ·subst e;exact i1
  have hE:msk a.1∈I.E:=Ao.2 ⟨a,ha,rfl⟩;have h0:=zMc (O:=I.O) (by have:=h.n;omega:I.n<=32) (Inp.Elt h);have bu:(msk a.1).testBit u=true:=by rw[zHa];exact decide_eq_true hua
  have bw:(msk a.1).testBit w=true:=by rw[zHa];exact decide_eq_true hwa
  rcases Nat.le_total (I.O.idxOf u) (I.O.idxOf w)with hle|hle
  ·have hkuw:=zQt (Inp.ook h) (Inp.Elt h) h0 hE bu bw (λe2=>e e2.symm) hle;have hk':I.k' u w:=⟨hun, .inl ⟨i2,hkuw⟩⟩;exact((Inp.elt h).key_und (I.ix' w) (by omega) hk' (by omega)).trans i1
  have hkwu:=zQt (Inp.ook h) (Inp.Elt h) h0 hE bw bu e hle;rcases(Inp.elt h).und_key i1 (by omega) (w:=u) ⟨i2, .inl ⟨hun,hkwu⟩⟩with hh|⟨_,⟨_,hh⟩|⟨hh,_⟩⟩
  ·exact hh
  ·rw[hk]at hh;simp at hh
  omega
def Inp.SolC(I:Inp)(r:Nat)(τ:Nat->Va):Prop:=∀a∈I.A,(∃w∈a.1,Cn I.A r w)->a.1.map τ∈a.2
theorem Inp.solC_iff(hA:∀a∈I.A,a.2≠[]){r:Nat}(τ:Nat->Va):(∀u,u<I.n->Cn I.A r u->rowS (bgS (I.bag u)) τ∈(I.R.getD u Ag).2)↔I.SolC r τ:=by
 constructor
 ·rintro hb a ha ⟨w,hw,hc⟩;obtain⟨u,hu,hun,hall⟩:=Inp.atom_bag h ha (λe=>by rw[e]at hw;cases hw);obtain⟨x,hx,e⟩:=(Inp.jn_row h hun τ).1 (hb u hun (.step a ha hu hw hc)) a ha;have hrl:=((h.R a ha).2.2 x hx).1;have e1:a.1.filter (λv=>(bgS (I.bag u)).testBit v)=a.1:=Bo.2 hall;have e2:zBy (λv=>(bgS (I.bag u)).testBit v) a.1=Ak a.1.length:=Bo.2 λj hj=>hall _ (zBv a.1 j (Au.1 hj));rw[e1,e2,zTz hrl]at e;rw[<-e];exact hx
 intro hs u hun hc;refine(Inp.jn_row h hun τ).2 λa ha=>?_;by_cases he:a.1.filter (λv=>(bgS (I.bag u)).testBit v)=[]
 ·obtain⟨x,hx⟩:=BH _ (hA a ha);refine⟨x,hx,?_⟩;have hl:=zQv (λv=>(bgS (I.bag u)).testBit v) a.1;rw[he]at hl⊢;rw[BZ (show(zBy (λv=>(bgS (I.bag u)).testBit v) a.1).length=0 from hl.symm)];rfl
 obtain⟨w,hw⟩:=BH _ he;obtain⟨w1,w2⟩:=AB.1 hw;have hcw:Cn I.A r w:=by
  rcases(Inp.bag_bit h hun).1 w2 with rfl|hk
  ·exact hc
  exact(Inp.cn_key h r hun hk).1 hc
 exact⟨_,hs a ha ⟨w,w1,hcw⟩,zP5 _ _ _⟩
end
structure Same(I J:Inp):Prop where
 n:J.n=I.n
 f:J.f=I.f
 d:J.desc=I.desc
 A:∀a,a∈J.A↔a∈I.A
section
variable {I : Inp} (h : I.Ok)
include h
theorem Inp.key0(hf:0<I.f):(I.bag 0).k=0/\(I.bag 0).p<0:=by
 have hfn:=h.f;have h0:∀w,(I.bag 0).k.testBit w=false:=λw=>Bp.2 λhk=>by
  have:=Inp.free_key h hf hk;omega
 refine⟨Nat.eq_of_testBit_eq λw=>by rw[h0 w];simp,?_⟩;rcases(Inp.bok h).pz 0 (by omega)with e|⟨v,e,hv⟩
 ·omega
 have:=((Inp.bok h).p 0 v (by omega) e).1
 rw[h0]at this;cases this
theorem Inp.w0_cnt(hA:∀a∈I.A,a.2≠[])(hf:0<I.f)(σ:Nat->Va)(hr:I.R' 0 σ)(D:List Nat)(hD:D.Nodup)(hDm:∀w,w∈D↔w<I.f/\Cn I.A 0 w/\w≠0):
  Crd (λy=>∃τ,(τ 0=σ 0/\I.SolC 0 τ)/\y=D.map τ) (I.w' 0 σ):=by
 have hfn:=h.f;obtain⟨k0,p0⟩:=Inp.key0 h hf;have hix:∀v,v<I.n->I.ix' v<I.n:=λv hv=>by
  unfold Inp.ix';rw[if_pos hv];exact((Inp.ook h).ix hv).1
 have hc:=Inp.cnt h (m:=I.n) (v:=0) (σ:=σ) (by omega) (hix 0 (by omega)) hr;have hmem:∀w,w∈Dn I.ch' I.fr' I.n 0↔w∈D:=λw=>by
  rw[hDm];constructor
  ·intro hw;obtain⟨f1,f2⟩:=Elt.Dn_fr I.ch' I.fr' Inp.mem_ch' _ _ w hw;have f3:=Elt.Dn_ix (Inp.elt h) (fr:=I.fr') Inp.mem_ch' _ _ w hw;have f4:=Elt.Dn_und I.ch' I.fr' Inp.mem_ch' _ _ w hw;have h0:=hix 0 (by omega);have hne:w≠I.n:=λe=>by
    have:I.ix' I.n=I.n:=if_neg (by omega);rw[e]at f3;omega
   rw[Inp.fr_c (by omega),decide_eq_true_eq]at f1;exact⟨f1,Inp.und_cn h (by omega) f4 (by omega),λe=>by rw[e]at f3;omega⟩
  rintro⟨hw,hcn,hne⟩;exact Elt.Dn_in (Inp.elt h) I.ch' I.fr' Inp.mem_ch' (Inp.fr_par h) (Inp.cn_und h (by omega) k0 hcn).1 (by omega) (by rw[Inp.fr_c (by omega)];exact decide_eq_true hw) hne _ (by have:=hix 0 (by omega);omega)
 have hperm:=(BP (Elt.Dn_nd (Inp.elt h) I.ch' I.fr' Inp.mem_ch' Inp.nd_ch' I.n 0) hD).2 hmem;refine Crd.perm hperm (hc.congr λy=>⟨?_,?_⟩)
 ·rintro⟨τ,t1,_,t3,rfl⟩;exact⟨τ,⟨t1,(Inp.solC_iff h hA τ).1 λu hu hcn=>t3 u (by omega) (Inp.cn_und h (by omega) k0 hcn).1 hu⟩,rfl⟩
 rintro⟨τ,⟨t1,hs⟩,rfl⟩;refine⟨up τ I.n (σ I.n),by rw[zKs τ _ (by omega)];exact t1,λw hw=>?_,λu hu hun hun2=>?_,Aw λw hw=>?_⟩
 ·rcases hw with⟨_,⟨_,hw⟩|⟨rfl,_⟩⟩
  ·rw[k0]at hw;simp at hw
  exact zQ8 τ _ _
 ·have:=(Inp.solC_iff h hA τ).2 hs u hun2 (Inp.und_cn h (by omega) hun hun2)
  rwa[zFz (τ:=up τ I.n (σ I.n)) λw hw=>?_]at this;have hwn:w<I.n:=by
   rcases(Inp.bag_bit h hun2).1 hw with rfl|hk
   ·exact hun2
   exact((Inp.bok h).r u w hun2 hk).1
  exact(zKs τ _ (by omega)).symm
 have:=(hDm w).1 ((hmem w).1 hw)
 exact(zKs τ _ (by omega)).symm
end
theorem Inp.tot_same{I J:Inp}(h:I.Ok)(g:J.Ok)(s:Same I J):J.tot=I.tot:=by
 by_cases hA:∀a∈I.A,a.2≠[]
 ·have hA2:∀a∈J.A,a.2≠[]:=λa ha=>hA a ((s.A a).1 ha);have h1:=Inp.tot_sol h hA;have h2:=Inp.tot_sol g hA2;rw[s.f]at h2;refine h2.uniq (h1.congr λy=>?_);have e:∀τ,I.Sol τ↔J.Sol τ:=λτ=>⟨λhs a ha=>hs a ((s.A a).1 ha),λhs a ha=>hs a ((s.A a).2 ha)⟩;simp only[e]
 have z:∀K:Inp,(¬∀a∈K.A,a.2≠[])->K.tot=0:=λK hK=>by
  show(if zG0 K.A then 0 else _)=0;rw[if_pos];unfold zG0;rw[Bl];exact Bz λhc=>hK λa ha e=>hc ⟨a,ha,decide_eq_true e⟩
 rw[z I hA,z J λhh=>hA λa ha=>hh a ((s.A a).2 ha)]
theorem Inp.root_same{I J:Inp}(h:I.Ok)(g:J.Ok)(s:Same I J)(hf:0<I.f):J.U 0=I.U 0:=by
 have hfn:=h.f;show(if J.tot=0 then[]else buk J.b J.VT J.TT 0)=if I.tot=0 then[]else buk I.b I.VT I.TT 0
 rw[Inp.tot_same h g s];by_cases ht:I.tot=0
 ·rw[if_pos ht,if_pos ht]
 rw[if_neg ht,if_neg ht];have hA:∀a∈I.A,a.2≠[]:=λa ha e=>ht (by
  show(if zG0 I.A then 0 else _)=0;rw[if_pos];unfold zG0;rw[Bl];exact⟨a,ha,decide_eq_true e⟩)
 have hA2:∀a∈J.A,a.2≠[]:=λa ha=>hA a ((s.A a).1 ha);have hjf:0<J.f:=by rw[s.f];exact hf
 have hjn:0<J.n:=by rw[s.n];omega
 have hin:0<I.n:=by omega
 have ek:bgS (J.bag 0)=bgS (I.bag 0):=by
  show(J.bag 0).k|||2^(J.bag 0).v=(I.bag 0).k|||2^(I.bag 0).v;rw[(Inp.key0 h hf).1,(Inp.key0 g hjf).1,(Inp.bok h).v,(Inp.bok g).v]
 have hrow:∀σ,rowS (bgS (I.bag 0)) σ∈(J.R.getD 0 Ag).2↔rowS (bgS (I.bag 0)) σ∈(I.R.getD 0 Ag).2:=λσ=>by
  have h1:=Inp.jn_row g hjn σ;rw[ek]at h1;rw[h1,Inp.jn_row h hin σ];exact⟨λhh a ha=>hh a ((s.A a).2 ha),λhh a ha=>hh a ((s.A a).1 ha)⟩
 have eR:(J.R.getD 0 Ag).2=(I.R.getD 0 Ag).2:=by
  refine rsc_ext ?_ ?_ λx=>⟨λhx=>?_,λhx=>?_⟩
  ·rw[Inp.Rat hjn];exact(zFh (Inp.aok g hjn)).1
  ·rw[Inp.Rat hin];exact(zFh (Inp.aok h hin)).1
  ·obtain⟨σ,rfl⟩:=Inp.jn_of g hjn hx;rw[ek]at hx⊢;exact(hrow σ).1 hx
  obtain⟨σ,rfl⟩:=Inp.jn_of h hin hx;exact(hrow σ).2 hx
 have ew:∀x∈(I.R.getD 0 Ag).2,wtL J.f J.VT J.TT x (chV J.b 0)=wtL I.f I.VT I.TT x (chV I.b 0):=λx hx=>by
  obtain⟨σ,rfl⟩:=Inp.jn_of h hin hx
  classical
  have hnd:((Ak I.f).filter λw=>decide (Cn I.A 0 w/\w≠0)).Nodup:=Bf.filter _;have c1:=Inp.w0_cnt h hA hf σ (λ_=>hx) ((Ak I.f).filter λw=>decide (Cn I.A 0 w/\w≠0)) hnd λw=>by simp
  have hcn:∀w,Cn J.A 0 w↔Cn I.A 0 w:=λw=>⟨λhh=>hh.sub λa ha=>(s.A a).1 ha,λhh=>hh.sub λa ha=>(s.A a).2 ha⟩;have c2:=Inp.w0_cnt g hA2 hjf σ (λ_=>by rw[ek];exact(hrow σ).2 hx) ((Ak I.f).filter λw=>decide (Cn I.A 0 w/\w≠0)) hnd λw=>by
   rw[s.f,hcn];simp
  have e:∀τ,J.SolC 0 τ↔I.SolC 0 τ:=λτ=>⟨λhs a ha ⟨w,w1,w2⟩=>hs a ((s.A a).2 ha) ⟨w,w1,(hcn w).2 w2⟩,λhs a ha ⟨w,w1,w2⟩=>hs a ((s.A a).1 ha) ⟨w,w1,(hcn w).1 w2⟩⟩;have c3:=c2.uniq (c1.congr λy=>by simp only[e]);unfold Inp.w' at c3;rw[if_pos hjn,if_pos hin,ek]at c3;exact c3
 show grpL (J.desc.getD 0 Ab) (λx=>wtL J.f J.VT J.TT x (chV J.b 0)) (J.R.getD 0 Ag).2=grpL (I.desc.getD 0 Ab) (λx=>wtL I.f I.VT I.TT x (chV I.b 0)) (I.R.getD 0 Ag).2;rw[eR,s.d];exact zN5 _ _ _ rfl ew
section
set_option maxRecDepth 4096
theorem zWt{α:Type}(l:List α)(d:α){i:Nat}(h:i<l.length):l.reverse.getD i d=l.getD (l.length-1-i) d:=by
 rw[AE,AE,BO h]
theorem zX0(d:Bool)(w:List Va->Nat):∀(r rows:List (List Va)),rows.reverse=r->(∀x∈rows,kyX x=[])->(grpL d w rows).length<=1/\∀b∈grpL d w rows,b.key=[]
 |[],rows,hr,_=>by
  obtain rfl:rows=[]:=by simpa using hr
  exact⟨by simp[grpL],λb hb=>by cases hb⟩
 | x ::r,rows,hr,hk=>by
  obtain rfl:rows=r.reverse++[x]:=by rw[<-AG rows,hr,A8]
  obtain⟨i1,i2⟩:=zX0 d w r r.reverse (AG r) λy hy=>hk y (AP _ hy);rw[zDy,hk x (by simp)];split
  ·rcases BQ (grpL d w r.reverse)with e|⟨m,b,e⟩
   ·rw[e,zGn];exact⟨by simp,λb hb=>by rw[A1]at hb;rw[hb]⟩
   rw[BR]at e;rw[e]at i1 i2⊢;have hb:=i2 b (by simp);rw[zJ1 _ _ _ _ _ _ hb];refine⟨by simpa using i1,λb' hb'=>?_⟩;rcases List.mem_append.1 hb' with hb'|hb'
   ·exact i2 b' (AP _ hb')
   rw[A1]at hb';rw[hb'];exact hb
  exact⟨i1,i2⟩
theorem Inp.root_one{I:Inp}(h:I.Ok)(hf:0<I.f):(I.U 0).length<=1/\∀b∈I.U 0,b.key=[]:=by
 have hfn:=h.f;show(if I.tot=0 then[]else buk I.b I.VT I.TT 0).length<=1/\∀b∈(if I.tot=0 then[]else buk I.b I.VT I.TT 0),b.key=[];split
 ·exact⟨by simp,λb hb=>by cases hb⟩
 refine zX0 _ _ _ _ rfl λx hx=>?_;obtain⟨σ,rfl⟩:=Inp.jn_of h (show 0<I.n by omega) hx;rw[Inp.free_row h hf,(Inp.key0 h hf).1];unfold rowS zAo;simp
theorem zY6(c:Cs)(h:c.Small)(ht:c.Typ)(pm:List Int)(hpm:pm.length<=2000000):Pure Ah 5 [.agg (csC c),zAu pm] [] (bD Aa):=by
 obtain⟨b,hb,hfew⟩:=few_c c h;obtain⟨m,ok1,h1,h2,h3,h4⟩:=zPk c h;by_cases hVR:c.V.length=c.R.length
 ·let d:Cs:={c with P:=pm,V:=c.V.reverse,R:=c.R.reverse};have hd:d.Small:=⟨h.d,hpm,by show c.V.reverse.length<=_;rw[A9];exact h.V,by show c.R.reverse.length<=_;rw[A9];exact h.R,λl hl=>h.v l (Bq.1 hl),λl hl=>h.r l (Bq.1 hl)⟩;obtain⟨m2,ok2,k1,k2,k3,k4⟩:=zPk d hd;have e:csC d=[iD c.n,iD c.f, .row (c.desc.map bD) c.desc.length,zAu pm, .row (c.V.reverse.map zAu) c.V.length, .row (c.R.reverse.map zBd) c.V.length]:=by
   show[iD c.n,iD c.f,_,_,Af (c.V.reverse.map zAu) c.V.reverse.length,Af (c.R.reverse.map zBd) c.R.reverse.length]=_;rw[A9,A9,hVR]
  rw[e]at k4;by_cases hall:b=Aa/\ok1=Aa/\ok2=Aa
  ·obtain⟨rfl,rfl,rfl⟩:=hall;obtain⟨hl,he,hc⟩:=h2.1 rfl;obtain⟨hl2,he2,hc2⟩:=k2.1 rfl;obtain rfl:=h3 rfl;obtain rfl:=k3 rfl;have hfw:=hb rfl;have hrl:d.V.length=c.V.length:=A9;have hrl2:d.R.length=c.R.length:=A9;have ht2:d.Typ:=λl hl=>ht l (Bq.1 hl);have hP10:pm.length<=10:=by
    have h10:=Cs.ic hc2;have hn:=hfw.n;have e1:d.n=c.n:=rfl;have e2:d.P.length=pm.length:=rfl;omega
   have hfw2:d.Few:=⟨by rw[hrl2];exact hfw.R,by rw[hrl];exact hfw.V,hfw.d,hP10,hfw.n,λl hl=>hfw.r l (Bq.1 hl),λl hl=>hfw.v l (Bq.1 hl),by
    show(c.R.reverse.map λl=>max 1 l.length).foldl (· *·) 1<=5000;rw[List.map_reverse,List.foldl_reverse]
    have:=hfw.C
    rw[zJc,AU]at this;rw[show(λ(x y:Nat)=>y*x)=(λx y=>x*y)from funext λx=>funext λy=>Bb y x];exact this⟩
   have hok:=Cs.inp_ok hl he hc hfw ht;have hok2:=Cs.inp_ok hl2 he2 hc2 hfw2 ht2;have hsm:Same c.inp d.inp:=by
    refine⟨rfl,rfl,rfl,λa=>?_⟩;show a∈(Ak d.V.length).map (λi=>((c.V.reverse.getD i []).map AO,relR (c.R.reverse.getD i [])))↔a∈(Ak c.V.length).map λi=>((c.V.getD i []).map AO,relR (c.R.getD i []));rw[Ao,Ao];constructor
    ·rintro⟨i,hi,rfl⟩;have hi:=Au.1 hi;rw[hrl]at hi;exact⟨c.V.length-1-i,Au.2 (by omega),by rw[zWt c.V _ hi,zWt c.R _ (by omega),hVR]⟩
    rintro⟨i,hi,rfl⟩;have hi:=Au.1 hi;exact⟨c.V.length-1-i,Au.2 (by omega),by rw[zWt c.V _ (by omega),zWt c.R _ (by omega),show c.V.length-1-(c.V.length-1-i)=i by omega,show c.R.length-1-(c.V.length-1-i)=i by omega]⟩
   obtain⟨S1,_,_,b1⟩:=zK8 c h hl he hc hfw ht;obtain⟨S2,_,_,b2⟩:=zK8 d hd hl2 he2 hc2 hfw2 ht2;have et:=Inp.tot_same hok hok2 hsm;rw[show d.inp.ix=ixD c.desc (d.inp.L.take d.inp.f) d.inp.U c.inp.tot by rw[<-et];rfl]at b2;refine ordersW c pm _ _ (c.inp.L.take c.inp.f) (d.inp.L.take d.inp.f) c.inp.U d.inp.U c.inp.tot _ _ h hVR Aa Aa Aa h4 k4 hfew λ_ _ _=>⟨b1,b2,Inp.tot_sm hok,λhf0=>?_⟩;obtain⟨n1,n2⟩:=Cs.inp_n hc;have hf:0<c.inp.f:=by omega
   have hdl:c.desc.length=c.inp.f:=hok.d;have hn6:=hok.n;have hfn:=hok.f;have er:=Inp.root_same hok hok2 hsm hf;obtain⟨o1,o2⟩:=Inp.root_one hok hf;obtain⟨q1,q2⟩:=Inp.U_ok hok (c:=0) (by omega);cases hU:c.inp.U 0 with
   |nil=>
    left;have f1:=zPf c.desc (c.inp.L.take c.inp.f) c.inp.U c.inp.tot 0 [] 0 rfl (by omega) (λx hx=>by cases hx) (by omega) (by omega) (by rw[hU];exact A7) (by rw[hU];intro b hb;cases hb);have f2:=zPf c.desc (d.inp.L.take d.inp.f) d.inp.U c.inp.tot 0 [] 0 rfl (by omega) (λx hx=>by cases hx) (by omega) (by omega) (by rw[er,hU];exact A7) (by rw[er,hU];intro b hb;cases hb);exact⟨f1.le (.cons (.refl _) (.cons (.refl _) (.cons Bn .nil))),f2.le (.cons (.refl _) (.cons (.refl _) (.cons Bn .nil)))⟩
   | cons bu rest=>
    right;have hr0:rest=[]:=by
     rw[hU]at o1;exact BZ (by simpa using o1)
    subst hr0;have hk:bu.key=[]:=o2 bu (by rw[hU];simp);have hto:=(q2 bu (by rw[hU];simp)).2;have f1:=zGq c.desc (c.inp.L.take c.inp.f) c.inp.U c.inp.tot 0 0 0 (by rw[hU];exact congrArg Ad hk) (by omega) (by rw[hU];show∀x∈bu.key,_;rw[hk];intro x hx;cases hx) (by omega) (by omega) (by rw[hU];simp) (by rw[hU];simp) (by rw[hU];simp);have f2:=zGq c.desc (d.inp.L.take d.inp.f) d.inp.U c.inp.tot 0 0 0 (by rw[er,hU];exact congrArg Ad hk) (by omega) (by rw[er,hU];show∀x∈bu.key,_;rw[hk];intro x hx;cases hx) (by omega) (by omega) (by rw[er,hU];simp) (by rw[er,hU];simp) (by rw[er,hU];simp);rw[hU]at f1;rw[er,hU]at f2;rw[show(List.getD [bu] 0 Ag)=bu from rfl,hk]at f1 f2;exact⟨bu.desc,bu.t,hto,f1.le (.cons (.refl _) (.cons (.refl _) (.cons Bn .nil))),f2.le (.cons (.refl _) (.cons (.refl _) (.cons Bn .nil)))⟩
  exact ordersW c pm _ _ [] [] (λ_=>[]) (λ_=>[]) 0 0 0 h hVR b ok1 ok2 h4 k4 hfew λg1 g2 g3=>absurd ⟨g1,g2,g3⟩ hall
 have hd:({c with P:=pm,V:=[],R:=[]}:Cs).Small:=⟨h.d,hpm,by simp,by simp,λl hl=>(by cases hl),λl hl=>(by cases hl)⟩;obtain⟨m2,ok2,k1,k2,k3,k4⟩:=zPk {c with P:=pm,V:=[],R:=[]} hd;obtain rfl:ok1=false:=Bp.2 λhh=>hVR (h2.1 hh).1;exact ordersNe c pm _ _ h hVR b ok2 h4 k4 hfew
end
end Go.Proofs.YtjcofbkhoeockaaGreatDoor
