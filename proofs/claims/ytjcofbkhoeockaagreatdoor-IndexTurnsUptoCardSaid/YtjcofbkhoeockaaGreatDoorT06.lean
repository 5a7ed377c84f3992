/- Texts of this claim, joined: BaP BbP BcP Dck VdP Ca Dcv Dca EvP Dew TuP Dtw Dtx -/
import Derived.Test.YtjcofbkhoeockaaGreatDoorT05
import Derived.Test.YtjcofbkhoeockaaGreatDoorProg
set_option linter.unusedVariables false
set_option linter.unusedSimpArgs false
namespace Go.Proofs.YtjcofbkhoeockaaGreatDoor
open _root_.List renaming length->Aa,map->Af,drop->Ag,flatMap->Ak,mem_map->Ao,getElem?_eq_getElem->Ap,take->Aq,getD_eq_getElem?_getD->As,range->Az,length_map->AB,getD->AF,getElem_mem->AG,map_cons->AH,map_map->AI,mem_range->AK,mem_cons_self->AO,mem_cons_of_mem->AP,drop_zero->AW,reverse_reverse->AX,getElem_of_mem->AZ,all_eq_true->A1,mem_cons->A3,map_append->A4,foldr_cons->A6,Nodup->A7,pairwise_map->A8,map_congr_left->A9,flatMap_map->Bb,headD->Bc,mem_filter->Bh,ext_getElem->Bi,foldl_cons->Bj,length_cons->Bl,mem_singleton->Bn,take_length->Bo,pairwise_iff_getElem->Br,not_mem_nil->Bs,drop_take->Bt,length_drop->Bv,reverse_cons->Bw,length_set->By,mem_of_find?_eq_some->BA,mem_take_iff_getElem->BB
open _root_.Bool renaming false->Ab,true->Ad,and_true->Bx
open _root_.Inhabited renaming default->Ae
open _root_.Go.Proofs.Tryz renaming prog->Ah,func7->Bf
open D renaming row->Ai,agg->Aj,own->Am,val->Aw,osl->AA
open _root_.Option renaming some->Al,map_eq_some_iff->Bz
open _root_.Nat renaming le_trans->An,le_refl->Au,lt_or_ge->AD,pow_le_pow_right->AJ,mul_le_mul_right->AT,zero_le->A0,mul_comm->A_,mul_assoc->Ba,mul_le_mul_left->Bm
open Bu renaming t->Ar,desc->AR
open _root_.Prod renaming fst->Ax,snd->AS
open Kd renaming plain->Ay
open Bk renaming mk->AC,cells->A2
open _root_.Int renaming toNat->AE
open Va renaming kind->AL,int->AM,str->AN
open Value renaming bool->AQ,int->AU,string->A5
open IntKind renaming i64->AV
open _root_.ByteArray renaming toList->AY
open _root_.Classical renaming choose->Bp,byContradiction->Bq
open Go.RowKit
theorem jn_all{s:Nat}{A:List (List Nat×List Rw)}(Q:Va->Prop)(hao:AOk (mkP s A))(hR:∀a∈A,∀r∈a.2,r.length=a.1.length/\∀v∈r,Q v):∀x∈jn (mkP s A),x.length=(zBa s).length/\∀v∈x,Q v:=λx hx=>by
 obtain⟨h1,h2⟩:=((zLy hao).2 x).1 hx;refine⟨h1,λv hv=>?_⟩;obtain⟨w,hw,rfl⟩:=AZ hv;have h1':x.length=(mkP s A).n:=h1;obtain⟨a,ha,hm⟩:=hao.v.cov w (by omega);have h3:=h2 a ha;have ha2:a<A.length:=by
  have:(mkP s A).A.length=A.length:=AB _;omega
 have hpa:(mkP s A).A.getD a Ae=zBl s (A.getD a Ae):=zF0 s A ha2;rw[hpa]at h3;obtain⟨q,hq,e⟩:=Ao.1 (zKp.1 h3);have hmem:x[w]∈prj (mkP s A).vs a 0 x:=Ao.2 ⟨w,Bh.2 ⟨hm,by simp⟩,by rw[As,Ap hw];rfl⟩;rw[<-e]at hmem;have hA:A.getD a Ae∈A:=by rw[As,Ap ha2];exact AG ha2
 obtain⟨q1,q2⟩:=hR _ hA q hq;obtain⟨c,hc,e2⟩:=Ao.1 hmem;have hc2:=zJu _ _ c hc;rw[<-e2];refine q2 _ ?_;rw[As,Ap (by omega:c<q.length)];exact AG _
theorem zNj{α:Type}[DecidableEq α]:∀{L M:List α},L.Nodup->(∀x∈L,x∈M)->L.length<=M.length
 |[],_,_,_=>A0 _
 |a::L,M,hn,h=>by
  obtain⟨h1,h2⟩:=List.nodup_cons.1 hn;have ha:=h a (AO ..)
  have:=zNj (L:=L) (M:=M.erase a) h2 λx hx=>(List.mem_erase_of_ne (λe=>h1 (by rw[<-e];exact hx))).2 (h x (AP _ hx))
  grind
def cart{α:Type}:List (List α)->List (List α)
 |[]=>[[]]
 |l::ls=>l.flatMap λa=>(cart ls).map (a::·)
theorem zXr{α:Type}:∀ls:List (List α),(cart ls).length=(ls.map (·.length)).foldr (· *·) 1
 |[]=>rfl
 |l::ls=>by
  rw[cart,AH,A6,<-zXr ls];induction l<;>grind
theorem zXq{α β:Type}(f:β->α)(L:β->List α):∀B:List β,(∀a∈B,f a∈L a)->B.map f∈cart (B.map L)
 |[],_=>by simp[cart]
 |a::B,h=>by
  rw[AH,AH,cart,List.mem_flatMap];exact⟨f a,h a (AO ..),Ao.2 ⟨_,zXq f L B λb hb=>h b (AP _ hb),rfl⟩⟩
theorem zTb{β:Type}(f g:β->Nat):∀B:List β,(∀a∈B,f a<=g a)->(B.map f).foldr (· *·) 1<=(B.map g).foldr (· *·) 1
 |[],_=>Au _
 |a::B,h=>by
  rw[AH,AH,A6,A6];exact Nat.mul_le_mul (h a (AO ..)) (zTb f g B λb hb=>h b (AP _ hb))
def combs(A:List (List Nat×List Rw)):Nat:=(A.map λa=>max 1 a.2.length).foldr (· *·) 1
theorem jn_len{s:Nat}{A:List (List Nat×List Rw)}(hao:AOk (mkP s A)):(jn (mkP s A)).length<=combs A:=by
 have hsp:=zLy hao;generalize hm:mkP s A=m at*;let code:Rw->List Rw:=λx=>(Az m.A.length).map λa=>prj m.vs a 0 x;have hnd:(jn m).Nodup:=(hsp.1).imp λ{a b} h e=>by
  grind [zB5]
 have hinj:∀x y,x∈jn m->y∈jn m->code x=code y->x=y:=λx y hx hy e=>by
  obtain⟨x1,_⟩:=(hsp.2 x).1 hx;obtain⟨y1,_⟩:=(hsp.2 y).1 hy;apply Bi (by omega);intro w h1 h2;obtain⟨a,ha,hmem⟩:=hao.v.cov w (by omega);have e2:prj m.vs a 0 x=prj m.vs a 0 y:=by
   have:=congrArg (λl=>l.getD a []) e
   grind
  have:=List.map_inj_left.1 e2 w (Bh.2 ⟨hmem,by simp⟩)
  grind
 have hnd2:((jn m).map code).Nodup:=by
  rw[A7,A8];exact hnd.imp_of_mem λ{x y} hx hy hne e=>hne (hinj x y hx hy e)
 have h1:=zNj (M:=cart ((Az m.A.length).map λa=>(m.A.getD a Ae).2)) hnd2 λz hz=>by
  grind [zXq]
 rw[AB,zXr,AI]at h1;refine An h1 ?_;have e:(Az m.A.length).map ((λl:List Rw=>l.length)∘λa=>(m.A.getD a Ae).2)=m.A.map λa=>a.2.length:=by
  apply Bi (by simp);grind
 rw[e,<-hm];show((A.map (zBl s)).map λa=>a.2.length).foldr (· *·) 1<=_;rw[AI];exact zTb _ _ A λa _=>An (zKm s a) (Nat.le_max_right _ _)
abbrev Tbs:=(Nat->List Rw)×(Nat->List (Rw×Nat))
def tabS(b:Bd)(v:Nat)(p:Tbs):Tbs:=(λc=>if c=v then redK (λx=>wtL b.f p.1 p.2 x (chV b v)) (keyC b v) (b.R.getD v Ae).2 else p.1 c,λc=>if c=v then totL (grpL (b.desc.getD v Ab) (λx=>wtL b.f p.1 p.2 x (chV b v)) (b.R.getD v Ae).2)else p.2 c)
def tab(b:Bd)(O:List Nat):Nat->Tbs
 |0=>(λ_=>[],λ_=>[])
 |i+1=>tabS b (O.getD i 0) (tab b O i)
theorem wtL_ext{f:Nat}{V V':Nat->List Rw}{T T':Nat->List (Rw×Nat)}{x:Rw}{ch:List (Nat×List Nat)}(h:∀c∈ch,V c.1=V' c.1/\T c.1=T' c.1):wtL f V T x ch=wtL f V' T' x ch:=by
 grind [wtL,A9,wone]
section
variable {b : Bd} {O : List Nat} (hO : Ook b.n O) (hch : ∀ v, v < b.n → ∀ c ∈ chV b v, c.1 < b.n ∧ O.idxOf c.1 < O.idxOf v)
include hO
theorem zM5{c i j:Nat}(hc:c<b.n)(h:O.idxOf c<i)(hij:i<=j)(hj:j<=b.n):(tab b O j).1 c=(tab b O i).1 c/\(tab b O j).2 c=(tab b O i).2 c:=by
 induction j with
 |zero=>omega
 | succ j ih=>
  rcases AD j i with h1|h1
  ·grind
  have hne:c≠O.getD j 0:=λe=>by
   have:=(hO.at (show j<b.n by omega)).2
   rw[<-e]at this;omega
  grind [tab,tabS,only]
include hch
theorem tab_eq{v:Nat}(hv:v<b.n):(tab b O b.n).1 v=redK (λx=>wtL b.f (tab b O b.n).1 (tab b O b.n).2 x (chV b v)) (keyC b v) (b.R.getD v Ae).2/\(tab b O b.n).2 v=totL (grpL (b.desc.getD v Ab) (λx=>wtL b.f (tab b O b.n).1 (tab b O b.n).2 x (chV b v)) (b.R.getD v Ae).2):=by
 obtain⟨h1,h2⟩:=hO.ix hv;obtain⟨e1,e2⟩:=zM5 hO hv (Nat.lt_succ_self (O.idxOf v)) (Nat.succ_le_of_lt h1) (Au _);have e3:(λx=>wtL b.f (tab b O b.n).1 (tab b O b.n).2 x (chV b v))=λx=>wtL b.f (tab b O (O.idxOf v)).1 (tab b O (O.idxOf v)).2 x (chV b v):=funext λx=>wtL_ext λc hc=>by
  obtain⟨c1,c2⟩:=hch v hv c hc;exact zM5 hO c1 c2 (by omega) (Au _)
 simp_all [tab,tabS,only]
end
def exB:Nat->Nat
 |0=>1
 |i+1=>1+(i+1)*exB i
theorem zQa{i j:Nat}(h:i<=j):exB i<=exB j:=by
 induction h with
 |refl=>exact Au _
 |step _ ih=>
  grind [An,exB,Nat.succ_mul]
theorem zTt{B:Nat}(hB:1<=B):∀(l:List Nat)(a:Nat),(∀x∈l,x<=B)->l.foldl (· *·) a<=a*B^l.length
 |[],a,_=>by simp
 |x::l,a,h=>by
  rw[Bj];refine An (zTt hB l (a*x) λy hy=>h y (AP _ hy)) ?_;rw[Bl,Nat.pow_succ,A_ (B^l.length) B,<-Ba];simp_all [AT,Bm,AO]
theorem zSz{w:Rw->Nat}{M:Nat}:∀l:List Rw,(∀x∈l,w x<=M)->sumW w l<=l.length*M
 |[],_=>by simp[sumW]
 |x::l,h=>by
  have:=zSz l λy hy=>h y (AP _ hy)
  grind [AO,sumW,Bl,Nat.succ_mul]
theorem tput_mem{K:List (List Va×Nat)}{r:List Va}{w:Nat}{p:List Va×Nat}(h:p∈tput K r w):p=(r,w)\/p∈K:=by
 grind [tput,List.mem_or_eq_of_mem_set,Bn]
theorem totL_mem{p:List Va×Nat}:∀l:List Bu,p∈totL l->∃b∈l,p=(b.key,b.t.tot):=by
 have key:∀(l:List Bu)(K:List (List Va×Nat)),p∈l.foldl (λK b=>tput K b.key b.t.tot) K->p∈K\/∃b∈l,p=(b.key,b.t.tot):=by
  intro l;induction l with
  |nil=>exact λK h=> .inl h
  |cons b l ih=>
   intro K h;rw[Bj]at h;rcases ih _ h with h|⟨u,hu,h⟩;all_goals grind [tput_mem,AO,AP]
 intro l h;rcases key l [] h with h|h
 ·cases h
 exact h
theorem dg_pow:∀(k n:Nat),n<4294967296^k->(dg n).length<=k
 |0,n,h=>by
  simp_all [Nat.pow_zero,dg]
 | k+1,n,h=>by
  rw[dg];split
  ·simp
  rw[Bl]
  have:=dg_pow k (n/4294967296) (by rw[Nat.pow_succ]at h;exact Nat.div_lt_of_lt_mul (by rw[A_];exact h))
  omega
theorem b32_pow(k:Nat):4294967296^k=2^(32*k):=by rw[Nat.pow_mul]
theorem dg_exp{n e k:Nat}(h:n<=2^e)(he:e<32*k):(dg n).length<=k:=by
 refine dg_pow k n ?_;rw[b32_pow];exact Nat.lt_of_le_of_lt h (Nat.pow_lt_pow_right (by omega) he)
theorem Sm.pow{n e:Nat}(h:n<=2^e)(he:e<32000):Sm n:=dg_exp h he
theorem zE1(e:Nat):1<=2^e:=Nat.one_le_two_pow
section
variable {b : Bd} {O : List Nat} (hO : Ook b.n O) (hch : ∀ v, v < b.n → ∀ c ∈ chV b v, c.1 < b.n ∧ O.idxOf c.1 < O.idxOf v) (hnd : ∀ v, v < b.n → ((chV b v).map (·.1)).Nodup)
 {V : Nat → List Rw} {T : Nat → List (Rw × Nat)} (hT : ∀ v, v < b.n → T v = totL (grpL (b.desc.getD v Ab) (fun x => wtL b.f V T x (chV b v)) (b.R.getD v Ae).2)) (hl : ∀ v, v < b.n → (b.R.getD v Ae).2.length ≤ 65536)
include hO hch hnd
theorem ch_few{v:Nat}(hv:v<b.n):(chV b v).length<=O.idxOf v:=by
 have h1:((chV b v).map λc=>O.idxOf c.1).Nodup:=by
  have e:(chV b v).map (λc=>O.idxOf c.1)=((chV b v).map (·.1)).map λu=>O.idxOf u:=by rw[AI];rfl
  rw[e,A7,A8];exact(hnd v hv).imp_of_mem λ{x y} hx hy hne e=>by
   obtain⟨c,hc,rfl⟩:=Ao.1 hx;obtain⟨d,hd,rfl⟩:=Ao.1 hy;exact hne (hO.inj (hch v hv c hc).1 (hch v hv d hd).1 e)
 have:=zF5 (n:=O.idxOf v) h1 λx hx=>by
  grind
 rwa[AB]at this
theorem wt_le{v:Nat}(hv:v<b.n)(E:Nat)(hE:∀c∈chV b v,∀p∈T c.1,p.2<=2^E)(x:Rw)(i:Nat):wtL b.f V T x ((chV b v).take i)<=2^(O.idxOf v*E):=by
 unfold wtL;have h1:=zTt (zE1 E) (((chV b v).take i).map (wone b.f V T x)) 1 λy hy=>by
  obtain⟨c,hc,rfl⟩:=Ao.1 hy;unfold wone;split
  ·cases e:tlk (T c.1) (zY x c.2)with
   |none=>simp
   |some w=>
    grind [tlk,Bz,List.mem_of_mem_take,BA]
  grind
 rw[Nat.one_mul,AB,<-Nat.pow_mul]at h1;grind [An,AJ,A_,AT,ch_few]
include hT hl
theorem tab_le:∀(i v:Nat),v<b.n->O.idxOf v=i->∀p∈T v,p.2<=2^(16*exB i):=λi=>by
 induction i using Nat.strongRecOn with
 | _ i ih=>
  intro v hv hi p hp;rw[hT v hv]at hp;obtain⟨u,hu,rfl⟩:=totL_mem _ hp;have h1:=((zP5 (Q:=λ_=>True) (b.R.getD v Ae).2 λ_ _=>trivial).2 u hu).s;refine An h1 ?_;have hw:∀x∈(b.R.getD v Ae).2,wtL b.f V T x (chV b v)<=2^(16*(exB i-1)):=λx _=>by
   have:=wt_le (V:=V) hO hch hnd hv (16*exB (i-1)) (λc hc p hp=>by
    obtain⟨c1,c2⟩:=hch v hv c hc;refine An (ih _ (by omega) c.1 c1 rfl p hp) (AJ (by omega) (Bm _ (zQa (by omega))))) x (chV b v).length
   rw[Bo,hi]at this;refine An this (AJ (by omega) ?_);cases i with
   |zero=>simp
   |succ i=>
    rw[exB,Nat.add_sub_cancel,Nat.add_sub_cancel_left,<-Ba,A_ (i+1) 16,Ba];exact Au _
  refine An (zSz _ hw) ?_;refine An (AT _ (hl v hv)) ?_;have e:(65536:Nat)=2^16:=rfl;rw[e,<-Nat.pow_add];refine AJ (by omega) ?_;have:1<=exB i:=zQa (A0 i);omega
end
structure Inp where
 n:Nat
 f:Nat
 desc:List Bool
 P:List Nat
 A:List (List Nat×List Rw)
structure Inp.Ok(I:Inp):Prop where
 n:I.n<=6
 f:I.f<=I.n
 d:I.desc.length=I.f
 P:I.P.length+I.f=I.n
 P2:∀v∈I.P,I.f<=v/\v<I.n
 P3:I.P.Nodup
 A:I.A.length<=5
 V:Vok I.n I.A.length λi=>(I.A.getD i Ae).1
 R:∀a∈I.A,a.2.length<=10/\Rsc a.2/\∀r∈a.2,r.length=a.1.length/\∀v∈r,vok v=Ad/\Vs v
 C:combs I.A<=5000
abbrev Inp.O(I:Inp):List Nat:=ordL I.f I.P
abbrev Inp.E(I:Inp):List Nat:=I.A.map λa=>msk a.1
abbrev Inp.nb(I:Inp):Nat->Nat:=λv=>if v<I.n then nbE I.E v else 0
abbrev Inp.bag(I:Inp):Nat->Bg:=bagE I.n I.O I.nb
abbrev Inp.L(I:Inp):List Bg:=(Az I.n).map I.bag
abbrev Inp.R(I:Inp):List (List Nat×List Rw):=I.L.map (matA I.A)
abbrev Inp.b(I:Inp):Bd:=⟨I.n,I.f,I.desc,I.P,I.A,I.L,I.R,I.E⟩
abbrev Inp.VT(I:Inp):Nat->List Rw:=(tab I.b I.O I.n).1
abbrev Inp.TT(I:Inp):Nat->List (Rw×Nat):=(tab I.b I.O I.n).2
theorem cE_ok:∀na:Fin 6,∀k:Fin 7,(na.val+1)*cE na.val 16 k.val+1<=100000000000000000:=by decide
section
variable {I : Inp} (h : I.Ok)
include h
theorem Inp.ook:Ook I.n I.O:=⟨by have:=h.n;omega,zPo h.P,zTd h.P h.P2,zTc h.P2 h.P3⟩
theorem Inp.Elt:∀e∈I.E,e<2^I.n:=λe he=>by
 obtain⟨a,ha,rfl⟩:=Ao.1 he;obtain⟨_,h2⟩:=zVn h.V a ha;refine zVb λv hv=>?_;rw[zTi,decide_eq_false_iff_not];intro hm
 have:=h2 v hm
 omega
theorem Inp.bok:Bgk I.n I.O I.bag:=bagE_ok (Inp.ook h) (nb0_ok (by have:=h.n;omega) (Inp.Elt h))
omit h in
theorem Inp.Lat{v:Nat}(hv:v<I.n):I.L.getD v Ae=I.bag v:=by
 grind
omit h in
theorem Inp.Rat{v:Nat}(hv:v<I.n):I.R.getD v Ae=matA I.A (I.bag v):=by
 grind
theorem Inp.bits{v w:Nat}(hv:v<I.n):(bgS (I.bag v)).testBit w=((I.bag v).k.testBit w||decide (w=v)):=by
 rw[bgS,(Inp.bok h).v,Nat.testBit_or,Nat.testBit_two_pow];grind
theorem Inp.bits_n{v w:Nat}(hv:v<I.n)(hw:(bgS (I.bag v)).testBit w=Ad):w<I.n:=by
 rw[Inp.bits h hv,Bool.or_eq_true,decide_eq_true_eq]at hw;rcases hw with hw|rfl
 ·exact((Inp.bok h).r v w hv hw).1
 exact hv
theorem Inp.memn{v w:Nat}(hv:v<I.n):w∈zBa (bgS (I.bag v))↔(bgS (I.bag v)).testBit w=true:=by
 unfold zBa;rw[Bh,AK]
 have:=h.n
 exact⟨λhh=>hh.2,λhh=>⟨by have:=Inp.bits_n h hv hh;omega,hh⟩⟩
theorem Inp.mem_len{v:Nat}(hv:v<I.n):0<(zBa (bgS (I.bag v))).length/\(zBa (bgS (I.bag v))).length<=I.n:=by
 constructor
 ·refine List.length_pos_of_mem ((Inp.memn h hv (w:=v)).2 ?_);rw[Inp.bits h hv];simp
 exact zF5 (List.nodup_range.filter _) λw hw=>Inp.bits_n h hv ((Inp.memn h hv).1 hw)
theorem Inp.s32{v:Nat}(hv:v<I.n):bgS (I.bag v)<4294967296/\bgS (I.bag v)>>>I.n=0:=by
 have hn:=h.n;have h1:bgS (I.bag v)<2^I.n:=zVb λw hw=>by
  cases e:(bgS (I.bag v)).testBit w with
  |false=>rfl
  |true=>have:=Inp.bits_n h hv e;omega
 exact⟨Nat.lt_of_lt_of_le h1 (AJ (n:=2) (by omega) (by omega:I.n<=32)),by rw[Nat.shiftRight_eq_div_pow];exact Nat.div_eq_of_lt h1⟩
theorem Inp.rows10:∀a∈I.A,a.2.length<=65536:=λa ha=>by have:=(h.R a ha).1;omega
theorem Inp.aok{v:Nat}(hv:v<I.n):AOk (mkP (bgS (I.bag v)) I.A):=part_ok (by have:=h.n;omega:I.n<=32) (Inp.s32 h hv).2 (by have:=h.A;omega) h.V (Inp.rows10 h)
theorem Inp.jlen{v:Nat}(hv:v<I.n):(jn (mkP (bgS (I.bag v)) I.A)).length<=5000:=An (jn_len (Inp.aok h hv)) h.C
theorem Inp.jall{v:Nat}(hv:v<I.n):∀x∈jn (mkP (bgS (I.bag v)) I.A),x.length=(zBa (bgS (I.bag v))).length/\∀u∈x,vok u=Ad/\Vs u:=jn_all (λu=>vok u=Ad/\Vs u) (Inp.aok h hv) λa ha r hr=>(h.R a ha).2.2 r hr
theorem Inp.par{v c:Nat}(hv:v<I.n)(hc:c<I.n)(hp:(I.bag c).p=(v:Int)):I.O.idxOf c<I.O.idxOf v:=((Inp.bok h).r c v hc ((Inp.bok h).p c v hc hp).1).2
theorem Inp.chs{v:Nat}(hv:v<I.n):∀c∈chV I.b v,c.1<I.n/\I.O.idxOf c.1<I.O.idxOf v:=λc hc=>by
 obtain⟨h1,h2,_⟩:=zG5 hc;have h1:c.1<I.n:=by simpa using h1
 rw[Inp.Lat h1]at h2;exact⟨h1,Inp.par h hv h1 h2⟩
omit h in
theorem Inp.chn(v:Nat):((chV I.b v).map (·.1)).Nodup:=by
 unfold chV chI;grind [AI,zC6,List.map_id,List.nodup_range.filter]
theorem Inp.ixP{i:Nat}(hi:i<I.P.length):I.O.idxOf (I.P.getD i 0)=i:=by
 have hl:=h.P;have h1:=(Inp.ook h).at (i:=i) (by omega);simp_all [Inp.O,ordL,As,List.getElem?_append_left]
theorem Inp.ixF{v:Nat}(hv:v<I.f):I.O.idxOf v=I.P.length+(I.f-1-v):=by
 have hl:=h.P;have h1:=(Inp.ook h).at (i:=I.P.length+(I.f-1-v)) (by omega);have e:I.O.getD (I.P.length+(I.f-1-v)) 0=v:=by
  unfold Inp.O ordL;grind
 rw[e]at h1;exact h1.2
theorem Inp.take{c i:Nat}(hc:c<I.n)(hi:I.O.idxOf c<i)(hil:i<=I.P.length):c∈I.P.take i:=by
 have h1:=((Inp.ook h).ix hc).2;generalize I.O.idxOf c=j at*;have h2:I.P.getD j 0=c:=by
  rw[<-h1];unfold Inp.O ordL;grind
 grind [Ap,BB]
theorem Inp.teq{v:Nat}(hv:v<I.n):I.VT v=redK (λx=>wtL I.f I.VT I.TT x (chV I.b v)) (keyC I.b v) (I.b.R.getD v Ae).2/\I.TT v=totL (grpL (I.desc.getD v Ab) (λx=>wtL I.f I.VT I.TT x (chV I.b v)) (I.b.R.getD v Ae).2):=tab_eq (b:=I.b) (O:=I.O) (Inp.ook h) (λv hv=>Inp.chs h hv) hv
theorem Inp.tle{v e:Nat}(he:e=5216)(hv:v<I.n):∀p∈I.TT v,p.2<=2^e:=λp hp=>by
 have hn:=h.n;have h1:=tab_le (b:=I.b) (O:=I.O) (V:=I.VT) (T:=I.TT) (Inp.ook h) (λv hv=>Inp.chs h hv) (λv _=>Inp.chn v) (λv hv=>(Inp.teq h hv).2) (λv hv=>by
  show(I.R.getD v Ae).2.length<=_;rw[Inp.Rat hv]
  have:=Inp.jlen h hv
  show(jn _).length<=_;omega) (I.O.idxOf v) v hv rfl p hp
 refine An h1 (AJ (by omega) ?_);have h2:=((Inp.ook h).ix hv).1;have h3:=zQa (show I.O.idxOf v<=5 by omega);have h4:exB 5=326:=by decide
 omega
theorem Inp.wle{v e:Nat}(he:e=5216)(hv:v<I.n)(x:Rw)(i:Nat):wtL I.f I.VT I.TT x ((chV I.b v).take i)<=2^(5*e):=by
 have hn:=h.n;have h1:=wt_le (b:=I.b) (O:=I.O) (V:=I.VT) (T:=I.TT) (Inp.ook h) (λv hv=>Inp.chs h hv) (λv _=>Inp.chn v) hv e (λc hc=>Inp.tle h he (Inp.chs h hv c hc).1) x i;have h2:=((Inp.ook h).ix hv).1;grind [An,AJ,AT]
theorem Inp.bal:Bal I.b I.VT I.TT where
 n:=by have:=h.n;show I.n<=_;omega
 f:=h.f
 d:=h.d
 L:=by simp
 R:=by simp
 E:=rfl
 P:=h.P
 P2:=h.P2
 P3:=h.P3
 A:=by have:=h.A;show I.A.length<=_;omega
 Av a ha:=by
  obtain⟨h1,h2⟩:=zVn h.V a ha
  have h3:=zJw (n:=I.n) 0 h1 λw hw=>⟨A0 _,h2 w hw⟩
  have hn:=h.n
  exact⟨by omega,λv hv=>by have:=h2 v hv;omega,Inp.rows10 h a ha⟩
 k c hc:=by
  obtain⟨v,hv,rfl⟩:=Ao.1 hc
  exact(Inp.bok h).k v
 V v hv:=by
  have hv:v<I.n:=hv
  have hn:=h.n
  rw[show I.b.R=I.R from rfl,Inp.Rat hv]
  obtain⟨h1,h2⟩:=Inp.mem_len h hv
  exact⟨by show(zBa _).length<=_;omega,h1,λu hu=>by have:=Inp.bits_n h hv ((Inp.memn h hv).1 hu);omega⟩
 r v hv x hx:=by
  have hv:v<I.n:=hv
  rw[show I.b.R=I.R from rfl,Inp.Rat hv]at hx⊢
  obtain⟨h1,h2⟩:=Inp.jall h hv x hx
  exact⟨h1,λu hu=>(h2 u hu).2,A1.2 λu hu=>(h2 u hu).1⟩
 rl v hv:=by
  have hv:v<I.n:=hv
  rw[show I.b.R=I.R from rfl,Inp.Rat hv]
  have:=Inp.jlen h hv
  show(jn _).length<=_
  omega
 S v hv x hx i hi:=by
  obtain⟨e,he⟩:∃e,e=5216:=⟨_,rfl⟩
  exact Sm.pow (Inp.wle h he hv x i) (by omega)
 S1 v hv p hp:=by
  obtain⟨e,he⟩:∃e,e=5216:=⟨_,rfl⟩
  exact Sm.pow (Inp.tle h he hv p hp) (by omega)
 T v hv:=by
  have hv:v<I.n:=hv
  obtain⟨e,he⟩:∃e,e=5216:=⟨_,rfl⟩
  have h1:=zSz (w:=λx=>wtL I.b.f I.VT I.TT x (chV I.b v)) (M:=2^(5*e)) (I.b.R.getD v Ae).2 λx _=>by
   have h1:=Inp.wle h he hv x (chV I.b v).length
   rwa[Bo]at h1
  have h3:(I.b.R.getD v Ae).2.length<=2^16:=by
   rw[show I.b.R=I.R from rfl,Inp.Rat hv]
   have:=Inp.jlen h hv
   show(jn _).length<=_
   omega
  refine Sm.pow (e:=16+5*e) (An h1 ?_) (by omega)
  rw[Nat.pow_add]
  exact AT _ h3
 Rt i hi:=by
  have hi:i<=I.n:=hi
  have hn:=h.n
  obtain⟨e,he⟩:∃e,e=5216:=⟨_,rfl⟩
  have h1:=zTt (zE1 e) ((Az i).map (rone I.b.L I.b.f I.VT I.TT)) 1 λy hy=>by
   obtain⟨c,hc,rfl⟩:=Ao.1 hy
   have hc:=AK.1 hc
   unfold rone
   split
   ·exact zE1 _
   split
   ·cases e2:tlk (I.TT c) []with
    |none=>simp
    |some w=>
     unfold tlk at e2
     obtain⟨q,q1,q2⟩:=Bz.1 e2
     rw[Option.getD_some,<-q2]
     exact Inp.tle h he (by omega) q (BA q1)
   split
   ·exact A0 _
   exact zE1 _
  rw[Nat.one_mul,<-Nat.pow_mul,AB,List.length_range]at h1
  refine Sm.pow (e:=e*i) h1 ?_
  have:e*i<=e*6:=Bm _ (by omega)
  omega
 vt v _ hv:=(Inp.teq h hv).1
 tt v hv:=(Inp.teq h (by have:=h.f;have hv:v<I.f:=hv;omega)).2
 o1 i hi c hc:=by
  have hi:i<I.P.length:=hi
  have h1:=h.P2 _ (zB1 I.P i hi)
  obtain⟨h2,h3⟩:=Inp.chs h h1.2 c hc
  rw[Inp.ixP h hi]at h3
  exact Inp.take h h2 h3 (by omega)
 o2 v hv c hc hcf:=by
  have hv:v<I.f:=hv
  have hcf:c.1<I.f:=hcf
  have hf:=h.f
  obtain⟨h2,h3⟩:=Inp.chs h (show v<I.n by omega) c hc
  rw[Inp.ixF h hv,Inp.ixF h hcf]at h3
  omega
end
abbrev Inp.tot(I:Inp):Nat:=totB I.b I.VT I.TT
abbrev Inp.U(I:Inp)(c:Nat):List Bu:=if I.tot=0 then[]else buk I.b I.VT I.TT c
abbrev Inp.ix(I:Inp):D:=ixD I.desc (I.L.take I.f) I.U I.tot
section
variable {I : Inp} (h : I.Ok)
include h
theorem Inp.bags_c:Pure Ah 31 [.agg [iD (I.n:Nat), .row (I.E.map u32D) I.E.length],iD (I.f:Nat), .row (nsD I.P) I.P.length] [] (.tup [.row (I.L.flatMap bgC) I.L.length,iD 0]):=by
 have hn:=h.n;have h1:=ebags_c I.n I.f (by omega) I.E (by rw[AB];have:=h.A;omega) (Inp.Elt h) I.P h.P h.P2 h.P3 I.nb rfl;grind [Bb]
theorem Inp.mat{v:Nat}(hv:v<I.n):∃z:Nat,z<=big/\Pure Ah 72 [iD (I.n:Nat),u32D (bgS (I.bag v)), .row (I.A.flatMap atR) I.A.length] [] (.tup [.agg (atR (matA I.A (I.bag v))),iD ((stpA (bgS (I.bag v)) I.A+z+(jn (mkP (bgS (I.bag v)) I.A)).length:Nat):Int),iD 0]):=by
 have hn:=h.n;have hA:=h.A;obtain⟨s1,s2⟩:=Inp.s32 h hv;obtain⟨m1,m2⟩:=Inp.mem_len h hv;have hj:=Inp.jlen h hv;exact mat_c I.n (bgS (I.bag v)) I.A (by omega) s1 s2 (by omega) h.V (Inp.rows10 h) (λa ha r hr=>⟨((h.R a ha).2.2 r hr).1,A1.2 λu hu=>(((h.R a ha).2.2 r hr).2 u hu).1⟩) m1 16 (λa ha=>by have:=(h.R a ha).1;omega) (cE_ok ⟨I.A.length,by omega⟩ ⟨_,by omega⟩) (by omega)
theorem Inp.stp{v:Nat}:stpA (bgS (I.bag v)) I.A<=50:=by
 have h1:=zN9 (s:=bgS (I.bag v)) (B:=10) (A:=I.A) λa ha=>(h.R a ha).1;have h2:=h.A;omega
theorem Inp.all:∃S:Nat,S+zDn I.R<=1000000000000000000/\Pure Ah 32 [iD (I.n:Nat), .row (I.L.flatMap bgC) I.L.length, .row (I.A.flatMap atR) I.A.length] [] (.tup [.row (I.R.flatMap atR) I.R.length,iD ((S:Nat):Int),iD 0]):=by
 have hn:=h.n;let z:Bg->Nat:=λb=>if hb:b.v<I.n then Bp (Inp.mat h hb)else 0
 have hzb:∀v (hv:v<I.n),z (I.bag v)=Bp (Inp.mat h hv):=λv hv=>by
  show(if hb:(I.bag v).v<I.n then Bp (Inp.mat h hb)else 0)=_;rw[dif_pos (show(I.bag v).v<I.n from hv)];rfl
 have hz1:∀b,z b<=big:=λb=>by
  grind
 have hL:∀b∈I.L,∃v,v<I.n/\b=I.bag v:=λb hb=>by
  grind
 have hsum:∀l:List Bg,(∀b∈l,b∈I.L)->totS I.A z l<=l.length*(big+5050)/\zDn (l.map (matA I.A))<=l.length*5000:=λl=>by
  induction l with
  |nil=>intro _;simp[totS,zDn]
  |cons b l ih=>
   intro hl;obtain⟨i1,i2⟩:=ih λc hc=>hl c (AP _ hc);obtain⟨v,hv,rfl⟩:=hL b (hl b (AO ..));have h1:=Inp.stp h (v:=v);have h2:=hz1 (I.bag v);have h3:=Inp.jlen h hv;have e1:totS I.A z (I.bag v::l)=(stpA (bgS (I.bag v)) I.A+z (I.bag v)+(jn (mkP (bgS (I.bag v)) I.A)).length)+totS I.A z l:=by simp[totS]
   have e2:zDn ((I.bag v::l).map (matA I.A))=(jn (mkP (bgS (I.bag v)) I.A)).length+zDn (l.map (matA I.A)):=by simp[zDn]
   grind
 have hLl:I.L.length=I.n:=by simp
 have hbig:big=100000000000000000:=rfl;have hall:=all_c I.n I.L I.A z (by omega) (λb hb=>by
  obtain⟨v,hv,rfl⟩:=hL b hb;exact⟨by show v<32;omega,(Inp.bok h).k v⟩) (λb hb=>by
  obtain⟨v,hv,rfl⟩:=hL b hb;rw[hzb v hv];exact(Classical.choose_spec (Inp.mat h hv)).2) (λi hi=>by
  have:=(hsum (I.L.take i) λb hb=>List.mem_of_mem_take hb).1
  refine An this ?_;have h2:(I.L.take i).length*(big+5050)<=6*(big+5050):=AT _ (by rw[List.length_take];omega);omega)
 obtain⟨q1,q2⟩:=hsum I.L λb hb=>hb;refine⟨totS I.A z I.L,?_,?_⟩
 ·grind
 simp_all [Pure,matA,atR,AB,Bb]
theorem Inp.build(hck:Pure Ah 16 [inpN I.b] [] (iD 0)):∃S:Nat,S+zDn I.R<=1000000000000000000/\Pure Ah 32 [iD (I.n:Nat), .row (I.L.flatMap bgC) I.L.length, .row (I.A.flatMap atR) I.A.length] [] (.tup [.row (I.R.flatMap atR) I.R.length,iD ((S:Nat):Int),iD 0])/\
  Pure Ah 15 [inpN I.b] [] (.tup [I.ix,iD ((S+zDn I.R:Nat):Int),iD 0]):=by
 obtain⟨S,h1,h2⟩:=Inp.all h;exact⟨S,h1,h2,build_c I.b I.VT I.TT S (Inp.bal h) hck (Inp.bags_c h) h2 (An h1 (by omega))⟩
end
section
attribute [local irreducible] seqW awp zAf zAm zAc Weak updS zAu retL Pure Acts rP setP setQ cP nP fr
set_option maxRecDepth 4096
def rofA(ar:Nat)(rows:List Rw):Int:=if 32<ar then 3 else rofE (ar:Nat) rows
theorem zV9(ar:Nat)(rows:List Rw)(n:Nat)(hn:rows.length=n)(hb:n<=2000000)(hl:∀r∈rows,r.length<=2000000):Pure Ah 48 [iD (ar:Nat), .row (rows.map rowV) n] [] (if rofA ar rows=0 then .tup [relD (ar:Nat) (relR rows),iD 0]else .tup [relZ,iD (rofA ar rows)]):=by
 by_cases h:32<ar
 ·unfold rofA;rw[if_pos h,if_neg (by decide)];have hnew:=newBad_c (ar:Nat) (.inr (by omega));refine zF zA5 mixed Tryz.func48 rfl ?_;focus
   refine vAu<|vA<|vrT 1<|vc hnew<|ve (0<2/\1<2/\Ab=Ab/\Ad=Ad/\2=2/\2<=2)<|zA<|vAe<|vt ?_;refine vA<|ve ((True/\Ad=Ad)/\Ab=Ab/\Ad=Ad/\2=2/\2<=2)<|zE<|zG<|vret (2<=2)<|.inr rfl
 grind [rofA,zWa]
structure Cs where
 n:Int
 f:Int
 desc:List Bool
 P:List Int
 V:List (List Int)
 R:List (List Rw)
abbrev zBg(l:List Int):D:= .row (l.map λz=>iD z) l.length
abbrev zCs(l:List Rw):D:= .row (l.map rowV) l.length
abbrev csC(c:Cs):List D:=[iD c.n,iD c.f, .row (c.desc.map bD) c.desc.length,zBg c.P, .row (c.V.map zBg) c.V.length, .row (c.R.map zCs) c.R.length]
abbrev csB(c:Cs):Bk:=⟨csC c,27,0,Ab,Ab, .plain⟩
structure Cs.Small(c:Cs):Prop where
 d:c.desc.length<=2000000
 P:c.P.length<=2000000
 V:c.V.length<=2000000
 R:c.R.length<=2000000
 v:∀l∈c.V,l.length<=2000000
 r:∀l∈c.R,l.length<=2000000/\∀x∈l,x.length<=2000000
def Cs.at(c:Cs)(i:Nat):At:=⟨c.V.getD i [],((c.V.getD i []).length:Nat),relR (c.R.getD i [])⟩
def Cs.ats(c:Cs)(m:Nat):List At:=(Az m).map c.at
def Cs.err(c:Cs)(i:Nat):Int:=rofA (c.V.getD i []).length (c.R.getD i [])
abbrev inpK(c:Cs)(x:D):Bk:=⟨[iD c.n,iD c.f, .row (c.desc.map bD) c.desc.length,zBg c.P,x],31,0,Ab,Ab, .plain⟩
abbrev atsB(l:List At):Bk:=⟨l.flatMap atC,87,3,Ad,Ab, .plain⟩
abbrev inpZ:Bk:=⟨[iD 0,iD 0,nl0,nl0,nl0],31,0,Ab,Ab, .plain⟩
theorem Cs.ats_succ(c:Cs)(i:Nat):c.ats (i+1)=c.ats i++[c.at i]:=by
 grind [Cs.ats,List.range_succ]
theorem Cs.ats_len(c:Cs)(i:Nat):(c.ats i).length=i:=by simp[Cs.ats]
abbrev q40_(x0:Cs):=Ai (Af bD (Cs.desc x0)) (Aa (Cs.desc x0))
abbrev q41_(x0:Cs):=Ai (Af zBg (Cs.V x0)) (Aa (Cs.V x0))
abbrev q42_(x0:Cs):=Ai (Af zCs (Cs.R x0)) (Aa (Cs.R x0))
theorem make_c(c:Cs)(h:c.Small):∃(m:Nat)(ok:Bool),m<=c.V.length/\m<=c.R.length/\(ok=Ad↔c.V.length=c.R.length/\∀i,i<c.V.length->c.err i=0)/\(ok=Ad->m=c.V.length)/\
  Pure Ah 12 [.agg (csC c)] [] (.tup [inpD c.n c.f c.desc c.P (c.ats m),bD ok]):=by
 obtain⟨m,hm1,hm2,hgood,hend⟩:∃m,m<=c.V.length/\m<=c.R.length/\(∀j,j<m->c.err j=0)/\((m=min c.V.length c.R.length)\/(m<c.V.length/\m<c.R.length/\c.err m≠0)):=by
  by_cases hb:∃p,p<min c.V.length c.R.length/\decide (c.err p≠0)=Ad
  ·obtain⟨p,hp,hpb,hmin⟩:=zDz (p:=λi=>decide (c.err i≠0)) hb;grind
  refine⟨min c.V.length c.R.length,by omega,by omega,λj hj=>?_, .inl rfl⟩;grind
 have hV:∀i,i<c.V.length->((c.V.map zBg).drop i).headD .unk=zBg (c.V.getD i []):=λi hi=>zBh zBg c.V [] i hi;have hR:∀i,i<c.R.length->((c.R.map zCs).drop i).headD .unk=zCs (c.R.getD i []):=λi hi=>zBh zCs c.R [] i hi;have hVn:0<c.V.length->c.V.map zBg≠[]:=λh=>zAo h;have hRn:0<c.R.length->c.R.map zCs≠[]:=λh=>zAo h;have hlV:=h.V;have hlR:=h.R;have hac:∀i,((c.ats i).flatMap atC).length=i*3:=λi=>by rw[zDk (c:=3) (λ_=>rfl),Cs.ats_len]
 have htk:∀i,((c.ats i).flatMap atC).take (i*3)=(c.ats i).flatMap atC:=λi=>List.take_of_length_le (by rw[hac];exact Au _);refine⟨m,decide (m=c.V.length/\c.V.length=c.R.length),hm1,hm2,?_,λhh=>(of_decide_eq_true hh).1,?_⟩
 ·grind
 rw[show inpD c.n c.f c.desc c.P (c.ats m)= .agg [iD c.n,iD c.f, .row (c.desc.map bD) c.desc.length,zBg c.P, .row ((c.ats m).flatMap atC) m]from congrArg (λk=>Aj [iD c.n,iD c.f, .row (c.desc.map bD) c.desc.length,zBg c.P, .row ((c.ats m).flatMap atC) k]) (Cs.ats_len c m)];refine zF zA5 mixed Tryz.func12 rfl ?_;focus
  refine vAu<|vA<|vr 11 (True/\0<6/\True/\0<5/\True/\0<4/\True/\0<3/\((1=1/\1<=5/\1=1/\2<=5/\1=1/\3<=5/\1=1/\4<=5/\True)/\Ad=Ad)/\Ab=Ab/\Ad=Ad/\5=5/\5<=5)<|vnil<|zC<|vnn (fr 69 [(1,Am 0 0),(2,Am 1 0),(3,bD Ab),(4,Am 2 0),(8,Am 0 0),(9,iD<|Cs.n c),(10,Am 0 1),(11,iD<|Cs.f c),(12,Am 0 2),(13,(q40_ c)),(14,Am 0 3),(15,Ai (Af (λ(z:Int)=>iD z)<|Cs.P c)<|Aa<|Cs.P c),(16,Aj [iD<|Cs.n c,iD<|Cs.f c,(q40_ c),Ai (Af (λ(z:Int)=>iD z)<|Cs.P c)<|Aa<|Cs.P c,nl])]) [AC [iD<|Cs.n c,iD<|Cs.f c,(q40_ c),Ai (Af (λ(z:Int)=>iD z)<|Cs.P c)<|Aa<|Cs.P c,(q41_ c),(q42_ c)] 27 0 Ab Ab Ay,AC [iD 0,iD 0,nl,nl,nl] 31 0 Ab Ab Ay,AC [iD<|Cs.n c,iD<|Cs.f c,(q40_ c),Ai (Af (λ(z:Int)=>iD z)<|Cs.P c)<|Aa<|Cs.P c,nl] 31 0 Ab Ab Ay] ?_;rotate_left
 refine zB8 (Weak.nilC (j:=2) (i:=4) (ej:=inpK c nl0) (atsB []) rfl rfl rfl rfl) ?_;focus
  refine zA<|vAu<|zH ?_;rotate_left
 refine zK (λ(i:Nat)=>fr 69 [(1,Am 0 0),(2,Am 1 0),(4,Am 2 0),(5,iD i)]) (λ(i:Nat)=>[csB c,inpZ,inpK c<|.osl 3 0 i (i*3) Ad,atsB<|c.ats i]) (λ(i:Nat)=>m-i) (λ(i:Nat)=>i<=m) 0 ?_ ?_ ?_
 ·omega
 ·refine vk 4
 intro i h1;rcases AD i m with h2|h2
 ·have hv:=hV i (by omega);have hr:=hR i (by omega);have hvn:=hVn (by omega);have hrn:=hRn (by omega);have hac1:=hac i;have hrm:c.R.getD i []∈c.R:=by rw[As,Ap (by omega)];exact AG _
  obtain⟨r1,r2⟩:=h.r _ hrm;have hof:=zV9 (c.V.getD i []).length (c.R.getD i []) _ rfl r1 r2;have hok:rofA (c.V.getD i []).length (c.R.getD i [])=0:=hgood i h2;rw[if_pos hok]at hof;have hsu:atsB (c.ats (i+1))=⟨(c.ats i).flatMap atC++[zBg (c.V.getD i []),iD ((c.V.getD i []).length:Nat), .row ((relR (c.R.getD i [])).map rowV) (relR (c.R.getD i [])).length],87,3,Ad,Ab, .plain⟩:=by
   rw[Cs.ats_succ];show AC ((c.ats i++[c.at i]).flatMap atC) _ _ _ _ _=_;rw[<-zXf];rfl
  focus
   refine zA<|vAs<|vew [] [(5,Ad)] (True/\0<2/\decide ((i:Int)<(Aa (Cs.V c):Int))=Ad/\True/\0<1)<|vT ((i:Int)<(Aa (Cs.R c):Int))<|vKB<|zA<|vd [0,2,6,8,1,3,4,5,7,9,10,11,12,13,14,15,16,17]<|vr 6 (True/\True/\0<2/\ix ↑i (Aa (Cs.V c):Int) (Af zBg (Cs.V c)≠[])) ?_;refine vp 35 i (Af zBg<|Cs.V c)<|vr 1 (0<Aa (Ag i<|Af zBg<|Cs.V c))<|vsh 36 hv<|vr 3 (0<1/\ix ↑i (Aa (Cs.R c):Int) (Af zCs (Cs.R c)≠[]))<|vp 41 i (Af zCs<|Cs.R c)<|vr 1 (0<Aa (Ag i<|Af zCs<|Cs.R c))<|vsh 42 hr<|vc hof<|ve (0<2/\1<2/\Ab=Ab/\Ad=Ad/\2=2/\2<=2)<|zA<|vAe<|vf ?_;refine vK<|vd [0,2,4,1,3,5,6,7,8,9,10,11,12]<|vr 6 (True/\True/\0<1/\0<2/\ix ↑i (Aa (Cs.V c):Int) (Af zBg (Cs.V c)≠[]))<|vp 54 i (Af zBg<|Cs.V c)<|vr 1 (0<Aa (Ag i<|Af zBg<|Cs.V c))<|vsh 55 hv<|vr 6 (2<=2/\((1=1/\1<=3/\2=2/\3<=3/\True)/\Ad=Ad)/\((3=3/\3<=3/\True)/\0<3/\3=3/\3<=16777216/\1<=9223372036854775807)/\(Bk.arr (atsB<|Cs.ats c i)=Ad/\Aa (A2<|atsB<|Cs.ats c i)=i*3/\i*3=i*3/\Bk.ty (atsB<|Cs.ats c i)=87/\Bk.sz (atsB<|Cs.ats c i)=3/\3=3/\0<3/\0<56/\87=87/\(i+1)*56<=140737488355328/\3=3/\Kd.isMap (Bk.kd<|atsB<|Cs.ats c i)=Ab/\(Ab=Ab\/Kd.isSh (Bk.kd<|atsB<|Cs.ats c i)=Ad))/\True/\Ab=Ab/\Ad=Ad/\1=1/\5<=5)<|vnil<|zD<|vN<|zB rfl ?_;refine vr 3 (i6 (↑i+1))<|vnil<|zC ?_;rotate_left
  refine⟨i+1,by omega,by omega,?_⟩;rw[hsu];refine vk 4
 obtain rfl:i=m:=by omega
 have htk1:=htk i;rcases hend with h3|⟨h3,h4,h5⟩
 ·have hb:decide (i=c.V.length/\c.V.length=c.R.length)=((c.V.length:Int)==(c.R.length:Int)):=by
   grind
  rw[hb];focus
   refine zA<|vAs<|vr 6 (True/\0<2) ?_;refine vsp 22 (decide ((i:Int)<(Aa (Cs.V c):Int))) (λhc=>?_)<|λhc=>?_;simp only[decide_eq_true_eq]at hc;refine ve (True/\0<1)<|vF ((i:Int)<(Aa (Cs.R c):Int))<|vZ2<|zA ?_;refine zA4 [1,4,0,2,3,5,6,7] [(8,[(2,100000),(3,100000),(5,100000),(6,100000),(7,100000)],[9])] rfl ?_;refine vr 8 (True/\True/\5<=5/\0<2/\0<1/\True)<|vnil<|zBv rfl rfl<|vr 1 (Ab=Ab/\Ad=Ad/\5=5/\5<=5)<|vnil ?_;refine zEd (C:=0<2/\Al ((q41_ c))=Al (Bc [(q41_ c),(q42_ c)] Uk)/\True/\Al (iD (Aa (Cs.V c):Int))=Al (iD (Aa (Cs.V c):Int))/\0<1/\Al ((q42_ c))=Al (Bc [(q42_ c)] Uk)/\True/\Al (iD (Aa (Cs.R c):Int))=Al (iD (Aa (Cs.R c):Int))/\True/\Al (bD ((Aa (Cs.V c):Int)==(Aa (Cs.R c):Int)))=Al (bD ((Aa (Cs.V c):Int)==(Aa (Cs.R c):Int)))) ⟨(by omega),(by kernel_rfl),trivial,(by kernel_rfl),(by omega),(by kernel_rfl),trivial,(by kernel_rfl),trivial,(by kernel_rfl)⟩ ?_;refine vrT 1<|vnil<|zBt<|vN<|zE ?_;refine zCd (5<=5) (D.tup [Aj [iD<|Cs.n c,iD<|Cs.f c,Ai (Af bD<|Cs.desc c)<|Aa<|Cs.desc c,Ai (Af (λ(z:Int)=>iD z)<|Cs.P c)<|Aa<|Cs.P c,Ai (Aq (i*3)<|Ag 0<|A2<|atsB<|Cs.ats c i) i],bD ((Aa (Cs.V c):Int)==(Aa (Cs.R c):Int))]) (D.tup [Aj [Aw<|AU AV<|Cs.n c,Aw<|AU AV<|Cs.f c,Ai (Af bD<|Cs.desc c)<|Aa<|Cs.desc c,Ai (Af (λ(z:Int)=>iD z)<|Cs.P c)<|Aa<|Cs.P c,Ai (Ak atC<|Cs.ats c i) i],Aw<|AQ ((Aa (Cs.V c):Int)==(Aa (Cs.R c):Int))]) (.inr rfl) (by omega) (by simp(disch:=omega) only[AW,htk1]) rfl;simp only[decide_eq_false_iff_not]at hc;refine veT<|vf<|vZ2<|zA ?_;refine zA4 [1,4,0,2,3,5,6,7] [(8,[(2,100000),(3,100000),(5,100000),(6,100000),(7,100000)],[9])] rfl ?_;refine vr 8 (True/\True/\5<=5/\0<2/\0<1/\True)<|vnil<|zBv rfl rfl<|vr 1 (Ab=Ab/\Ad=Ad/\5=5/\5<=5)<|vnil ?_;refine zEd (C:=0<2/\Al ((q41_ c))=Al (Bc [(q41_ c),(q42_ c)] Uk)/\True/\Al (iD (Aa (Cs.V c):Int))=Al (iD (Aa (Cs.V c):Int))/\0<1/\Al ((q42_ c))=Al (Bc [(q42_ c)] Uk)/\True/\Al (iD (Aa (Cs.R c):Int))=Al (iD (Aa (Cs.R c):Int))/\True/\Al (bD ((Aa (Cs.V c):Int)==(Aa (Cs.R c):Int)))=Al (bD ((Aa (Cs.V c):Int)==(Aa (Cs.R c):Int)))) ⟨(by omega),(by kernel_rfl),trivial,(by kernel_rfl),(by omega),(by kernel_rfl),trivial,(by kernel_rfl),trivial,(by kernel_rfl)⟩ ?_;refine vrT 1<|vnil<|zBt<|vN<|zE ?_;refine zCd (5<=5) (D.tup [Aj [iD<|Cs.n c,iD<|Cs.f c,Ai (Af bD<|Cs.desc c)<|Aa<|Cs.desc c,Ai (Af (λ(z:Int)=>iD z)<|Cs.P c)<|Aa<|Cs.P c,Ai (Aq (i*3)<|Ag 0<|A2<|atsB<|Cs.ats c i) i],bD ((Aa (Cs.V c):Int)==(Aa (Cs.R c):Int))]) (D.tup [Aj [Aw<|AU AV<|Cs.n c,Aw<|AU AV<|Cs.f c,Ai (Af bD<|Cs.desc c)<|Aa<|Cs.desc c,Ai (Af (λ(z:Int)=>iD z)<|Cs.P c)<|Aa<|Cs.P c,Ai (Ak atC<|Cs.ats c i) i],Aw<|AQ ((Aa (Cs.V c):Int)==(Aa (Cs.R c):Int))]) (.inr rfl) (by omega) (by simp(disch:=omega) only[AW,htk1]) rfl
 have hb:decide (i=c.V.length/\c.V.length=c.R.length)=false:=decide_eq_false (by omega);rw[hb];have hv:=hV i (by omega);have hr:=hR i (by omega);have hvn:=hVn (by omega);have hrn:=hRn (by omega);have hrm:c.R.getD i []∈c.R:=by rw[As,Ap (by omega)];exact AG _
 obtain⟨r1,r2⟩:=h.r _ hrm;have hof:=zV9 (c.V.getD i []).length (c.R.getD i []) _ rfl r1 r2;have hbad:¬rofA (c.V.getD i []).length (c.R.getD i [])=0:=h5;rw[if_neg hbad]at hof;generalize rofA (c.V.getD i []).length (c.R.getD i [])=e at*;focus
  refine zA<|vAs<|vew [] [(5,Ad)] (True/\0<2/\decide ((i:Int)<(Aa (Cs.V c):Int))=Ad/\True/\0<1)<|vT ((i:Int)<(Aa (Cs.R c):Int))<|vKB<|zA<|vd [0,2,6,8,1,3,4,5,7,9,10,11,12,13,14,15,16,17]<|vr 6 (True/\True/\0<2/\ix ↑i (Aa (Cs.V c):Int) (Af zBg (Cs.V c)≠[])) ?_;refine vp 35 i (Af zBg<|Cs.V c)<|vr 1 (0<Aa (Ag i<|Af zBg<|Cs.V c))<|vsh 36 hv<|vr 3 (0<1/\ix ↑i (Aa (Cs.R c):Int) (Af zCs (Cs.R c)≠[]))<|vp 41 i (Af zCs<|Cs.R c)<|vr 1 (0<Aa (Ag i<|Af zCs<|Cs.R c))<|vsh 42 hr<|vc hof<|ve (0<2/\1<2/\Ab=Ab/\Ad=Ad/\2=2/\2<=2)<|zA<|vAe<|zF8 (t:=e !=(0:Int)) (by kernel_rfl) (by simpa using by omega) ?_;refine vA<|ve (5<=5/\Ab=Ab/\Ad=Ad/\5=5/\5<=5)<|zE<|zG<|zL<|zG<|zG<|zL<|zG ?_;refine zCd (5<=5) (D.tup [Aj [iD<|Cs.n c,iD<|Cs.f c,Ai (Af bD<|Cs.desc c)<|Aa<|Cs.desc c,Ai (Af (λ(z:Int)=>iD z)<|Cs.P c)<|Aa<|Cs.P c,Ai (Aq (i*3)<|Ag 0<|A2<|atsB<|Cs.ats c i) i],bD Ab]) (D.tup [Aj [Aw<|AU AV<|Cs.n c,Aw<|AU AV<|Cs.f c,Ai (Af bD<|Cs.desc c)<|Aa<|Cs.desc c,Ai (Af (λ(z:Int)=>iD z)<|Cs.P c)<|Aa<|Cs.P c,Ai (Ak atC<|Cs.ats c i) i],Aw<|AQ Ab]) (.inr rfl) (by omega) (by simp(disch:=omega) only[AW,htk1]) rfl
structure Cs.Few(c:Cs):Prop where
 R:c.R.length<=5
 V:c.V.length<=5
 d:c.desc.length<=10
 P:c.P.length<=10
 n:c.n<=6\/32<c.n
 r:∀l∈c.R,l.length<=10
 v:∀l∈c.V,l.length<=8
 C:(c.R.map λl=>max 1 l.length).foldl (· *·) 1<=5000
def mny(L:List (List Rw))(i:Nat):Nat:=((L.take i).map λl=>max 1 l.length).foldl (· *·) 1
theorem zWs(L:List (List Rw))(i:Nat)(h:i<L.length):mny L (i+1)=mny L i*max 1 (L.getD i []).length:=by
 grind [mny,List.take_succ_eq_append_getElem,Ap]
theorem few_c(c:Cs)(h:c.Small):∃b:Bool,(b=Ad->c.Few)/\Pure Ah 13 [.agg (csC c)] [] (bD b):=by
 have hV:∀i,i<c.V.length->((c.V.map zBg).drop i).headD .unk=zBg (c.V.getD i []):=λi hi=>zBh zBg c.V [] i hi;have hR:∀i,i<c.R.length->((c.R.map zCs).drop i).headD .unk=zCs (c.R.getD i []):=λi hi=>zBh zCs c.R [] i hi;have hVn:0<c.V.length->c.V.map zBg≠[]:=λh=>zAo h;have hRn:0<c.R.length->c.R.map zCs≠[]:=λh=>zAo h;have hlV:=h.V;have hlR:=h.R;have hld:=h.d;have hlP:=h.P;obtain⟨m1,m2,hm1,hg1,hm2,hg2,hend⟩:∃m1 m2,m1<=min c.R.length 6/\(∀j,j<m1->(c.R.getD j []).length<=10)/\m2<=min c.V.length 6/\(∀j,j<m2->(c.V.getD j []).length<=8)/\((m1<min c.R.length 6/\10<(c.R.getD m1 []).length)\/(m1=min c.R.length 6/\(m2<min c.V.length 6/\8<(c.V.getD m2 []).length\/m2=min c.V.length 6))):=by
  by_cases h1:∃p,p<min c.R.length 6/\decide (10<(c.R.getD p []).length)=Ad
  ·obtain⟨p,hp,hpb,hmin⟩:=zDz (p:=λi=>decide (10<(c.R.getD i []).length)) h1;refine⟨p,0,by omega,λj hj=>?_,A0 _,λj hj=>by omega, .inl ⟨hp,by simpa using hpb⟩⟩;grind
  have hall:∀j,j<min c.R.length 6->(c.R.getD j []).length<=10:=λj hj=>Bq λhh=>h1 ⟨j,hj,decide_eq_true (by omega)⟩;by_cases h2:∃p,p<min c.V.length 6/\decide (8<(c.V.getD p []).length)=Ad
  ·obtain⟨p,hp,hpb,hmin⟩:=zDz (p:=λi=>decide (8<(c.V.getD i []).length)) h2;refine⟨_,p,Au _,hall,by omega,λj hj=>?_, .inr ⟨rfl, .inl ⟨hp,by simpa using hpb⟩⟩⟩;grind
  exact⟨_,_,Au _,hall,Au _,λj hj=>Bq λhh=>h2 ⟨j,hj,decide_eq_true (by omega)⟩, .inr ⟨rfl, .inr rfl⟩⟩
 have hmb:∀i,i<=m1->mny c.R i<=10^i:=λi=>by
  induction i with
  |zero=>intro _;exact Au _
  |succ i ih=>
   intro hi;rw[zWs c.R i (by omega),Nat.pow_succ];exact Nat.mul_le_mul (ih (by omega)) (by have:=hg1 i (by omega);omega)
 have hm6:∀i,i<=m1->mny c.R i<=1000000:=λi hi=>An (hmb i hi) (show 10^i<=10^6 from AJ (by omega) (by omega));have hone:mny c.R 0=1:=rfl;refine⟨decide (m1=min c.R.length 6/\mny c.R m1<=5000/\m2=min c.V.length 6/\c.R.length<=5/\c.V.length<=5/\c.desc.length<=10/\c.P.length<=10/\(c.n<=6\/32<c.n)),λhb=>?_,?_⟩
 ·obtain⟨b1,b2,b3,b4,b5,b6,b7,b8⟩:=of_decide_eq_true hb;refine⟨b4,b5,b6,b7,b8,λl hl=>?_,λl hl=>?_,?_⟩;all_goals grind [AZ,Ap,mny,Bo]
 refine zF zA5 mixed Tryz.func13 rfl ?_;focus
  refine vAu<|vAe<|zA<|vAe<|zH ?_;rotate_left
 refine zK (λ(i:Nat)=>fr 85 [(1,Am 0 0),(3,iD (↑(mny (Cs.R c) i):Int)),(4,iD i)]) (λ(i:Nat)=>[csB c]) (λ(i:Nat)=>m1-i) (λ(i:Nat)=>i<=m1) 0 ?_ ?_ ?_
 ·omega
 ·rw[hone];refine vk 1
 intro i h1;rcases AD i m1 with h2|h2
 ·have hr:=hR i (by omega);have hrn:=hRn (by omega);have hg:=hg1 i h2;have hsu:=zWs c.R i (by omega);have hmi:=hm6 i h1;have hmi2:=hm6 (i+1) (by omega);generalize c.R.getD i []=l at*;have hmx:(if((l.length:Nat):Int)>1 then((l.length:Nat):Int)else 1)=((max 1 l.length:Nat):Int):=by
   split<;>omega
  rw[hsu]at hmi2;focus
   refine zA<|vAs<|vew [] [(5,Ad)] (True/\0<1/\decide ((i:Int)<(Aa (Cs.R c):Int))=Ad)<|vT ((i:Int)<(6:Int))<|vKB<|zA<|vA ?_;refine vr 4 (True/\0<1/\ix ↑i (Aa (Cs.R c):Int) (Af zCs (Cs.R c)≠[]))<|vp 20 i (Af zCs<|Cs.R c)<|vr 1 (0<Aa (Ag i<|Af zCs<|Cs.R c))<|vsh 21 hr<|veT<|vF ((Aa l:Int)>(10:Int))<|vK<|zB rfl<|vr 5 (True/\0<1/\ix ↑i (Aa (Cs.R c):Int) (Af zCs (Cs.R c)≠[]))<|vp 28 i (Af zCs<|Cs.R c)<|vr 1 (0<Aa (Ag i<|Af zCs<|Cs.R c))<|vsh 29 hr ?_;refine vrT 2<|vs 31 (iD (if(Aa l:Int)>(1:Int)then(Aa l:Int)else(1:Int))) (iD (↑(max 1<|Aa l):Int)) (by simp(disch:=omega) only[hmx])<|vr 2 (i6 ((↑(mny (Cs.R c) i):Int)*(↑(max 1<|Aa l):Int)))<|vnil<|zD<|vN<|zB rfl<|vr 3 (i6 (↑i+1))<|vnil<|zC ?_;rotate_left
  refine⟨i+1,by omega,by omega,?_⟩;rw[hsu,Int.natCast_mul];refine vk 1
 obtain rfl:i=m1:=by omega
 rcases hend with⟨h3,h4⟩|⟨h3,h4⟩
 ·rw[decide_eq_false (by omega)];have hr:=hR i (by omega);have hrn:=hRn (by omega);generalize c.R.getD i []=l at*;focus
   refine zA<|vAs<|vew [] [(5,Ad)] (True/\0<1/\decide ((i:Int)<(Aa (Cs.R c):Int))=Ad)<|vT ((i:Int)<(6:Int))<|vKB<|zA<|vA ?_;refine vr 4 (True/\0<1/\ix ↑i (Aa (Cs.R c):Int) (Af zCs (Cs.R c)≠[]))<|vp 20 i (Af zCs<|Cs.R c)<|vr 1 (0<Aa (Ag i<|Af zCs<|Cs.R c))<|vsh 21 hr<|veT<|vT ((Aa l:Int)>(10:Int))<|vAe<|zE<|zG<|zL<|zG<|zG ?_;refine zL<|zG<|vret (True)<|.inr rfl
 have hmi:=hm6 i (Au _);generalize hmn:mny c.R i=mn at*;by_cases hm5:mn<=5000
 ·by_cases hcR:i<c.R.length
  ·focus
    refine zA<|vAs<|vew [] [(5,Ad)] (True/\0<1/\decide ((i:Int)<(Aa (Cs.R c):Int))=Ad)<|vF ((i:Int)<(6:Int))<|vZ2<|zA<|zA ?_;refine zB rfl<|veT<|vF ((mn:Int)>(5000:Int))<|vK<|zA<|vAe<|zH ?_;rotate_left
   refine zK (λ(j:Nat)=>fr 85 [(1,Am 0 0),(5,iD j)]) (λ(j:Nat)=>[csB c]) (λ(j:Nat)=>m2-j) (λ(j:Nat)=>j<=m2) 0 ?_ ?_ ?_
   ·omega
   ·refine vk 1
   intro j h5;rcases AD j m2 with h6|h6
   ·have hv:=hV j (by omega);have hvn:=hVn (by omega);have hg:=hg2 j h6;generalize c.V.getD j []=l at*;focus
     refine zA<|vAs<|vew [] [(5,Ad)] (True/\0<2/\decide ((j:Int)<(Aa (Cs.V c):Int))=Ad)<|vT ((j:Int)<(6:Int))<|vKB<|vA<|vr 4 (True/\0<2/\ix ↑j (Aa (Cs.V c):Int) (Af zBg (Cs.V c)≠[])) ?_;refine vp 49 j (Af zBg<|Cs.V c)<|vr 1 (0<Aa (Ag j<|Af zBg<|Cs.V c))<|vsh 50 hv<|veT<|vF ((Aa l:Int)>(8:Int))<|zQ<|zD<|vN<|zB rfl<|vr 3 (i6 (↑j+1))<|vnil<|zC ?_;rotate_left
    refine⟨j+1,by omega,by omega,?_⟩;refine vk 1
   obtain rfl:j=m2:=by omega
   rcases h4 with⟨h7,h8⟩|h7
   ·rw[decide_eq_false (by omega)];have hv:=hV j (by omega);have hvn:=hVn (by omega);generalize c.V.getD j []=l at*;focus
     refine zA<|vAs<|vew [] [(5,Ad)] (True/\0<2/\decide ((j:Int)<(Aa (Cs.V c):Int))=Ad)<|vT ((j:Int)<(6:Int))<|vKB<|vA<|vr 4 (True/\0<2/\ix ↑j (Aa (Cs.V c):Int) (Af zBg (Cs.V c)≠[])) ?_;refine vp 49 j (Af zBg<|Cs.V c)<|vr 1 (0<Aa (Ag j<|Af zBg<|Cs.V c))<|vsh 50 hv<|veT<|vT ((Aa l:Int)>(8:Int))<|vAe<|zE<|zL<|zG<|zG<|zL<|zG ?_;refine vret (True)<|.inr rfl
   rw[decide_eq_false (by omega)];by_cases hjV:j<c.V.length
   ·focus
     refine zA<|vAs<|vew [] [(5,Ad)] (True/\0<2/\decide ((j:Int)<(Aa (Cs.V c):Int))=Ad)<|vF ((j:Int)<(6:Int))<|vZ2<|vA ?_;refine vr 4 (True/\0<6) ?_;refine vsp 56 (decide (Cs.n c<=(6:Int))) (λhc=>?_)<|λhc=>?_;simp only[decide_eq_true_eq]at hc;refine vew [] [(14,Ab)] (True/\0<2/\decide ((Aa (Cs.V c):Int)<=(5:Int))=Ab)<|zE<|vret (True)<|.inr rfl;simp only[decide_eq_false_iff_not]at hc;refine vr 5 (True/\0<6) ?_;refine vsp 61 (decide (Cs.n c>(32:Int))) (λhc=>?_)<|λhc=>?_;simp only[decide_eq_true_eq]at hc;refine vew [] [(14,Ab)] (True/\0<2/\decide ((Aa (Cs.V c):Int)<=(5:Int))=Ab)<|zE<|vret (True)<|.inr rfl;simp only[decide_eq_false_iff_not]at hc;refine veT<|zE<|vret (True)<|.inr rfl
   focus
    refine zA<|vAs<|vew [] [(5,Ab)] (True/\0<2/\decide ((j:Int)<(Aa (Cs.V c):Int))=Ab)<|vf<|vZ2<|vA ?_;refine vr 4 (True/\0<6) ?_;refine vsp 56 (decide (Cs.n c<=(6:Int))) (λhc=>?_)<|λhc=>?_;simp only[decide_eq_true_eq]at hc;refine vr 11 (True/\0<2) ?_;refine vsp 67 (decide ((Aa (Cs.V c):Int)<=(5:Int))) (λhc=>?_)<|λhc=>?_;simp only[decide_eq_true_eq]at hc;refine vew [] [(20,Ab)] (True/\0<1/\decide ((Aa (Cs.R c):Int)<=(5:Int))=Ab)<|zE<|vret (True)<|.inr rfl;simp only[decide_eq_false_iff_not]at hc;refine veT<|zE<|vret (True)<|.inr rfl;simp only[decide_eq_false_iff_not]at hc;refine vr 5 (True/\0<6) ?_;refine vsp 61 (decide (Cs.n c>(32:Int))) (λhc=>?_)<|λhc=>?_;simp only[decide_eq_true_eq]at hc;refine vr 6 (True/\0<2) ?_;refine vsp 67 (decide ((Aa (Cs.V c):Int)<=(5:Int))) (λhc=>?_)<|λhc=>?_;simp only[decide_eq_true_eq]at hc;refine vew [] [(20,Ab)] (True/\0<1/\decide ((Aa (Cs.R c):Int)<=(5:Int))=Ab)<|zE<|vret (True)<|.inr rfl;simp only[decide_eq_false_iff_not]at hc;refine veT<|zE<|vret (True)<|.inr rfl;simp only[decide_eq_false_iff_not]at hc;refine veT<|zE<|vret (True)<|.inr rfl
  focus
   refine zA<|vAs<|vew [] [(5,Ab)] (True/\0<1/\decide ((i:Int)<(Aa (Cs.R c):Int))=Ab)<|vf<|vZ2<|zA<|zA ?_;refine zB rfl<|veT<|vF ((mn:Int)>(5000:Int))<|vK<|zA<|vAe<|zH ?_;rotate_left
  refine zK (λ(j:Nat)=>fr 85 [(1,Am 0 0),(5,iD j)]) (λ(j:Nat)=>[csB c]) (λ(j:Nat)=>m2-j) (λ(j:Nat)=>j<=m2) 0 ?_ ?_ ?_
  ·omega
  ·refine vk 1
  intro j h5;rcases AD j m2 with h6|h6
  ·have hv:=hV j (by omega);have hvn:=hVn (by omega);have hg:=hg2 j h6;generalize c.V.getD j []=l at*;focus
    refine zA<|vAs<|vew [] [(5,Ad)] (True/\0<2/\decide ((j:Int)<(Aa (Cs.V c):Int))=Ad)<|vT ((j:Int)<(6:Int))<|vKB<|vA<|vr 4 (True/\0<2/\ix ↑j (Aa (Cs.V c):Int) (Af zBg (Cs.V c)≠[])) ?_;refine vp 49 j (Af zBg<|Cs.V c)<|vr 1 (0<Aa (Ag j<|Af zBg<|Cs.V c))<|vsh 50 hv<|veT<|vF ((Aa l:Int)>(8:Int))<|zQ<|zD<|vN<|zB rfl<|vr 3 (i6 (↑j+1))<|vnil<|zC ?_;rotate_left
   refine⟨j+1,by omega,by omega,?_⟩;refine vk 1
  obtain rfl:j=m2:=by omega
  rcases h4 with⟨h7,h8⟩|h7
  ·rw[decide_eq_false (by omega)];have hv:=hV j (by omega);have hvn:=hVn (by omega);generalize c.V.getD j []=l at*;focus
    refine zA<|vAs<|vew [] [(5,Ad)] (True/\0<2/\decide ((j:Int)<(Aa (Cs.V c):Int))=Ad)<|vT ((j:Int)<(6:Int))<|vKB<|vA<|vr 4 (True/\0<2/\ix ↑j (Aa (Cs.V c):Int) (Af zBg (Cs.V c)≠[])) ?_;refine vp 49 j (Af zBg<|Cs.V c)<|vr 1 (0<Aa (Ag j<|Af zBg<|Cs.V c))<|vsh 50 hv<|veT<|vT ((Aa l:Int)>(8:Int))<|vAe<|zE<|zL<|zG<|zG<|zL<|zG ?_;refine vret (True)<|.inr rfl
  by_cases hjV:j<c.V.length
  ·rw[decide_eq_false (by omega)];focus
    refine zA<|vAs<|vew [] [(5,Ad)] (True/\0<2/\decide ((j:Int)<(Aa (Cs.V c):Int))=Ad)<|vF ((j:Int)<(6:Int))<|vZ2<|vA ?_;refine vr 4 (True/\0<6) ?_;refine vsp 56 (decide (Cs.n c<=(6:Int))) (λhc=>?_)<|λhc=>?_;simp only[decide_eq_true_eq]at hc;refine vew [] [(14,Ab)] (True/\0<2/\decide ((Aa (Cs.V c):Int)<=(5:Int))=Ab)<|zE<|vret (True)<|.inr rfl;simp only[decide_eq_false_iff_not]at hc;refine vr 5 (True/\0<6) ?_;refine vsp 61 (decide (Cs.n c>(32:Int))) (λhc=>?_)<|λhc=>?_;simp only[decide_eq_true_eq]at hc;refine vew [] [(14,Ab)] (True/\0<2/\decide ((Aa (Cs.V c):Int)<=(5:Int))=Ab)<|zE<|vret (True)<|.inr rfl;simp only[decide_eq_false_iff_not]at hc;refine veT<|zE<|vret (True)<|.inr rfl
  by_cases hfin:c.R.length<=5/\c.V.length<=5/\c.desc.length<=10/\c.P.length<=10/\(c.n<=6\/32<c.n)
  ·rw[decide_eq_true ⟨h3,hm5,h7,hfin⟩];obtain⟨f1,f2,f3,f4,f5⟩:=hfin;focus
    refine zA<|vAs<|vew [] [(5,Ab)] (True/\0<2/\decide ((j:Int)<(Aa (Cs.V c):Int))=Ab)<|vf<|vZ2<|vA ?_;refine vr 4 (True/\0<6) ?_;refine vsp 56 (decide (Cs.n c<=(6:Int))) (λhc=>?_)<|λhc=>?_;simp only[decide_eq_true_eq]at hc;refine vew [] [(14,Ad),(20,Ad),(26,Ad)] (True/\0<2/\decide ((Aa (Cs.V c):Int)<=(5:Int))=Ad/\True/\0<1/\decide ((Aa (Cs.R c):Int)<=(5:Int))=Ad/\True/\0<4/\decide ((Aa (Cs.desc c):Int)<=(10:Int))=Ad/\True/\0<3)<|zE ?_;refine vre (True) (Aw<|AQ<|decide ((Aa (Cs.P c):Int)<=(10:Int))) (.inr rfl) ?_;rotate_left;simp only[decide_eq_false_iff_not]at hc;refine vew [] [(8,Ad),(14,Ad),(20,Ad),(26,Ad)] (True/\0<6/\decide (Cs.n c>(32:Int))=Ad/\True/\0<2/\decide ((Aa (Cs.V c):Int)<=(5:Int))=Ad/\True/\0<1/\decide ((Aa (Cs.R c):Int)<=(5:Int))=Ad/\True/\0<4/\decide ((Aa (Cs.desc c):Int)<=(10:Int))=Ad/\True/\0<3)<|zE ?_;refine vre (True) (Aw<|AQ<|decide ((Aa (Cs.P c):Int)<=(10:Int))) (.inr rfl) ?_;rotate_left
   all_goals grind
  rw[decide_eq_false λhh=>hfin hh.2.2.2];focus
   refine zA<|vAs<|vew [] [(5,Ab)] (True/\0<2/\decide ((j:Int)<(Aa (Cs.V c):Int))=Ab)<|vf<|vZ2<|vA ?_;refine vr 4 (True/\0<6) ?_;refine vsp 56 (decide (Cs.n c<=(6:Int))) (λhc=>?_)<|λhc=>?_;simp only[decide_eq_true_eq]at hc;refine vr 11 (True/\0<2) ?_;refine vsp 67 (decide ((Aa (Cs.V c):Int)<=(5:Int))) (λhc=>?_)<|λhc=>?_;simp only[decide_eq_true_eq]at hc;refine vr 6 (True/\0<1) ?_;refine vsp 73 (decide ((Aa (Cs.R c):Int)<=(5:Int))) (λhc=>?_)<|λhc=>?_;simp only[decide_eq_true_eq]at hc;refine vr 6 (True/\0<4) ?_;refine vsp 79 (decide ((Aa (Cs.desc c):Int)<=(10:Int))) (λhc=>?_)<|λhc=>?_;simp only[decide_eq_true_eq]at hc;refine ve (True/\0<3)<|zE ?_;refine vre (True) (Aw<|AQ<|decide ((Aa (Cs.P c):Int)<=(10:Int))) (.inr rfl) ?_;rotate_left;simp only[decide_eq_false_iff_not]at hc;refine veT<|zE<|vret (True)<|.inr rfl;simp only[decide_eq_false_iff_not]at hc;refine veT<|zE<|vret (True)<|.inr rfl;simp only[decide_eq_false_iff_not]at hc;refine veT<|zE<|vret (True)<|.inr rfl;simp only[decide_eq_false_iff_not]at hc;refine vr 5 (True/\0<6) ?_;refine vsp 61 (decide (Cs.n c>(32:Int))) (λhc=>?_)<|λhc=>?_;simp only[decide_eq_true_eq]at hc;refine vr 6 (True/\0<2) ?_;refine vsp 67 (decide ((Aa (Cs.V c):Int)<=(5:Int))) (λhc=>?_)<|λhc=>?_;simp only[decide_eq_true_eq]at hc;refine vr 6 (True/\0<1) ?_;refine vsp 73 (decide ((Aa (Cs.R c):Int)<=(5:Int))) (λhc=>?_)<|λhc=>?_;simp only[decide_eq_true_eq]at hc;refine vr 6 (True/\0<4) ?_;refine vsp 79 (decide ((Aa (Cs.desc c):Int)<=(10:Int))) (λhc=>?_)<|λhc=>?_;simp only[decide_eq_true_eq]at hc;refine ve (True/\0<3)<|zE ?_;refine vre (True) (Aw<|AQ<|decide ((Aa (Cs.P c):Int)<=(10:Int))) (.inr rfl) ?_;rotate_left;simp only[decide_eq_false_iff_not]at hc;refine veT<|zE<|vret (True)<|.inr rfl;simp only[decide_eq_false_iff_not]at hc;refine veT<|zE<|vret (True)<|.inr rfl;simp only[decide_eq_false_iff_not]at hc;refine veT<|zE<|vret (True)<|.inr rfl;simp only[decide_eq_false_iff_not]at hc;refine veT<|zE<|vret (True)<|.inr rfl
  all_goals grind
 rw[decide_eq_false (by omega)];focus
  refine zA<|vAs<|vr 6 (True/\0<1) ?_;refine vsp 11 (decide ((i:Int)<(Aa (Cs.R c):Int))) (λhc=>?_)<|λhc=>?_;simp only[decide_eq_true_eq]at hc;refine veT<|vF ((i:Int)<(6:Int))<|vZ2<|zA<|vAe<|vT ((mn:Int)>(5000:Int))<|zA ?_;refine zB rfl<|veT<|zE<|zG<|vret (True)<|.inr rfl;simp only[decide_eq_false_iff_not]at hc;refine veT<|vf<|vZ2<|zA<|vAe<|vT ((mn:Int)>(5000:Int))<|zA ?_;refine zB rfl<|veT<|zE<|zG<|vret (True)<|.inr rfl
end
def Vt(v:Va):Prop:=(-9223372036854775808<=v.kind/\v.kind<=9223372036854775807)/\(-9223372036854775808<=v.int/\v.int<=9223372036854775807)
def Cs.Typ(c:Cs):Prop:=∀l∈c.R,∀x∈l,∀v∈x,Vt v
theorem Vt.vs{v:Va}(h:Vt v)(hv:vok v=Ad):Vs v:=by
 refine⟨h.1,h.2,?_⟩;unfold vok at hv;grind
def Cs.inp(c:Cs):Inp:=⟨c.n.toNat,c.f.toNat,c.desc,c.P.map AE,(Az c.V.length).map λi=>((c.V.getD i []).map AE,relR (c.R.getD i []))⟩
theorem atE_0{n:Int}{a:At}(h:atE n a=0):ascB a.V=Ad/\a.V.all (inB n)=Ad/\(a.V.length:Int)=a.ar:=by
 grind [atE]
theorem atL_all{n:Int}:∀{L:List At},atL n L=0->∀a∈L,atE n a=0
 |[],_,a,h=>by cases h
 | b::L,h,a,ha=>by
  rw[atL]at h;split at h
  ·grind
  rename_i h1;rcases A3.1 ha with rfl|ha
  ·grind
  exact atL_all h a ha
theorem asc_of{l:List Int}(h:ascB l=Ad):l.Pairwise (· <·):=by
 have key:∀l:List Int,(∀i,0<i->i<l.length->l.getD (i-1) 0<l.getD i 0)->l.Pairwise (· <·):=by
  intro l;induction l with
  |nil=>exact λ_=>List.Pairwise.nil
  | cons a l ih=>
   intro h;have h1:l.Pairwise (· <·):=ih λi h0 hi=>by
    have:=h (i+1) (by omega) (by simpa using hi)
    grind
   refine List.pairwise_cons.2 ⟨λb hb=>?_,h1⟩;cases l with
   |nil=>cases hb
   |cons d l=>
    have h2:a<d:=by simpa using h 1 (by omega) (by simp)
    grind [List.pairwise_cons]
 refine key l λi h0 hi=>?_;have h1:=A1.1 h i (AK.2 hi);unfold zVh at h1;grind
theorem zX2{ar:Int}:∀{L:List Rw},accL ar L=0->∀x∈L,(x.length:Int)=ar/\x.all vok=Ad
 |[],_,a,h=>by cases h
 | b::L,h,a,ha=>by
  rw[accL]at h;split at h
  ·grind
  rename_i h1;rcases A3.1 ha with rfl|ha
  ·grind [accE]
  exact zX2 h a ha
theorem foldl_r:∀(l:List Nat)(a:Nat),l.foldl (· *·) a=a*l.foldr (· *·) 1
 |[],a=>by simp
 |b::l,a=>by rw[Bj,foldl_r l (a*b),A6,Ba]
section
variable {c : Cs} (hl : c.V.length = c.R.length) (he : ∀ i, i < c.V.length → c.err i = 0) (hc : icE c.n c.f c.desc.length c.P (c.ats c.V.length) = 0)
include hc
theorem Cs.ic:0<=c.n/\c.n<=32/\0<=c.f/\c.f<=c.n/\(c.desc.length:Int)=c.f/\(c.P.length:Int)=c.n-c.f/\pany c.f c.n c.P=Ab/\lfE c.n (c.ats c.V.length)=0:=by
 unfold icE at hc;split at hc;all_goals grind
theorem Cs.lf:c.V.length<=32/\atL c.n (c.ats c.V.length)=0/\(useP c.n.toNat (c.ats c.V.length) []).contains Ab=false:=by
 obtain⟨_,_,_,_,_,_,_,h⟩:=Cs.ic hc;unfold lfE at h;rw[Cs.ats_len]at h;grind
theorem Cs.perm:(∀z∈c.P,c.f<=z/\z<c.n)/\c.P.Nodup:=by
 obtain⟨_,_,_,_,_,_,h,_⟩:=Cs.ic hc;unfold pany at h;have hp:∀i,i<c.P.length->¬c.P.getD i 0<c.f/\¬c.n<=c.P.getD i 0/\c.P.getD i 0∉c.P.take i:=λi hi=>by
  simp_all [List.any_eq_false,AK,pbad,only,Bool.or_eq_true]
 grind [AZ,Ap,A7,Br,BB]
theorem Cs.vars{i:Nat}(hi:i<c.V.length):(c.V.getD i []).Pairwise (· <·)/\∀z∈c.V.getD i [],0<=z/\z<c.n:=by
 obtain⟨_,h1,_⟩:=Cs.lf hc;have h2:=atE_0 (atL_all h1 (c.at i) (Ao.2 ⟨i,AK.2 hi,rfl⟩));refine⟨asc_of h2.1,λz hz=>?_⟩
 have:=A1.1 h2.2.1 z hz
 grind [inB]
include hl he in
theorem Cs.inp_ok(hf:c.Few)(ht:c.Typ):c.inp.Ok:=by
 obtain⟨i1,i2,i3,i4,i5,i6,i7,i8⟩:=Cs.ic hc;obtain⟨l1,l2,l3⟩:=Cs.lf hc;obtain⟨p1,p2⟩:=Cs.perm hc;have hn6:c.n<=6:=by rcases hf.n with h|h<;>omega
 have hAl:c.inp.A.length=c.V.length:=by simp[Cs.inp]
 have hAt:∀i,i<c.V.length->c.inp.A.getD i Ae=((c.V.getD i []).map AE,relR (c.R.getD i [])):=λi hi=>by
  grind [Cs.inp,List.getElem?_range]
 have hrow:∀i,i<c.V.length->(c.R.getD i []).length<=10/\∀x∈c.R.getD i [],x.length=(c.V.getD i []).length/\∀v∈x,vok v=Ad/\Vs v:=λi hi=>by
  have hm:c.R.getD i []∈c.R:=by rw[As,Ap (by omega)];exact AG _
  refine⟨hf.r _ hm,λx hx=>?_⟩;have h1:=he i hi;unfold Cs.err rofA at h1;split at h1
  ·omega
  unfold rofE at h1;split at h1
  ·grind
  rename_i h2;have h3:accL ((c.V.getD i []).length:Nat) (c.R.getD i [])=0:=Bq h2;obtain⟨q1,q2⟩:=zX2 h3 x hx;refine⟨by omega,λv hv=>?_⟩;have h4:=A1.1 q2 v hv;exact⟨h4,(ht _ hm x hx v hv).vs h4⟩
 refine⟨?_,?_,?_,?_,λv hv=>?_,?_,by rw[hAl];exact hf.V,?_,λa ha=>?_,?_⟩
 ·show c.n.toNat<=6;omega
 ·show c.f.toNat<=c.n.toNat;omega
 ·show c.desc.length=c.f.toNat;omega
 ·show(c.P.map AE).length+c.f.toNat=c.n.toNat;rw[AB];omega
 ·obtain⟨z,hz,rfl⟩:=Ao.1 hv
  have:=p1 z hz
  show c.f.toNat<=z.toNat/\z.toNat<c.n.toNat;omega
 ·show(c.P.map AE).Nodup;rw[A7,A8];exact p2.imp_of_mem λ{x y} hx hy hne e=>by
   grind
 ·rw[hAl];refine⟨λi hi=>?_,λi hi w hw=>?_,λv hv=>?_⟩
  ·rw[hAt i hi];obtain⟨q1,q2⟩:=Cs.vars hc hi;exact A8.2 (q1.imp_of_mem λ{x y} hx hy h=>by have:=q2 x hx;have:=q2 y hy;omega)
  ·rw[hAt i hi]at hw;obtain⟨z,hz,rfl⟩:=Ao.1 hw
   have:=(Cs.vars hc hi).2 z hz
   show z.toNat<c.n.toNat;omega
  have hv:v<c.n.toNat:=hv;have h1:(useP c.n.toNat (c.ats c.V.length) []).getD v Ad=true:=by
   grind
  unfold useP at h1;rw[As,List.getElem?_map,List.getElem?_range hv,Option.map_some,Option.getD_some]at h1;simp only[Bs,decide_false,Bool.or_false,List.any_eq_true,decide_eq_true_eq]at h1;obtain⟨a,ha,hm⟩:=h1;obtain⟨i,hi,rfl⟩:=Ao.1 ha;have hi:=AK.1 hi;refine⟨i,hi,?_⟩;rw[hAt i hi];exact Ao.2 ⟨(v:Int),hm,by omega⟩
 ·obtain⟨i,hi,rfl⟩:=Ao.1 ha;grind [An,zHk,zV7,zKp]
 have h1:=hf.C;rw[foldl_r,Nat.one_mul]at h1;refine An ?_ h1;have e:c.R=(Az c.V.length).map λi=>c.R.getD i []:=by
  apply Bi (by simp[hl]);grind
 unfold combs Cs.inp;rw[e,AI,AI];refine zTb _ _ _ λi hi=>?_;grind [Az,relR,zHk]
theorem Cs.inp_n:(c.inp.n:Int)=c.n/\(c.inp.f:Int)=c.f:=by
 obtain⟨i1,i2,i3,_⟩:=Cs.ic hc;exact⟨by show((c.n.toNat:Nat):Int)=c.n;omega,by show((c.f.toNat:Nat):Int)=c.f;omega⟩
theorem Cs.inp_P:nsD c.inp.P=c.P.map λz=>iD z:=by
 obtain⟨p1,_⟩:=Cs.perm hc;obtain⟨_,_,i3,_⟩:=Cs.ic hc;show(c.P.map AE).map (λv:Nat=>iD (v:Int))=_;rw[AI];exact A9 λz hz=>by have:=p1 z hz;show iD ((z.toNat:Nat):Int)=iD z;rw[show((z.toNat:Nat):Int)=z by omega]
theorem Cs.inp_A:c.inp.A.flatMap atR=(c.ats c.V.length).flatMap atC:=by
 unfold Cs.inp Cs.ats;rw[Bb,Bb,List.flatMap_def,List.flatMap_def];refine congrArg List.flatten (A9 λi hi=>?_);have hi:=AK.1 hi;show[Ai (((c.V.getD i []).map AE).map λv:Nat=>iD (v:Int)) ((c.V.getD i []).map AE).length,iD (((c.V.getD i []).map AE).length:Nat),_]=[Ai ((c.V.getD i []).map λz=>iD z) (c.V.getD i []).length,iD ((c.V.getD i []).length:Nat),_];rw[AI,AB];congr 2;exact A9 λz hz=>by have:=(Cs.vars hc hi).2 z hz;show iD ((z.toNat:Nat):Int)=iD z;rw[show((z.toNat:Nat):Int)=z by omega]
theorem Cs.inp_D:inpN c.inp.b=inpD c.n c.f c.desc c.P (c.ats c.V.length):=by
 obtain⟨h1,h2⟩:=Cs.inp_n hc;show Aj [iD (c.inp.n:Nat),iD (c.inp.f:Nat), .row (c.desc.map bD) c.desc.length, .row (nsD c.inp.P) c.inp.P.length, .row (c.inp.A.flatMap atR) c.inp.A.length]=_;rw[h1,h2,Cs.inp_P hc,Cs.inp_A hc];have e1:c.inp.P.length=c.P.length:=by simp[Cs.inp]
 have e2:c.inp.A.length=(c.ats c.V.length).length:=by rw[Cs.ats_len];simp[Cs.inp]
 rw[e1,e2]
end
section
set_option maxRecDepth 100000
section
variable {B : Nat}
theorem zW8{P:Program}{n:Nat}{t e:TypeId}(hu:P.underlying t=Al (.slice e))(he:P.underlying e=Al (.int .i64)){ds:List D}(h:ShpB P B n t ds):∃l:List Int,ds=[zBg l]/\l.length<=B:=by
 obtain⟨m,ls,rfl,h1,hB⟩:=zEk hu h;obtain⟨bs,h2,h3,h4⟩:=zEr (g:=λz:Int=>iD z) (Q:=λx=>True) λx hx=>by
  obtain⟨z,rfl,h5⟩:=zJa he (h1 x hx);exact⟨z,rfl,trivial⟩
 grind
theorem in_vaB{n:Nat}{ds:List D}(h:ShpB Ah B n 64 ds):∃a:Va,ds=vaC a/\Vt a:=by
 obtain⟨hl,m,hf⟩:=zM7 Tryz.underlying64 h;rw[show Ah.cellsOf 64=3 by kernel_rfl]at hl;match ds,hl with
 |[a,b,c],_=>
  have c3:Ah.cellsOf 3=1:=by kernel_rfl
  have c4:Ah.cellsOf 2=1:=by kernel_rfl
  have c5:Ah.cellsOf 9=1:=by kernel_rfl
  simp only[A3,Bs,or_false,forall_eq_or_imp,forall_eq,c3,c4,c5,AW,List.drop_succ_cons,List.take_succ_cons,List.take_zero]at hf;obtain⟨g0,g1,g2⟩:=hf;obtain⟨x2,e2,k2⟩:=zJa Tryz.underlying3 g0;obtain⟨x3,e3,k3⟩:=zJa Tryz.underlying2 g1;obtain⟨x4,e4,k4⟩:=zYc Tryz.underlying9 g2;simp only[List.cons.injEq,and_true]at e2 e3 e4;subst e2 e3 e4;simp only[inK]at k2 k3;exact⟨⟨x2,x3,x4.data.toList⟩,rfl,⟨k2.1,k2.2⟩,⟨k3.1,k3.2⟩⟩
theorem in_rowB{n:Nat}{ds:List D}(h:ShpB Ah B n 54 ds):∃x:Rw,ds=[rowV x]/\x.length<=B/\∀a∈x,Vt a:=by
 obtain⟨m,ls,rfl,h1,hB⟩:=zEk Tryz.underlying54 h;obtain⟨bs,h2,h3,h4⟩:=zRr (g:=vaC) (Q:=Vt) λx hx=>in_vaB (h1 x hx);exact⟨bs,by rw[h2,<-h3];rfl,by omega,h4⟩
theorem in_rowsB{n:Nat}{ds:List D}(h:ShpB Ah B n 65 ds):∃l:List Rw,ds=[zCs l]/\l.length<=B/\∀x∈l,x.length<=B/\∀a∈x,Vt a:=by
 obtain⟨m,ls,rfl,h1,hB⟩:=zEk Tryz.underlying65 h;obtain⟨bs,h2,h3,h4⟩:=zEr (g:=rowV) (Q:=λx=>x.length<=B/\∀a∈x,Vt a) λx hx=>in_rowB (h1 x hx);grind
theorem arg_case{d:D}(hB:B<=2000000)(h:ArgB Ah B 27 d):∃c:Cs,d= .agg (csC c)/\c.Small/\c.Typ:=by
 obtain⟨n,ds,rfl,h'⟩:=h.agg (by kernel_rfl);clear h;obtain⟨hl,m,hf⟩:=zM7 Tryz.underlying27 h';rw[show Ah.cellsOf 27=6 by kernel_rfl]at hl;match ds,hl with
 | [a,b,c,d,e,f],_=>
  have c3:Ah.cellsOf 3=1:=by kernel_rfl
  have c4:Ah.cellsOf 22=1:=by kernel_rfl
  have c5:Ah.cellsOf 23=1:=by kernel_rfl
  have c6:Ah.cellsOf 24=1:=by kernel_rfl
  have c7:Ah.cellsOf 25=1:=by kernel_rfl
  simp only[A3,Bs,or_false,forall_eq_or_imp,forall_eq,c3,c4,c5,c6,c7,AW,List.drop_succ_cons,List.take_succ_cons,List.take_zero]at hf;obtain⟨g0,g1,g2,g3,g4,g5⟩:=hf;obtain⟨z0,e0,_⟩:=zJa Tryz.underlying3 g0;obtain⟨z1,e1,_⟩:=zJa Tryz.underlying3 g1;obtain⟨_,l2,e2,k2,b2⟩:=zEk Tryz.underlying22 g2;obtain⟨desc,q2,r2,_⟩:=zEr (g:=bD) (Q:=λ_=>True) λx hx=>by
   obtain⟨b,rfl⟩:=shp_bool Tryz.underlying4 (k2 x hx);exact⟨b,rfl,trivial⟩
  obtain⟨P,e3,b3⟩:=zW8 Tryz.underlying23 Tryz.underlying3 g3;obtain⟨_,l4,e4,k4,b4⟩:=zEk Tryz.underlying24 g4;obtain⟨V,q4,r4,s4⟩:=zEr (g:=zBg) (Q:=λl=>l.length<=B) λx hx=>zW8 Tryz.underlying23 Tryz.underlying3 (k4 x hx);obtain⟨_,l5,e5,k5,b5⟩:=zEk Tryz.underlying25 g5;obtain⟨R,q5,r5,s5⟩:=zEr (g:=zCs) (Q:=λl=>l.length<=B/\∀x∈l,x.length<=B/\∀a∈x,Vt a) λx hx=>in_rowsB (k5 x hx);simp only[List.cons.injEq,and_true]at e0 e1 e2 e3 e4 e5;subst e0 e1 e2 e3 e4 e5;refine⟨⟨z0,z1,desc,P,V,R⟩,?_,⟨?_,?_,?_,?_,?_,?_⟩,λl hl x hx=>((s5 l hl).2 x hx).2⟩;all_goals grind
end
end
section
attribute [local irreducible] seqW awp zAf zAm zAc Weak updS zAu retL Pure Acts rP setP setQ cP nP fr
set_option maxRecDepth 4096
theorem lfAll_c(n:Int)(ats:List At)(h0:0<=n)(hn:n<=32)(hl:∀a∈ats,a.V.length<=2000000):Pure Ah 14 [iD n, .row (ats.flatMap atC) ats.length] [] (iD (lfE n ats)):=by
 obtain⟨k,rfl⟩:∃k:Nat,n=(k:Int):=⟨n.toNat,by omega⟩;grind [lfE,ats,lfMany_c,Int.toNat_natCast,zRs]
theorem Cs.ats_v{c:Cs}(h:c.Small){m:Nat}(hm:m<=c.V.length):∀a∈c.ats m,a.V.length<=2000000:=λa ha=>by
 obtain⟨i,hi,rfl⟩:=Ao.1 ha;have hi:=AK.1 hi;refine h.v _ ?_;show c.V.getD i []∈c.V;rw[As,Ap (by omega)];exact AG _
theorem zNu(c:Cs)(h:c.Small){m:Nat}(hm:m<=c.V.length):Pure Ah 16 [inpD c.n c.f c.desc c.P (c.ats m)] [] (iD (icE c.n c.f c.desc.length c.P (c.ats m))):=by
 have hv:=Cs.ats_v h hm;have hV:=h.V;exact icheck_c c.n c.f c.desc c.P (c.ats m) h.d h.P (by rw[Cs.ats_len];omega) hv λh0 h1=>lfAll_c c.n _ h0 h1 hv
theorem zZf(c:Cs)(h:c.Small):∃(m:Nat)(ok:Bool),m<=c.V.length/\(ok=Ad↔c.V.length=c.R.length/\(∀i,i<c.V.length->c.err i=0)/\icE c.n c.f c.desc.length c.P (c.ats c.V.length)=0)/\(ok=Ad->m=c.V.length)/\
  Pure Ah 20 [.agg (csC c)] [] (.tup [inpD c.n c.f c.desc c.P (c.ats m),bD ok]):=by
 obtain⟨m,ok,h1,h2,h3,h4,h5⟩:=make_c c h;have hck:=zNu c h h1;cases ok
 ·refine⟨m,Ab,h1,⟨λhh=>(by cases hh),λhh=>?_⟩,λhh=>(by cases hh),?_⟩
  ·grind
  generalize c.ats m=ats at*;refine zF zA5 mixed Tryz.func20 rfl ?_;refine vAu<|vA<|vr 1 (6<=6)<|vc h5<|ve (0<2/\1<2/\Ab=Ab/\Ad=Ad/\5=5/\5<=5)<|zA<|vd [1,2,0,3,4,5,6,7,8]<|ve (5<=5/\Ab=Ab/\Ad=Ad/\5=5/\5<=5)<|zE<|vret (5<=5)<|.inr rfl
 have hm:=h4 rfl;obtain⟨q1,q2⟩:=h3.1 rfl;by_cases hz:icE c.n c.f c.desc.length c.P (c.ats m)=0
 ·refine⟨m,Ad,h1,⟨λ_=>⟨q1,q2,hm▸hz⟩,λ_=>rfl⟩,λ_=>hm,?_⟩;rw[hz]at hck;generalize c.ats m=ats at*;refine zF zA5 mixed Tryz.func20 rfl ?_;focus
   refine vAu<|vA<|vr 1 (6<=6)<|vca [Aj [iD<|Cs.n c,iD<|Cs.f c,(q40_ c),Ai (Af (λ(z:Int)=>iD z)<|Cs.P c)<|Aa<|Cs.P c,(q41_ c),(q42_ c)]] (by(first|exact h5|exact hck))<|ve (0<2/\1<2/\Ab=Ab/\Ad=Ad/\5=5/\5<=5)<|zA<|vd [1,2,0,3,4,5,6,7,8]<|vr 4 (5<=5/\5<=5)<|vca [Aj [iD<|Cs.n c,iD<|Cs.f c,(q40_ c),Ai (Af (λ(z:Int)=>iD z)<|Cs.P c)<|Aa<|Cs.P c,Ai (Ak atC ats)<|Aa ats]] (by(first|exact h5|exact hck))<|ve (True/\Ab=Ab/\Ad=Ad/\5=5/\5<=5) ?_;refine zE<|vret (5<=5)<|.inr rfl
 refine⟨m,Ab,h1,⟨λhh=>(by cases hh),λhh=>absurd (hm▸hh.2.2) hz⟩,λhh=>(by cases hh),?_⟩;generalize icE c.n c.f c.desc.length c.P (c.ats m)=e at*;generalize c.ats m=ats at*;have hze:(e==0)=false:=by simpa using hz
 refine zF zA5 mixed Tryz.func20 rfl ?_;focus
  refine vAu<|vA<|vr 1 (6<=6)<|vca [Aj [iD<|Cs.n c,iD<|Cs.f c,(q40_ c),Ai (Af (λ(z:Int)=>iD z)<|Cs.P c)<|Aa<|Cs.P c,(q41_ c),(q42_ c)]] (by(first|exact h5|exact hck))<|ve (0<2/\1<2/\Ab=Ab/\Ad=Ad/\5=5/\5<=5)<|zA<|vd [1,2,0,3,4,5,6,7,8]<|vr 4 (5<=5/\5<=5)<|vca [Aj [iD<|Cs.n c,iD<|Cs.f c,(q40_ c),Ai (Af (λ(z:Int)=>iD z)<|Cs.P c)<|Aa<|Cs.P c,Ai (Ak atC ats)<|Aa ats]] (by(first|exact h5|exact hck))<|vrT 1 ?_;refine vs 16 (bD (e==(0:Int))) (bD Ab) (by simp(disch:=omega) only[hze])<|ve (Ab=Ab/\Ad=Ad/\5=5/\5<=5)<|zE<|vret (5<=5)<|.inr rfl
theorem look_p(z:D)(K:List (List Va×Nat))(r:List Va):zRq Ad z (K.map λp=>kyv p.1) (K.map λp=>iD ((p.2:Nat):Int)) (kyv r)=match tlk K r with
  |some w=> .tup [iD ((w:Nat):Int),bD Ad]
  |none=> .tup [z,bD Ab]:=by
 induction K with
 |nil=>rfl
 |cons p K ih=>
  unfold zRq zEp tlk at*;rw[AH,AH,List.findIdx?_cons,zVp,List.find?_cons];by_cases h:r=p.1
  ·rw[decide_eq_true h];rfl
  grind
theorem pt_nd(l:List Bu)(hn:(l.map (·.key)).Nodup):∀j,j<=l.length->ptI l j=(Az j).map λi=>((l.getD i Ae).key,i)
 |0,_=>rfl
 |j+1,h=>by
  rw[ptI,pt_nd l hn j (by omega),List.range_succ,A4,tput];grind [List.findIdx?_eq_none_iff,Ap,Br]
theorem pt_at(l:List Bu)(hn:(l.map (·.key)).Nodup){p:Nat}(hp:p<l.length):tlk (ptI l l.length) (l.getD p Ae).key=Al p:=by
 rw[pt_nd l hn _ (Au _),tlk];grind [Az,List.find?_eq_some_iff_getElem,only,Bool.not_eq_true',Ap,Br]
section
variable (desc : List Bool) (L : List Bg) (U : Nat → List Bu) (tot : Nat)
theorem ifree_c(v:Int)(hd:desc.length<=1000000):Pure Ah 58 [ixD desc L U tot,iD v] [] (bD (decide (0<=v)&&decide (v<(desc.length:Int)))):=free_c desc _ rfl _ _ _ _ _ _ tot v hd
theorem zKs(ht:Sm tot):Pure Ah 19 [ixD desc L U tot] [] (natD tot):=by
 have hn:=zLr tot ht;refine zF zA5 mixed Tryz.func19 rfl ?_;refine vAu<|vA<|vr 2 (True/\0<1)<|vc hn<|veT<|zE<|vret (True)<|.inr rfl
theorem zNy(v:Nat)(p n:Nat)(hn:((U v).getD p Ae).key.length=n)(hl:n<=10000)(hs:∀x∈((U v).getD p Ae).key,Vs x)(hd:desc.length<=1000000)(hv:v<desc.length)(hu:((U v).map (·.key)).Nodup)(hp:p<(U v).length)(hb:(U v).length<=1000000):Pure Ah 21 [ixD desc L U tot,iD (v:Nat), .row (zJ ((U v).getD p Ae).key) n] [] (.tup [zH6 ((U v).getD p Ae).desc ((U v).getD p Ae).t,bD Ad]):=by
 have hf:=ifree_c desc L U tot (v:Nat) hd;rw[show(decide (0<=((v:Nat):Int))&&decide (((v:Nat):Int)<(desc.length:Int)))=Ad by rw[Bool.and_eq_true,decide_eq_true_eq,decide_eq_true_eq];omega]at hf;have hid:=zC3 _ n hn (by omega) hs;have hlk:=look_p (iD 0) (ptI (U v) (U v).length) ((U v).getD p Ae).key;rw[pt_at _ hu hp]at hlk;dsimp only at hlk;have hg:((fA desc.length λc=>zC2 (U c)).drop v).headD .unk=zC2 (U v):=by rw[zD4 hv]
 have hpo:=zB9 (g:=λc=>zC2 (U c)) hv;have hg2:((fA desc.length λc=>busD (U c)).drop v).headD .unk=busD (U v):=by rw[zD4 hv]
 have hpo2:=zB9 (g:=λc=>busD (U c)) hv;have hg3:=zCg zBn (U v) p hp;have hle:=zD3 zBn (U v) p hp;have hne:=zC4 zBn (by decide) (U v) (by omega);have hg4:Aq 2 (Ag 1 (Ag (p*3) ((U v).flatMap buC)))=[bD ((U v).getD p Ae).desc,((U v).getD p Ae).t.x]:=by
  rw[<-Bt (i:=1) (j:=3),hg3];rfl
 have hle2:2<=(Ag 1 (Ag (p*3) ((U v).flatMap buC))).length:=by rw[Bv];omega
 generalize (U v).getD p Ae=b at*;refine zF zA5 mixed Tryz.func21 rfl ?_;focus
  refine vAu (zA (vA (vr 2 (5<=5) (vca [Aj [Ai (Af bD desc) (Aa desc),(q38_ L),Ai (fA (Aa desc) λ(c:Nat)=>busD (U c)) (Aa desc),Ai (fA (Aa desc) λ(c:Nat)=>zC2 (U c)) (Aa desc),natD tot],iD v] (by(first|exact hf|exact hid)) (veT (vf (vK ?_)))))));refine zA (vd [0,2,5,1,3,4,6,7,8,9,10,11,12] (vr 5 (True/\0<2/\ix ↑v ↑(Aa desc) ((fA (Aa desc) λ(c:Nat)=>zC2 (U c))≠[])) (vp 19 v (fA (Aa desc) λ(c:Nat)=>zC2 (U c)) (vr 1 (0<Aa (Ag v (fA (Aa desc) λ(c:Nat)=>zC2 (U c)))) (vsh 20 hg (vca [Ai (zJ (Bu.key b)) n] (by(first|exact hf|exact hid)) (vr 1 (zW (TypeInfo.desc (TypeInfo.mk TypeDesc.string "string" 1 16 Ad 8 8 (Al (A5 (ByteArray.mk #[]))) Ad #[])) (A5 (bs (idR (Bu.key b))))=Ad/\List.all (Af (λ(p:List Va×Nat)=>kyv (Ax p)) (ptI (U v) (Aa (U v)))) (zW (TypeInfo.desc (TypeInfo.mk TypeDesc.string "string" 1 16 Ad 8 8 (Al (A5 (ByteArray.mk #[]))) Ad #[])))=Ad) (vsh 23 hlk (ve (0<2/\1<2) (zA (vAe ?_)))) ⟨(by kernel_rfl),(by exact zG4 _)⟩))))) ⟨trivial,(by omega),⟨(by omega),⟨(by omega),(by exact fA_ne hv)⟩⟩⟩));refine vf (vK (vA (vr 4 (True/\0<3/\ix ↑v ↑(Aa desc) ((fA (Aa desc) λ(c:Nat)=>busD (U c))≠[])) (vp 32 v (fA (Aa desc) λ(c:Nat)=>busD (U c)) (vr 1 (0<Aa (Ag v (fA (Aa desc) λ(c:Nat)=>busD (U c)))) (vsh 33 hg2 (vr 4 (ix ↑p (Aa (U v):Int) (Ak buC (U v)≠[])/\True/\2<=Aa (Ag 1 (Ag (p*3) (Ak buC (U v))))) (vs 37 (Aj (Aq 2 (Ag 1 (Ag (p*3) (Ak buC (U v)))))) (Aj [bD (AR b),WT.x (Ar b)]) (by simp(disch:=omega) only[hg4]) (ve (Ab=Ab/\Ad=Ad/\2=2/\2<=2) (zE ?_))))))) ⟨trivial,(by omega),⟨(by omega),⟨(by omega),(by exact fA_ne hv)⟩⟩⟩)));refine vret (2<=2) (.inr rfl)
end
end
section
set_option maxRecDepth 100000
def nm(z:Int):Va:=⟨1,z,[]⟩
def exR:List (List Rw):=[[[nm 1,nm 1],[nm 1,nm 2],[nm 2,nm 2]],[[nm 1,nm 7],[nm 2,nm 7],[nm 2,nm 8]]]
def ex1:Cs:=⟨3,3,[Ab,Ab,Ab],[],[[0,1],[1,2]],exR⟩
def ex2:Cs:=⟨3,1,[Ab],[2,1],[[0,1],[1,2]],exR⟩
theorem exR_t:∀l∈exR,∀x∈l,∀v∈x,Vt v:=by unfold Vt;decide+kernel
theorem ex1_s:ex1.Small:=⟨by decide,by decide,by decide,by decide,by decide,by decide⟩
theorem ex2_s:ex2.Small:=⟨by decide,by decide,by decide,by decide,by decide,by decide⟩
theorem ex1_f:ex1.Few:=⟨by decide,by decide,by decide,by decide,by decide,by decide,by decide,by decide⟩
theorem ex2_f:ex2.Few:=⟨by decide,by decide,by decide,by decide,by decide,by decide,by decide,by decide⟩
theorem ex1_v:ex1.V.length=ex1.R.length/\(∀i,i<ex1.V.length->ex1.err i=0)/\icE ex1.n ex1.f ex1.desc.length ex1.P (ex1.ats ex1.V.length)=0:=by decide+kernel
theorem ex2_v:ex2.V.length=ex2.R.length/\(∀i,i<ex2.V.length->ex2.err i=0)/\icE ex2.n ex2.f ex2.desc.length ex2.P (ex2.ats ex2.V.length)=0:=by decide+kernel
theorem ex1_t:ex1.inp.tot=5:=by decide+kernel
theorem ex2_t:ex2.inp.tot=2:=by decide+kernel
theorem ex1_0:(ex1.inp.U 0).length=1/\((ex1.inp.U 0).getD 0 Ae).key=[]/\((ex1.inp.U 0).getD 0 Ae).desc=Ab/\((ex1.inp.U 0).getD 0 Ae).t.look Ab (nm 1)=Al 3:=by decide+kernel
theorem ex1_2:(ex1.inp.U 2).length=2/\((ex1.inp.U 2).getD 1 Ae).key=[nm 2]/\((ex1.inp.U 2).getD 1 Ae).desc=Ab/\((ex1.inp.U 2).getD 1 Ae).t.sz=2:=by decide+kernel
theorem ex1_k:((ex1.inp.U 0).getD 0 Ae).t.sz<=10/\((ex1.inp.U 0).getD 0 Ae).t.tot<=2^10:=by decide+kernel
theorem ex1_n:((ex1.inp.U 0).map (·.key)).Nodup/\((ex1.inp.U 2).map (·.key)).Nodup:=by decide+kernel
end
section
attribute [local irreducible] seqW awp zAf zAm zAc Weak updS zAu retL Pure Acts rP setP setQ cP nP fr
set_option maxRecDepth 4096
theorem zHn(z:Int):Pure Ah 43 [iD z] [] (vaD (nm z)):=by
 refine zF zA5 mixed Tryz.func43 rfl ?_;refine vAu<|vA<|ve (((1=1/\1<=3/\1=1/\2<=3/\True)/\Ad=Ad)/\Ab=Ab/\Ad=Ad/\3=3/\3<=3)<|zE<|vret (3<=3)<|.inr rfl
def Tex:Par:=⟨λ_=>Ab,λ_ _=>none,λ_=>Ab,λ_=>Ab,λt=>t==54||t==23||t==65⟩
theorem Tex_ok:zA6 Ah Tex:=by intro t n f h;cases h
theorem zR7:Pure Ah 47 [] [] (.agg (csC ex1)):=by
 refine zF Tex_ok mixed Tryz.func47 rfl ?_;focus
  refine vAu<|zA<|vd [0,1,2,3,4,5,6,7,8,9,10,11,12,13,14,15,16,17,18,19,20,21,22,23,24,25,26]<|vr 4 (((0:Int)<=(3:Int)/\(3:Int)<=(3:Int)/\(↑(1:Nat):Int)*(3:Int)<=(281474976710656:Int)/\(3:Int)<=(281474976710656:Int)/\0<1/\1=1)/\((1=1/\1<=2/\1=1/\2<=2/\True)/\0<1/\1=1/\2<=16777216/\2<=9223372036854775807)/\((1=1/\1<=2/\1=1/\2<=2/\True)/\0<1/\1=1/\2<=16777216/\2<=9223372036854775807)/\(1=1/\1<=2/\1=1/\2<=2/\True)/\0<1/\1=1/\2<=16777216/\2<=9223372036854775807)<|vc (zHn 1)<|vc (zHn 1)<|vr 1 ((3=3/\3<=6/\3=3/\6<=6/\True)/\0<3/\3=3/\6<=16777216/\2<=9223372036854775807)<|vc (zHn 1)<|vc (zHn 2)<|vr 1 ((3=3/\3<=6/\3=3/\6<=6/\True)/\0<3/\3=3/\6<=16777216/\2<=9223372036854775807)<|vc (zHn 2) ?_;refine vc (zHn 2)<|vr 2 (((3=3/\3<=6/\3=3/\6<=6/\True)/\0<3/\3=3/\6<=16777216/\2<=9223372036854775807)/\(1=1/\1<=3/\1=1/\2<=3/\1=1/\3<=3/\True)/\0<1/\1=1/\3<=16777216/\3<=9223372036854775807)<|vc (zHn 1)<|vc (zHn 7)<|vr 1 ((3=3/\3<=6/\3=3/\6<=6/\True)/\0<3/\3=3/\6<=16777216/\2<=9223372036854775807)<|vc (zHn 2)<|vc (zHn 7)<|vr 1 ((3=3/\3<=6/\3=3/\6<=6/\True)/\0<3/\3=3/\6<=16777216/\2<=9223372036854775807)<|vc (zHn 2)<|vc (zHn 8)<|ve (((3=3/\3<=6/\3=3/\6<=6/\True)/\0<3/\3=3/\6<=16777216/\2<=9223372036854775807)/\((1=1/\1<=3/\1=1/\2<=3/\1=1/\3<=3/\True)/\0<1/\1=1/\3<=16777216/\3<=9223372036854775807)/\((1=1/\1<=2/\1=1/\2<=2/\True)/\0<1/\1=1/\2<=16777216/\2<=9223372036854775807)/\((1=1/\1<=6/\1=1/\2<=6/\1=1/\3<=6/\1=1/\5<=6/\1=1/\6<=6/\True)/\Ad=Ad)/\Ab=Ab/\Ad=Ad/\6=6/\6<=6)<|zE<|vret (6<=6)<|.inr rfl
theorem zKw(c:Cs)(h:c.Small)(hl:c.V.length=c.R.length)(he:∀i,i<c.V.length->c.err i=0)(hc:icE c.n c.f c.desc.length c.P (c.ats c.V.length)=0)(hf:c.Few)(ht:c.Typ):∃S:Nat,S+zDn c.inp.R<=1000000000000000000/\Pure Ah 32 [iD (c.inp.n:Nat), .row (c.inp.L.flatMap bgC) c.inp.L.length, .row (c.inp.A.flatMap atR) c.inp.A.length] [] (.tup [.row (c.inp.R.flatMap atR) c.inp.R.length,iD ((S:Nat):Int),iD 0])/\
  Pure Ah 15 [inpD c.n c.f c.desc c.P (c.ats c.V.length)] [] (.tup [c.inp.ix,iD ((S+zDn c.inp.R:Nat):Int),iD 0]):=by
 have hck:=zNu c h (Au _);rw[hc,<-Cs.inp_D hc]at hck;obtain⟨S,h1,h2,h3⟩:=Inp.build (Cs.inp_ok hl he hc hf ht) hck;rw[Cs.inp_D hc]at h3;exact⟨S,h1,h2,h3⟩
theorem zJg(a:Nat)(ha:Sm a):Pure Ah 27 [natD a,natD a] [] (iD 0):=by
 grind [ncmp_c,cmpD]
section
variable (a1 a2 a3 b1 b2 b3 : List D) (l1 l2 l3 k1 k2 k3 : Nat) (c1 c2 c3 c4 d1 d2 d3 d4 : List D) (m1 m2 m3 m4 n1 n2 n3 n4 : Nat) (t u : WT) (s1 s2 : Int) (five three two : Nat)
abbrev exI1:D:= .agg [iD 3,iD 3, .row a1 l1, .row a2 l2, .row a3 l3]
abbrev exX(five:Nat):D:= .agg [.row c1 m1, .row c2 m2, .row c3 m3, .row c4 m4,natD five]
abbrev exI2:D:= .agg [iD 3,iD 1, .row b1 k1, .row b2 k2, .row b3 k3]
set_option maxHeartbeats 4000000 in
theorem awakeW(e5:five=5)(e3:three=3)(e2:two=2)(hsz:u.sz=2)
  (h1:Pure Ah 20 [.agg (csC ex1)] [] (.tup [exI1 a1 a2 a3 l1 l2 l3,bD Ad]))
  (h2:Pure Ah 15 [exI1 a1 a2 a3 l1 l2 l3] [] (.tup [exX c1 c2 c3 c4 m1 m2 m3 m4 five,iD s1,iD 0]))
  (h3:Pure Ah 21 [exX c1 c2 c3 c4 m1 m2 m3 m4 five,iD 0, .val (.slice none 0 0)] [] (.tup [zH6 Ab t,bD Ad]))
  (h4:Pure Ah 23 [zH6 Ab t,vaD (nm 1)] [] (.tup [natD three,bD Ad]))
  (h5:Pure Ah 21 [exX c1 c2 c3 c4 m1 m2 m3 m4 five,iD 2, .row (vaC (nm 2)) 1] [] (.tup [zH6 Ab u,bD Ad]))
  (h6:Pure Ah 20 [.agg (csC ex2)] [] (.tup [exI2 b1 b2 b3 k1 k2 k3,bD Ad]))
  (h7:Pure Ah 15 [exI2 b1 b2 b3 k1 k2 k3] [] (.tup [exX d1 d2 d3 d4 n1 n2 n3 n4 two,iD s2,iD 0]))
  (h8:Pure Ah 19 [exX c1 c2 c3 c4 m1 m2 m3 m4 five] [] (natD five))
  (h9:Pure Ah 19 [exX d1 d2 d3 d4 n1 n2 n3 n4 two] [] (natD two)):Pure Ah 11 [] [] (bD Ad):=by
 have o5:Pure Ah 36 [.val (.int .u64 5)] [] (natD five):=by subst e5;exact of_c 5 (by decide)
 have o3:Pure Ah 36 [.val (.int .u64 3)] [] (natD three):=by subst e3;exact of_c 3 (by decide)
 have o2:Pure Ah 36 [.val (.int .u64 2)] [] (natD two):=by subst e2;exact of_c 2 (by decide)
 have q5:=zJg five (by subst e5;exact Sm.pow (e:=10) (by decide) (by decide));have q3:=zJg three (by subst e3;exact Sm.pow (e:=10) (by decide) (by decide));have q2:=zJg two (by subst e2;exact Sm.pow (e:=10) (by decide) (by decide));have hwl:=zVj Ab u;rw[hsz]at hwl;refine zF zA5 mixed Tryz.func11 rfl ?_;focus
  refine vAu<|vA<|vc zR7<|vc h1<|ve (0<2/\1<2/\Ab=Ab/\Ad=Ad/\5=5/\5<=5)<|vA<|vr 1 (5<=5)<|vc h2<|ve (0<3/\1<3/\2<3/\Ab=Ab/\Ad=Ad/\5=5/\5<=5) ?_;refine vA<|vr 1 (5<=5)<|vc h3<|ve (0<2/\1<2/\Ab=Ab/\Ad=Ad/\2=2/\2<=2)<|zA<|vd [0,1,2,3,4,5,6,7]<|vr 1 (2<=2)<|vc (zHn 1)<|vc h4<|ve (0<2/\1<2)<|zA<|vd [0,1,2,3,4,5,6,7,8,9]<|vr 1 (5<=5) ?_;refine vc (zHn 2)<|vr 1 ((3=3/\3<=3/\True)/\0<3/\3=3/\3<=16777216/\1<=9223372036854775807)<|vc h5<|ve (0<2/\1<2/\Ab=Ab/\Ad=Ad/\2=2/\2<=2)<|vA<|vc zR7<|ve (Ab=Ab/\Ad=Ad/\6=6/\6<=6)<|zA ?_;refine zA4 [2,0,1] [(3,[(0,6),(1,7)],[4]),(5,[(1,7)],[6,7])] rfl ?_;refine vr 3 (True/\((0:Int)<=(1:Int)/\(1:Int)<=(1:Int)/\(↑(1:Nat):Int)*(1:Int)<=(281474976710656:Int)/\(1:Int)<=(281474976710656:Int)/\0<1/\1=1)/\(1=1/\1<=2/\1=1/\2<=2/\True)/\0<1/\1=1/\2<=16777216/\2<=9223372036854775807)<|vnil<|zBv rfl rfl<|vr 1 (Ab=Ab/\Ad=Ad/\1=1/\2<=6)<|vnil ?_;refine zEd (C:=((0:Int)<=(1:Int)/\(1:Int)<=(1:Int)/\(↑(1:Nat):Int)*(1:Int)<=(281474976710656:Int)/\(1:Int)<=(281474976710656:Int)/\0<1/\1=1)/\Al (AA 6 0 1 1 Ad)=Al (AA 6 0 1 1 Ad)/\eqDL [bD Ab] [bD Ab]/\4=4/\1=1/\Ad=Ad/\(kdOf Ab)=kdOf Ab/\((1=1/\1<=2/\1=1/\2<=2/\True)/\0<1/\1=1/\2<=16777216/\2<=9223372036854775807)/\Al (AA 7 0 2 2 Ad)=Al (AA 7 0 2 2 Ad)/\eqDL [iD 2,iD 1] [iD 2,iD 1]/\3=3/\1=1/\Ad=Ad/\Ay=Ay) ⟨(by omega),(by kernel_rfl),rfl,(by kernel_rfl),(by kernel_rfl),(by kernel_rfl),(by kernel_rfl),⟨⟨(by kernel_rfl),⟨(by omega),⟨(by kernel_rfl),⟨(by omega),trivial⟩⟩⟩⟩,(by omega)⟩,(by kernel_rfl),rfl,(by kernel_rfl),(by kernel_rfl),(by kernel_rfl),(by kernel_rfl)⟩ ?_;refine vrT 1<|vnil<|zBv rfl rfl<|vr 1 (Ab=Ab/\Ad=Ad/\1=1/\3<=6)<|vnil ?_;refine zEd (C:=((1=1/\1<=2/\1=1/\2<=2/\True)/\0<1/\1=1/\2<=16777216/\2<=9223372036854775807)/\Al (AA 7 0 2 2 Ad)=Al (AA 7 0 2 2 Ad)/\eqDL [iD 2,iD 1] [iD 2,iD 1]/\3=3/\1=1/\Ad=Ad/\Ay=Ay) ⟨⟨⟨(by kernel_rfl),⟨(by omega),⟨(by kernel_rfl),⟨(by omega),trivial⟩⟩⟩⟩,(by omega)⟩,(by kernel_rfl),rfl,(by kernel_rfl),(by kernel_rfl),(by kernel_rfl),(by kernel_rfl)⟩ ?_;refine vr 2 (True/\Ab=Ab/\Ad=Ad/\1=1/\4<=6)<|vnil<|zBt<|vN<|vA<|vr 1 (6<=6)<|vc h6<|ve (0<2/\1<2/\Ab=Ab/\Ad=Ad/\5=5/\5<=5)<|vA<|vr 1 (5<=5)<|vc h7 ?_;refine ve (0<3/\1<3/\2<3/\Ab=Ab/\Ad=Ad/\5=5/\5<=5)<|vA<|vr 23 (True/\True/\5<=5)<|vc h8<|vc o5<|vc q5<|vrT 4<|vc o3<|vc q3<|vr 4 (True/\2<=2)<|vc hwl<|vr 4 (True/\5<=5)<|vc h9 ?_;refine vc o2<|vc q2<|veT<|zE<|vret (True)<|.inr rfl
end
theorem zVo(c:Cs)(h:c.Small)(hv:c.V.length=c.R.length/\(∀i,i<c.V.length->c.err i=0)/\icE c.n c.f c.desc.length c.P (c.ats c.V.length)=0):Pure Ah 20 [.agg (csC c)] [] (.tup [inpD c.n c.f c.desc c.P (c.ats c.V.length),bD Ad]):=by
 obtain⟨m,ok,_,h1,h2,h3⟩:=zZf c h;grind
theorem zQf:Pure Ah 11 [] [] (bD Ad):=by
 have v1:=zVo ex1 ex1_s ex1_v;have v2:=zVo ex2 ex2_s ex2_v;obtain⟨S1,_,_,b1⟩:=zKw ex1 ex1_s ex1_v.1 ex1_v.2.1 ex1_v.2.2 ex1_f exR_t;obtain⟨S2,_,_,b2⟩:=zKw ex2 ex2_s ex2_v.1 ex2_v.2.1 ex2_v.2.2 ex2_f exR_t;obtain⟨p1,p2,p3,p4⟩:=ex1_0;obtain⟨q1,q2,q3,q4⟩:=ex1_2;obtain⟨k1,k2⟩:=ex1_k;have u0:=zNy ex1.inp.desc (ex1.inp.L.take ex1.inp.f) ex1.inp.U ex1.inp.tot 0 0 0 (by rw[p2];rfl) (by omega) (by rw[p2];simp) (by decide) (by decide) ex1_n.1 (by omega) (by omega);have u2:=zNy ex1.inp.desc (ex1.inp.L.take ex1.inp.f) ex1.inp.U ex1.inp.tot 2 1 1 (by rw[q2];rfl) (by omega) (by rw[q2];intro x hx;obtain rfl:=Bn.1 hx;exact Vt.vs (by unfold Vt;decide) (by decide)) (by decide) (by decide) ex1_n.2 (by omega) (by omega);rw[p2,p3]at u0;rw[q2,q3]at u2;have g0:=wget_c Ab ((ex1.inp.U 0).getD 0 Ae).t (nm 1) ⟨by omega,Sm.pow k2 (by decide)⟩;rw[p4]at g0;have t1:=zKs ex1.inp.desc (ex1.inp.L.take ex1.inp.f) ex1.inp.U ex1.inp.tot (by rw[ex1_t];exact Sm.pow (e:=10) (by decide) (by decide));have t2:=zKs ex2.inp.desc (ex2.inp.L.take ex2.inp.f) ex2.inp.U ex2.inp.tot (by rw[ex2_t];exact Sm.pow (e:=10) (by decide) (by decide));refine awakeW (t:=((ex1.inp.U 0).getD 0 Ae).t) (u:=((ex1.inp.U 2).getD 1 Ae).t) (five:=ex1.inp.tot) (three:=3) (two:=ex2.inp.tot) (e5:=ex1_t) (e3:=rfl) (e2:=ex2_t) (hsz:=q4) (h1:=v1) (h2:=b1) (h3:=u0.le (.cons (.refl _) (.cons (.refl _) (.cons LeD.nil_row .nil)))) (h4:=g0) (h5:=u2) (h6:=v2) (h7:=b2) (h8:=t1) (h9:=t2)
end
theorem put_hi(v:Va)(w:Nat):∀t:WT,(∀x∈t.lst,vcmp x.1 v<0)->(t.put Ab v w).lst=t.lst++[(v,w)]
 | .nil,_=>rfl
 | .node u y l r,h=>by
  have hu:vcmp u v<0:=h (u,y) (by simp[WT.lst]);have h1:0<WT.cmp Ab v u:=by
   have:=(zA7 u v).2.2
   show 0<vcmp v u;omega
  rw[WT.put,if_neg (by omega),if_pos h1,WT.bal_lst,put_hi v w r λx hx=>h x (by simp[WT.lst,hx])];simp[WT.lst]
theorem put_lo(v:Va)(w:Nat):∀t:WT,(∀x∈t.lst,vcmp x.1 v<0)->(t.put Ad v w).lst=(v,w)::t.lst
 | .nil,_=>rfl
 | .node u y l r,h=>by
  have hu:vcmp u v<0:=h (u,y) (by simp[WT.lst]);have h1:WT.cmp Ad v u<0:=hu;rw[WT.put,if_pos h1,WT.bal_lst,put_lo v w l λx hx=>h x (by simp[WT.lst,hx])];simp[WT.lst]
def asc(d:Bool)(l:List (Va×Nat)):List (Va×Nat):=if d then l.reverse else l
theorem asc_put(d:Bool)(v:Va)(w:Nat)(t:WT)(h:∀x∈t.lst,vcmp x.1 v<0):asc d (t.put d v w).lst=asc d t.lst++[(v,w)]:=by
 cases d
 ·exact put_hi v w t h
 show(t.put Ad v w).lst.reverse=t.lst.reverse++[(v,w)];grind [put_lo,Bw]
theorem mem_asc{d:Bool}{l:List (Va×Nat)}{x:Va×Nat}:x∈asc d l↔x∈l:=by
 grind [asc]
theorem zK0(d:Bool)(l:List (Va×Nat)):(asc d l).length=l.length:=by
 grind [asc]
theorem asc_sum(d:Bool)(l:List (Va×Nat)):((asc d l).map AS).sum=(l.map AS).sum:=by
 grind [asc,List.map_reverse]
theorem zRb:∀(p:List Va)(a b:Va),rcmp (p++[a]) (p++[b])=vcmp a b
 |[],a,b=>by
  grind [only,rcmp]
 |x::p,a,b=>by
  have:=(zA7 x x).2.1.2 rfl
  simp only[List.cons_append,rcmp];rw[if_pos this];exact zRb p a b
theorem kv_eq{n:Nat}{x:List Va}(h:x.length=n+1):x=kyX x++[vaX x]:=by
 have h1:x.drop n=[x.getD n Ae]:=by
  grind [List.drop_eq_getElem_cons,List.drop_eq_nil_of_le,Ap]
 conv=>lhs;rw[<-List.take_append_drop n x]
 grind
def sh2(d:Bool)(b:Bu):List Va×List (Va×Nat):=(b.key,asc d b.t.lst)
def gpA(l:List (List Va×List (Va×Nat)))(k:List Va)(e:Va×Nat):List (List Va×List (Va×Nat)):=match l.getLast? with
 |some b=>if b.1=k then l.dropLast++[(b.1,b.2++[e])]else l++[(k,[e])]
 |none=>[(k,[e])]
def gp(w:List Va->Nat)(rows:List (List Va)):List (List Va×List (Va×Nat)):=rows.foldl (λl x=>if 0<w x then gpA l (kyX x) (vaX x,w x)else l) []
theorem gAdd_sh(d:Bool)(l:List Bu)(k:List Va)(v:Va)(w:Nat)(h:∀b∈l,b.key=k->∀e∈b.t.lst,vcmp e.1 v<0):(gAdd d l k v w).map (sh2 d)=gpA (l.map (sh2 d)) k (v,w):=by
 rcases List.eq_nil_or_concat l with rfl|⟨m,b,rfl⟩
 ·rw[zKu];cases d<;>rfl
 rw[List.concat_eq_append]at*;unfold gpA;rw[A4,AH,List.map_nil,List.getLast?_concat];dsimp only;by_cases e:b.key=k
 ·rw[zP7 _ _ _ _ _ _ e,if_pos (show(sh2 d b).1=k from e),List.dropLast_concat,A4]
  have:=asc_put d v w b.t (h b (by simp) e)
  grind [only,sh2]
 rw[zP6 _ _ _ _ _ _ e,if_neg (show¬(sh2 d b).1=k from e),A4,A4];cases d<;>rfl
theorem gpA_mem{l:List (List Va×List (Va×Nat))}{k:List Va}{e:Va×Nat}{b:List Va×List (Va×Nat)}(hb:b∈gpA l k e){x:Va×Nat}(hx:x∈b.2):(b.1=k/\x=e)\/∃c∈l,c.1=b.1/\x∈c.2:=by
 grind [gpA,List.mem_of_getLast?,List.dropLast_subset,Bn]
theorem gp_snoc(w:List Va->Nat)(rows:List (List Va))(x:List Va):gp w (rows++[x])=if 0<w x then gpA (gp w rows) (kyX x) (vaX x,w x)else gp w rows:=by
 grind [gp]
theorem gp_mem(w:List Va->Nat):∀(r rows:List (List Va)),rows.reverse=r->∀b∈gp w rows,∀e∈b.2,∃x∈rows,kyX x=b.1/\vaX x=e.1
 |[],rows,hr,b,hb,e,he=>by
  obtain rfl:rows=[]:=by simpa using hr
  cases hb
 | x::r,rows,hr,b,hb,e,he=>by
  obtain rfl:rows=r.reverse++[x]:=by rw[<-AX rows,hr,Bw]
  have ih:=gp_mem w r r.reverse (AX r);rw[gp_snoc]at hb;split at hb
  ·rcases gpA_mem hb he with⟨h1,h2⟩|⟨c,h1,h2,h3⟩;all_goals grind
  grind
def Srn(n:Nat)(rows:List (List Va)):Prop:=rows.Pairwise (λx y=>rcmp x y<0)/\∀x∈rows,x.length=n+1
theorem zL4(d:Bool)(w:List Va->Nat)(n:Nat):∀(r rows:List (List Va)),rows.reverse=r->Srn n rows->(grpL d w rows).map (sh2 d)=gp w rows
 |[],rows,hr,_=>by
  obtain rfl:rows=[]:=by simpa using hr
  rfl
 | x::r,rows,hr,hs=>by
  obtain rfl:rows=r.reverse++[x]:=by rw[<-AX rows,hr,Bw]
  obtain⟨s1,s2⟩:=hs;rw[List.pairwise_append]at s1;have ih:=zL4 d w n r r.reverse (AX r) ⟨s1.1,λy hy=>s2 y (List.mem_append_left _ hy)⟩;rw[zL3,gp_snoc];split
  ·rw[gAdd_sh,ih];intro b hb hk e he;obtain⟨y,y1,y2,y3⟩:=gp_mem w r r.reverse (AX r) (sh2 d b) (by rw[<-ih];exact List.mem_map_of_mem hb) e (mem_asc.2 he);have h1:=s1.2.2 y y1 x (by simp);rw[kv_eq (s2 y (List.mem_append_left _ y1)),kv_eq (s2 x (by simp)),y2,y3,show(sh2 d b).1=kyX x from hk,zRb]at h1;exact h1
  exact ih
theorem tot_asc(d:Bool)(t:WT):((asc d t.lst).map AS).sum=t.tot:=by rw[asc_sum,WT.tot_lst]
theorem zZs(d:Bool)(l:List Bu):totL l=(l.map (sh2 d)).foldl (λK p=>tput K p.1 (p.2.map AS).sum) []:=by
 rw[List.foldl_map];unfold totL;congr 1;funext K b;show tput K b.key b.t.tot=tput K b.key ((asc d b.t.lst).map AS).sum;rw[tot_asc]
theorem zZq(d e:Bool)(w:List Va->Nat){n:Nat}{rows:List (List Va)}(h:Srn n rows):totL (grpL d w rows)=totL (grpL e w rows):=by
 rw[zZs d,zZs e,zL4 d w n _ rows rfl h,zL4 e w n _ rows rfl h]
theorem zVy(b:Bd)(ds:List Bool)(O:List Nat)(hs:∀v,∃n,Srn n (b.R.getD v Ae).2):∀i,tab {b with desc:=ds} O i=tab b O i
 |0=>rfl
 |i+1=>by
  have ih:=zVy b ds O hs i;obtain⟨n,hn⟩:=hs (O.getD i 0);rw[tab,tab,ih];unfold tabS;have e1:∀w,totL (grpL (ds.getD (O.getD i 0) Ab) w (b.R.getD (O.getD i 0) Ae).2)=totL (grpL (b.desc.getD (O.getD i 0) Ab) w (b.R.getD (O.getD i 0) Ae).2):=λw=>zZq _ _ w hn;simp only[chV,keyC]at*;rw[e1]
section
variable {I : Inp} (h : I.Ok)
def Inp.tn(I:Inp)(ds:List Bool):Inp:={I with desc:=ds}
include h
theorem Inp.tn_ok{ds:List Bool}(hd:ds.length=I.desc.length):(I.tn ds).Ok:=⟨h.n,h.f,hd.trans h.d,h.P,h.P2,h.P3,h.A,h.V,h.R,h.C⟩
theorem Inp.srt(v:Nat):∃n,Srn n (I.b.R.getD v Ae).2:=by
 by_cases hv:v<I.n
 ·have hj:=(zLy (Inp.aok h hv)).1;have ha:=Inp.jall h hv;have hm:=(Inp.mem_len h hv).1;refine⟨(zBa (bgS (I.bag v))).length-1,?_⟩;show Srn _ (I.R.getD v Ae).2;rw[Inp.Rat hv];exact⟨hj,λx hx=>by have:=(ha x hx).1;omega⟩
 refine⟨0,?_⟩;have e:I.b.R.getD v Ae=default:=by
  grind
 rw[e];exact⟨List.Pairwise.nil,λx hx=>by cases hx⟩
theorem Inp.tn_tab(ds:List Bool):tab (I.tn ds).b (I.tn ds).O (I.tn ds).n=tab I.b I.O I.n:=zVy I.b ds I.O (Inp.srt h) I.n
theorem Inp.tn_tot(ds:List Bool):(I.tn ds).tot=I.tot:=by
 show totB (I.tn ds).b (tab (I.tn ds).b (I.tn ds).O (I.tn ds).n).1 (tab (I.tn ds).b (I.tn ds).O (I.tn ds).n).2=_;rw[Inp.tn_tab h];rfl
theorem Inp.tn_U(ds:List Bool)(c:Nat):(I.tn ds).U c=if I.tot=0 then[]else grpL (ds.getD c Ab) (λx=>wtL I.f I.VT I.TT x (chV I.b c)) (I.b.R.getD c Ae).2:=by
 show(if(I.tn ds).tot=0 then[]else buk (I.tn ds).b (tab (I.tn ds).b (I.tn ds).O (I.tn ds).n).1 (tab (I.tn ds).b (I.tn ds).O (I.tn ds).n).2 c)=_;rw[Inp.tn_tot h,Inp.tn_tab h];rfl
theorem Inp.tn_sh(ds:List Bool)(c:Nat):((I.tn ds).U c).map (sh2 (ds.getD c Ab))=(I.U c).map (sh2 (I.desc.getD c Ab)):=by
 obtain⟨n,hn⟩:=Inp.srt h c;rw[Inp.tn_U h];show _=(if I.tot=0 then[]else grpL (I.desc.getD c Ab) (λx=>wtL I.f I.VT I.TT x (chV I.b c)) (I.b.R.getD c Ae).2).map _;split
 ·rfl
 rw[zL4 _ _ n _ _ rfl hn,zL4 _ _ n _ _ rfl hn]
theorem Inp.U_ok{c:Nat}(hc:c<I.n):(I.U c).length<=65536/\∀b∈I.U c,b.key.length<=10000/\b.t.Ok:=by
 have hb:=Inp.bal h;have h1:=hb.rl c hc;have h2:=hb.T c hc;have h3:=hb.V c hc;have h4:=hb.r c hc;show(if I.tot=0 then[]else buk I.b I.VT I.TT c).length<=65536/\∀b∈(if I.tot=0 then[]else buk I.b I.VT I.TT c),_;split
 ·grind
 obtain⟨g1,g2⟩:=zP5 (desc:=I.b.desc.getD c Ab) (w:=λx=>wtL I.b.f I.VT I.TT x (chV I.b c)) (Q:=λk=>k.length<=10000) (I.b.R.getD c Ae).2 λx hx=>by
  grind
 exact⟨An g1 h1,λb hb=>⟨(g2 b hb).q,An (g2 b hb).n (An h1 (by omega)),h2.le (g2 b hb).s⟩⟩
theorem Inp.tot_sm:Sm I.tot:=by
 have hb:=Inp.bal h;show Sm (if zXz I.b.A then 0 else rtL I.b.L I.b.f I.VT I.TT I.b.L.length);split
 ·exact Sm.zero
 exact hb.Rt _ (by rw[hb.L];exact Au _)
end
theorem go_at{t:WT}{i:Nat}(h:i<t.sz):t.lst.getD i Ae=(t.go i).2.2:=by
 grind [WT.go_lst]
theorem turn_at{d e:Bool}{a b:Bu}(h:sh2 e b=sh2 d a){m p:Nat}(hm:m<a.t.sz)(hp:p=if d=e then m else a.t.sz-1-m):b.key=a.key/\b.t.sz=a.t.sz/\p<b.t.sz/\(b.t.go p).2.2=(a.t.go m).2.2:=by
 have h1:b.key=a.key:=congrArg Ax h;have h2:asc e b.t.lst=asc d a.t.lst:=congrArg AS h;have h3:b.t.sz=a.t.sz:=by
  rw[<-WT.lst_length,<-WT.lst_length,<-zK0 e,h2,zK0]
 have hl:=WT.lst_length a.t;have hlb:=WT.lst_length b.t;have hpl:p<b.t.sz:=by subst hp;split<;>omega
 refine⟨h1,h3,hpl,?_⟩;rw[<-go_at hpl,<-go_at hm];by_cases hde:d=e
 ·subst hde;rw[if_pos rfl]at hp;subst hp;have:b.t.lst=a.t.lst:=by
   cases d
   ·exact h2
   exact List.reverse_inj.1 h2
  rw[this]
 rw[if_neg hde]at hp;have:b.t.lst=a.t.lst.reverse:=by
  cases d<;>cases e
  ·exact absurd rfl hde
  ·show b.t.lst=_;rw[show a.t.lst=b.t.lst.reverse from h2.symm,AX]
  ·exact h2
  exact absurd rfl hde
 grind
section
attribute [local irreducible] seqW awp zAf zAm zAc Weak updS zAu retL Pure Acts rP setP setQ cP nP fr
set_option maxRecDepth 4096
theorem cmpE40_c(x:Va):Pure Ah 105 [vaD x,vaD x] [] (iD 0):=by
 refine zF zA5 mixed Tryz.func105 rfl ?_;focus
  refine vAu<|zA<|vA<|vr 3 (3<=3/\3<=3/\True)<|vs 7 (bD (AL x==AL x&&(AM x==AM x&&(AY (bs<|AN x)==AY (bs<|AN x)&&Ad)))) (bD Ad) (by simp(disch:=omega) only[beq_self_eq_true,Bx])<|veT<|vt<|vAe ?_;refine zE<|zG<|vret (True)<|.inr rfl
theorem cmpR40_c(l:List Va)(n:Nat)(hn:l.length=n)(hl:n<=1000000):Pure Ah 65 [.row (zJ l) n, .row (zJ l) n, .val (.slice none 0 0)] [] (iD 0):=by
 subst hn;refine zF zA5 mixed Tryz.func65 rfl ?_;focus
  refine vAu<|zA<|vAe<|zH ?_;rotate_left
 refine zK (λ(i:Nat)=>fr 50 [(0,(q3_ l)),(1,(q3_ l)),(2,nl),(7,iD i)]) (λ_=>[]) (λi=>l.length-i) (λi=>i<=l.length) 0 ?_ ?_ ?_
 ·omega
 ·refine vk 0
 intro i h1;rcases AD i l.length with h3|h3
 ·focus
   refine zA<|vAs<|vew [] [(4,Ad)] (decide ((i:Int)<↑(Aa l))=Ad)<|vT ((i:Int)<↑(Aa l))<|vKB<|zA<|vd [0,1,2,4,5,6,3,7,8,9]<|vr 7 (ix ↑i ↑(Aa l) (zJ l≠[])/\ix ↑i ↑(Aa l) (zJ l≠[])/\3<=Aa (Ag (i*3)<|zJ l)) ?_ ⟨⟨(by omega),⟨(by omega),(by exact zGo _ (by omega))⟩⟩,⟨(by omega),⟨(by omega),(by exact zGo _ (by omega))⟩⟩,(by exact zFo _ _ (by omega))⟩;refine vs 24 (Aj<|Aq 3<|Ag (i*3)<|zJ l) (Aj<|vaC<|AF l i Ae) (by simp(disch:=omega) only[zC0])<|vr 1 (3<=Aa (Ag (i*3)<|zJ l)) (vs 28 (Aj<|Aq 3<|Ag (i*3)<|zJ l) (Aj<|vaC<|AF l i Ae) (by simp(disch:=omega) only[zC0])<|vca [Aj [iD<|AL<|AF l i Ae,iD<|AM<|AF l i Ae,Aw<|A5<|bs<|AN<|AF l i Ae],Aj [iD<|AL<|AF l i Ae,iD<|AM<|AF l i Ae,Aw<|A5<|bs<|AN<|AF l i Ae]] (by exact cmpE40_c _)<|veT<|zA<|vA<|vew [] [(4,Ab)] (decide ((i:Int)<0)=Ab)<|vf<|vK<|zA ?_) (by exact zFo _ _ (by omega));refine zB rfl<|veT<|vf<|zQ<|zD<|vN<|zB rfl<|vr 3 (i6 (↑i+1))<|vnil<|zC ?_;rotate_left
  refine⟨i+1,by omega,by omega,?_⟩;refine vk 0
 obtain rfl:i=l.length:=by omega
 focus
  refine zA<|vAs<|vew [] [(4,Ab)] (decide ((Aa l:Int)<(Aa l:Int))=Ab)<|vf<|vZ2<|vA ?_;refine vr 5 (i6 ((Aa l:Int)-(Aa l:Int)))<|vs 49 (iD ((Aa l:Int)-(Aa l:Int))) (iD 0) (by simp(disch:=omega) only[Int.sub_self])<|veT<|zE<|vret (True)<|.inr rfl
theorem same40_c(l:List Va)(n:Nat)(hn:l.length=n)(hl:n<=1000000):Pure Ah 26 [.row (zJ l) n, .row (zJ l) n] [] (bD Ad):=by
 have h:=cmpR40_c l n hn hl;refine zF zA5 mixed Tryz.func26 rfl ?_;refine vAu<|vA<|vw 8 [] [(5,Ad)] (True/\((n:Int)==↑n)=Ad)<|vc h<|veT<|zE<|vret (True)<|.inr rfl
section
variable (desc : List Bool) (L : List Bg) (U : Nat → List Bu) (tot : Nat)
theorem zNn(v:Nat)(hd:desc.length<=1000000)(hv:v<desc.length)(hl:(U v).length<=1000000)(hk:∀b∈U v,b.key.length<=10000):Pure Ah 34 [ixD desc L U tot,iD (v:Nat)] [] (busD (U v)):=by
 have hf:=ifree_c desc L U tot (v:Nat) hd;rw[show(decide (0<=((v:Nat):Int))&&decide (((v:Nat):Int)<(desc.length:Int)))=Ad by rw[Bool.and_eq_true,decide_eq_true_eq,decide_eq_true_eq];omega]at hf;have hcp:=zXl (U v) _ rfl hl hk;have hg2:((fA desc.length λc=>busD (U c)).drop v).headD .unk=busD (U v):=by rw[zD4 hv]
 have hpo2:=zB9 (g:=λc=>busD (U c)) hv;refine zF zA5 mixed Tryz.func34 rfl ?_;focus
  refine vAu<|zA<|vA<|vr 2 (5<=5)<|vc hf<|veT<|vf<|vK ?_;refine vA<|vr 4 (True/\0<3/\ix ↑v ↑(Aa desc) ((fA (Aa desc) λ(c:Nat)=>busD (U c))≠[])) (vp 12 v (fA (Aa desc) λ(c:Nat)=>busD (U c))<|vr 1 (0<Aa (Ag v (fA (Aa desc) λ(c:Nat)=>busD (U c))))<|vsh 13 hg2<|vc hcp<|veT<|zE<|vret (True)<|.inr rfl) ⟨trivial,(by omega),⟨(by omega),⟨(by omega),(by exact fA_ne hv)⟩⟩⟩
end
abbrev tuS(n0:Int)(f:Nat)(desc:List Bool)(P:List Int)(V:List (List Int))(R:List (List Rw))(ats:List At)(ds:List Bool)(L:List Bg)(U W:Nat->List Bu)(tot:Nat):List Bk:=[⟨[iD n0,iD (f:Nat), .row (desc.map bD) desc.length,zBg P, .row (V.map zBg) V.length, .row (R.map zCs) R.length],27,0,Ab,Ab, .plain⟩,⟨[iD n0,iD (f:Nat), .row (desc.map bD) desc.length,zBg P, .row (ats.flatMap atC) ats.length],31,0,Ab,Ab, .plain⟩,⟨[iD n0,iD (f:Nat), .osl 3 0 ds.length ds.length Ad,zBg P, .row (ats.flatMap atC) ats.length],31,0,Ab,Ab, .plain⟩,⟨ds.map bD,4,1,Ad,Ad, .plain⟩,⟨[.row (desc.map bD) desc.length, .row (L.flatMap bgC) L.length, .row (fA desc.length λc=>busD (U c)) desc.length, .row (fA desc.length λc=>zC2 (U c)) desc.length,natD tot],46,0,Ab,Ab, .plain⟩,⟨[.row (ds.map bD) ds.length, .row (L.flatMap bgC) L.length, .row (fA ds.length λc=>busD (W c)) ds.length, .row (fA ds.length λc=>zC2 (W c)) ds.length,natD tot],46,0,Ab,Ab, .plain⟩]
section
variable (c : Cs) (ats : List At) (L : List Bg) (U W : Nat → List Bu) (tot f v : Nat) (s1 s2 : Int)
set_option maxHeartbeats 4000000 in
theorem turnsW(hs:c.Small)(hf:c.f=(f:Nat))(hd:c.desc.length=f)(hf0:0<f)(hf6:f<=6)(hv:v<256)
  (h1:Pure Ah 20 [.agg (csC c)] [] (.tup [inpD c.n c.f c.desc c.P ats,bD Ad]))
  (h2:Pure Ah 13 [.agg (csC c)] [] (bD Ad))
  (b1:Pure Ah 15 [inpD c.n c.f c.desc c.P ats] [] (.tup [ixD c.desc L U tot,iD s1,iD 0]))
  (b2:Pure Ah 15 [inpD c.n c.f (c.desc.set (v%f) (!c.desc.getD (v%f) Ab)) c.P ats] [] (.tup [ixD (c.desc.set (v%f) (!c.desc.getD (v%f) Ab)) L W tot,iD s2,iD 0]))
  (ht:Sm tot)
  (hU:∀i,i<f->(W i).length=(U i).length/\(U i).length<=65536/\∀j,j<(U i).length->((W i).getD j Ae).key=((U i).getD j Ae).key/\((U i).getD j Ae).key.length<=10000/\((W i).getD j Ae).t.sz=((U i).getD j Ae).t.sz/\((U i).getD j Ae).t.Ok/\((W i).getD j Ae).t.Ok/\
   ∀m,m<((U i).getD j Ae).t.sz->(((W i).getD j Ae).t.go (if i=v%f then((U i).getD j Ae).t.sz-1-m else m)).2.2=(((U i).getD j Ae).t.go m).2.2/\Sm (((U i).getD j Ae).t.go m).2.2.2):Pure Ah 7 [.agg (csC c), .val (.int .u8 (v:Nat))] [] (bD Ad):=by
 obtain⟨n0,f0,desc,P,V,R⟩:=c;obtain rfl:f0=(f:Nat):=hf;replace hd:desc.length=f:=hd;dsimp only at b1 b2 h1 h2;have hmod:Int.tmod ((v:Nat):Int) ((f:Nat):Int)=((v%f:Nat):Int):=(Int.ofNat_tmod v f).symm;have hk:=Nat.mod_lt v hf0;have hds:(desc.set (v%f) (!desc.getD (v%f) Ab)).length=f:=by rw[By,hd]
 generalize hkk:v%f=k at*;obtain⟨ds,hdd⟩:∃ds,ds=desc.set k (!desc.getD k Ab):=⟨_,rfl⟩;rw[<-hdd]at b2 hds;have htk:(ds.map bD).take ds.length=ds.map bD:=List.take_of_length_le (by rw[AB];exact Au _);have htt:=zKs desc L U tot ht;have htw:=zKs ds L W tot ht;have hcm:=zJg tot ht;have hbl:=zBh bD desc Ab k (by omega);have hba:=λi (hi:i<f)=>zNn desc L U tot i (by omega) (by omega) (by have:=(hU i hi).2.1;omega) λb hb=>by
  obtain⟨j,hj,rfl⟩:=AZ hb
  have:=((hU i hi).2.2 j hj).2.1
  rwa[As,Ap hj]at this
 have hbb:=λi (hi:i<f)=>zNn ds L W tot i (by omega) (by omega) (by have:=(hU i hi).1;have:=(hU i hi).2.1;omega) λb hb=>by
  obtain⟨j,hj,rfl⟩:=AZ hb;have h5:=(hU i hi).1;obtain⟨h3,h4,_⟩:=(hU i hi).2.2 j (by omega);rw[<-h3]at h4;rwa[As,Ap hj]at h4
 refine zF zA5 mixed Bf rfl ?_;focus
  refine vAu<|zA<|vA<|vc zQf<|veT<|vf<|vK<|zA ?_;refine zB rfl<|vr 1 (6<=6)<|vc h1<|ve (0<2/\1<2/\Ab=Ab/\Ad=Ad/\5=5/\5<=5)<|zA<|vA<|vr 1 (6<=6)<|vc h2<|ve (True/\0<5/\True)<|vEf ((f:Int)) ((0:Int))<|vK ?_;refine vA<|vr 5 (i6 (v:Int)/\True/\0<5/\(f:Int)≠(0:Int))<|vs 51 (iD<|Int.tmod (v:Int) (f:Int)) (iD k) (by simp(disch:=omega) only[hmod])<|veT<|vA<|ve (5<=5/\Ab=Ab/\Ad=Ad/\5=5/\5<=5)<|vA<|vr 6 ((True/\0<1/\1=1/\0<=16777216/\0<=9223372036854775807)/\True/\0<3/\(Ad=Ad/\0=0/\0=0/\4=4/\1=1/\Aa (Af bD desc)=Aa desc*1/\0<1/\0<1/\4=4/\(0+Aa desc)*1<=140737488355328/\1=1/\Ab=Ab/\(Ab=Ab\/Ab=Ad))/\True/\Ab=Ab/\Ad=Ad/\1=1/\3<=5)<|vb 2 (AC [iD n0,iD f,AA 3 0 (0+Aa desc) ((0+Aa desc)*1) Ad,Ai (Af (λ(z:Int)=>iD z) P)<|Aa P,Ai (Ak atC ats)<|Aa ats] 31 0 Ab Ab Ay) (AC [iD n0,iD f,AA 3 0 (Aa desc) (Aa desc) Ad,Ai (Af (λ(z:Int)=>iD z) P)<|Aa P,Ai (Ak atC ats)<|Aa ats] 31 0 Ab Ab Ay) (by simp(disch:=omega) only[Nat.zero_add,Nat.mul_one]) ?_;refine veT<|zA<|vd [0,2,3,5,1,4,6,7,8,9,10]<|vr 7 (True/\True/\0<3/\0<3/\(0:Int)<=(k:Int)/\(k:Int)<↑(Aa desc))<|vo 64 3 k<|vr 1 (0<Aa (Ag k<|Af bD desc))<|vsh 65 hbl<|vr 2 ((0:Int)<=(k:Int)/\(k:Int)<↑(Aa desc))<|vo 67 3 k<|vr 1 (Ab=Ab/\Ad=Ad/\1=1/\k+1<=Aa (Af bD desc)/\¬3∈[])<|vnil<|zC<|vnn (fr 189 [(2,Am 0 0),(4,bD Ab),(5,Am 1 0),(7,iD k),(8,Am 2 0),(58,Am 2 2),(59,AA 3 0 (Aa desc) (Aa desc) Ad),(60,iD k),(61,Am 2 2),(62,AA 3 0 (Aa desc) (Aa desc) Ad),(63,iD k),(64,Am 3 k),(65,bD<|AF desc k Ab),(66,bD !List.getD desc k Ab),(67,Am 3 k)]) [AC [iD n0,iD f,Ai (Af bD desc)<|Aa desc,Ai (Af (λ(z:Int)=>iD z) P)<|Aa P,Ai (Af zBg V)<|Aa V,Ai (Af zCs R)<|Aa R] 27 0 Ab Ab Ay,AC [iD n0,iD f,Ai (Af bD desc)<|Aa desc,Ai (Af (λ(z:Int)=>iD z) P)<|Aa P,Ai (Ak atC ats)<|Aa ats] 31 0 Ab Ab Ay,AC [iD n0,iD f,AA 3 0 (Aa desc) (Aa desc) Ad,Ai (Af (λ(z:Int)=>iD z) P)<|Aa P,Ai (Ak atC ats)<|Aa ats] 31 0 Ab Ab Ay,AC (List.set (Af bD desc) k (bD !List.getD desc k Ab)) 4 1 Ad Ab Ay] ?_;rotate_left
 refine zTg [⟨[iD n0,iD (f:Nat),.row (desc.map bD) desc.length,zBg P,.row (V.map zBg) V.length,.row (R.map zCs) R.length],27,0,Ab,Ab,.plain⟩,⟨[iD n0,iD (f:Nat),.row (desc.map bD) desc.length,zBg P,.row (ats.flatMap atC) ats.length],31,0,Ab,Ab,.plain⟩,⟨[iD n0,iD (f:Nat),.osl 3 0 ds.length ds.length Ad,zBg P,.row (ats.flatMap atC) ats.length],31,0,Ab,Ab,.plain⟩,booB<|ds.map bD] ?_ ?_
 ·rw[hdd,List.map_set,By]
 focus
  refine zAx<|vAs<|vr 1 (5<=5)<|vc b1<|ve (0<3/\1<3/\2<3/\Ab=Ab/\Ad=Ad/\5=5/\5<=5)<|vA<|vr 1 (5<=5)<|vcl [Aj [iD n0,iD f,Ai (Aq (Aa ds)<|Ag 0<|A2<|booB<|Af bD ds)<|Aa ds,Ai (Af (λ(z:Int)=>iD z) P)<|Aa P,Ai (Ak atC ats)<|Aa ats]] [Aj [iD n0,iD f,Ai (Af bD ds)<|Aa ds,Ai (Af (λ(z:Int)=>iD z) P)<|Aa P,Ai (Ak atC ats)<|Aa ats]] (LeL.of_eq (by simp(disch:=omega) only[AW,htk])) (by exact b2)<|ve (0<3/\1<3/\2<3/\Ab=Ab/\Ad=Ad/\5=5/\5<=5)<|zA<|zA ?_;refine vd [0,1,2,3,4,5,6,7,8,9,10,11,12,13]<|vr 8 (True/\True/\5<=5)<|vc htt<|vr 1 (5<=5)<|vc htw<|vc hcm<|veT<|vf<|vK<|zA<|vA ?_;refine veT<|zH ?_;rotate_left
 refine zK (λ(i:Nat)=>fr 189 [(2,Am 0 0),(7,iD k),(9,Am 4 0),(12,Am 5 0),(15,iD i)]) (λ(i:Nat)=>tuS n0 f desc P V R ats ds L U W tot) (λ(i:Nat)=>f-i) (λ(i:Nat)=>i<=f) 0 ?_ ?_ ?_
 ·omega
 ·refine vk 6
 intro i h3;rcases AD i f with h4|h4
 ·obtain⟨u1,u2,u3⟩:=hU i h4;have ha:=hba i h4;have hb':=hbb i h4;focus
   refine zA<|vAs<|ve (True/\0<5)<|vT ((i:Int)<↑f)<|vKB<|zA<|vd [1,4,0,2,3,5,6,7]<|vr 3 (5<=5) ?_;refine vc ha<|vr 1 (5<=5)<|vc hb'<|veT<|zA<|vAe<|zEw (t:=(Aa (U i):Int)!=(Aa (W i):Int)) (by kernel_rfl) (by simpa using by omega)<|vK<|vA ?_;refine veT<|zH ?_;rotate_left
  refine zK (λ(j:Nat)=>fr 189 [(2,Am 0 0),(7,iD k),(9,Am 4 0),(12,Am 5 0),(15,iD i),(16,busD<|U i),(17,busD<|W i),(18,iD j)]) (λ(j:Nat)=>tuS n0 f desc P V R ats ds L U W tot) (λ(j:Nat)=>(U i).length-j) (λ(j:Nat)=>j<=(U i).length) 0 ?_ ?_ ?_
  ·omega
  ·refine vk 6
  intro j h5;rcases AD j (U i).length with h6|h6
  ·obtain⟨k1,k2,k3,k4,k5,k6⟩:=u3 j h6;have hg3:=zCg zBn (U i) j h6;have hle:=zD3 zBn (U i) j h6;have hne:=zC4 zBn (by decide) (U i) (by omega);have hg5:=zCg zBn (W i) j (by omega);have hle5:=zD3 zBn (W i) j (by omega);have hne5:=zC4 zBn (by decide) (W i) (by omega);have hg4:Aq 2 (Ag 1 (Ag (j*3) ((U i).flatMap buC)))=[bD ((U i).getD j Ae).desc,((U i).getD j Ae).t.x]:=by
    rw[<-Bt (i:=1) (j:=3),hg3];rfl
   have hg6:Aq 2 (Ag 1 (Ag (j*3) ((W i).flatMap buC)))=[bD ((W i).getD j Ae).desc,((W i).getD j Ae).t.x]:=by
    rw[<-Bt (i:=1) (j:=3),hg5];rfl
   have hk4:(Ag (j*3) ((U i).flatMap buC)).headD .unk= .row (zJ ((U i).getD j Ae).key) ((U i).getD j Ae).key.length:=by
    have h9:(Aq 3 (Ag (j*3) ((U i).flatMap buC))).headD .unk=(Ag (j*3) ((U i).flatMap buC)).headD .unk:=by cases Ag (j*3) ((U i).flatMap buC)<;>rfl
    rw[<-h9,hg3];rfl
   have hk6:(Ag (j*3) ((W i).flatMap buC)).headD .unk= .row (zJ ((U i).getD j Ae).key) ((U i).getD j Ae).key.length:=by
    rw[<-k1];have h9:(Aq 3 (Ag (j*3) ((W i).flatMap buC))).headD .unk=(Ag (j*3) ((W i).flatMap buC)).headD .unk:=by cases Ag (j*3) ((W i).flatMap buC)<;>rfl
    rw[<-h9,hg5];rfl
   have hle2:2<=(Ag 1 (Ag (j*3) ((U i).flatMap buC))).length:=by rw[Bv];omega
   have hle6:2<=(Ag 1 (Ag (j*3) ((W i).flatMap buC))).length:=by rw[Bv];omega
   generalize (U i).getD j Ae=a at*;generalize (W i).getD j Ae=b at*;have hwl:=zVj a.desc a.t;have hwl2:=zVj b.desc b.t;rw[k3]at hwl2;have hsm:=same40_c a.key a.key.length rfl (by omega);focus
    refine zA<|vAu<|vT ((j:Int)<(Aa (U i):Int))<|vKB<|vA<|vr 5 (ix ↑j (Aa (U i):Int) (Ak buC (U i)≠[])/\True/\2<=Aa (Ag 1<|Ag (j*3)<|Ak buC<|U i)) ?_;refine vs 121 (Aj<|Aq 2<|Ag 1<|Ag (j*3)<|Ak buC<|U i) (Aj [bD<|AR a,WT.x<|Ar a]) (by simp(disch:=omega) only[hg4])<|vc hwl<|veT<|zA<|zA<|vd [0,1,2,3,5,6,7,8,4,9,10,11,12,13,14,15,16,19,17,18,20,21]<|vr 9 (ix ↑j (Aa (U i):Int) (Ak buC (U i)≠[])/\True/\ix ↑j (Aa (W i):Int) (Ak buC (W i)≠[])/\True/\0<Aa (Ag (j*3)<|Ak buC<|U i))<|vsh 127 hk4<|vr 1 (0<Aa (Ag (j*3)<|Ak buC<|W i))<|vsh 132 hk6<|vc hsm<|vr 8 (ix ↑j (Aa (W i):Int) (Ak buC (W i)≠[])/\True/\2<=Aa (Ag 1<|Ag (j*3)<|Ak buC<|W i))<|vs 140 (Aj<|Aq 2<|Ag 1<|Ag (j*3)<|Ak buC<|W i) (Aj [bD<|AR b,WT.x<|Ar b]) (by simp(disch:=omega) only[hg6])<|vc hwl2 ?_;refine veT<|zEw (t:=(↑(WT.sz (Ar a)):Int)!=(↑(WT.sz (Ar a)):Int)) (by kernel_rfl) (by simp)<|vK<|vAe<|zH ?_;rotate_left
   refine zK (λ(m:Nat)=>fr 189 [(2,Am 0 0),(7,iD k),(9,Am 4 0),(12,Am 5 0),(15,iD i),(16,busD<|U i),(17,busD<|W i),(18,iD j),(19,iD (↑(WT.sz<|Ar a):Int)),(20,iD m)]) (λ(m:Nat)=>tuS n0 f desc P V R ats ds L U W tot) (λ(m:Nat)=>a.t.sz-m) (λ(m:Nat)=>m<=a.t.sz) 0 ?_ ?_ ?_
   ·omega
   ·refine vk 6
   intro m h7;rcases AD m a.t.sz with h8|h8
   ·obtain⟨q1,q2⟩:=k6 m h8;have hat1:=wat_c a.desc a.t m k4 h8;have hsz:=k4.1;by_cases hik:i=k
    ·rw[if_pos hik]at q1;have hcast:((a.t.sz:Nat):Int)-1-(m:Nat)=((a.t.sz-1-m:Nat):Int):=by omega
     have hat2:=wat_c b.desc b.t (a.t.sz-1-m) k5 (by omega);rw[q1]at hat2;generalize (a.t.go m).2.2=e at*;have hce:=zJg e.2 q2;focus
      refine zA<|vAu<|vT ((m:Int)<(↑(WT.sz<|Ar a):Int))<|vKB<|vAe ?_;refine zA<|vAe<|vEt ((i:Int)) ((k:Int))<|zB rfl<|vr 4 (i6 ((↑(WT.sz<|Ar a):Int)-(1:Int))/\i6 ((↑(WT.sz<|Ar a):Int)-(1:Int)-(m:Int)))<|vs 157 (iD ((↑(WT.sz<|Ar a):Int)-(1:Int)-(m:Int))) (iD (↑(WT.sz (Ar a)-1-m):Int)) (by simp(disch:=omega) only[hcast])<|veT<|vA<|vr 5 (ix ↑j (Aa (U i):Int) (Ak buC (U i)≠[])/\True/\2<=Aa (Ag 1<|Ag (j*3)<|Ak buC<|U i))<|vs 163 (Aj<|Aq 2<|Ag 1<|Ag (j*3)<|Ak buC<|U i) (Aj [bD<|AR a,WT.x<|Ar a]) (by simp(disch:=omega) only[hg4])<|vrT 1 ?_;refine vc hat1<|ve (0<3/\1<3/\2<3/\Ab=Ab/\Ad=Ad/\3=3/\3<=3)<|vA<|vr 5 (ix ↑j (Aa (W i):Int) (Ak buC (W i)≠[])/\True/\2<=Aa (Ag 1<|Ag (j*3)<|Ak buC<|W i))<|vs 174 (Aj<|Aq 2<|Ag 1<|Ag (j*3)<|Ak buC<|W i) (Aj [bD<|AR b,WT.x<|Ar b]) (by simp(disch:=omega) only[hg6])<|vrT 1<|vc hat2<|ve (0<3/\1<3/\2<3/\Ab=Ab/\Ad=Ad/\3=3/\3<=3)<|vA<|vr 3 (3<=3/\3<=3/\True)<|vs 182 (bD !(AL (Ax e)==AL (Ax e)&&(AM (Ax e)==AM (Ax e)&&(AY (bs<|AN<|Ax e)==AY (bs<|AN<|Ax e)&&Ad)))) (bD Ab) (by simp(disch:=omega) only[beq_self_eq_true,Bx,Bool.not_true])<|vrT 3 ?_;refine vc hce<|veT<|vf<|zQ<|zD<|vN<|zB rfl<|vr 3 (i6 (↑m+1))<|vnil<|zC ?_;rotate_left
     refine⟨m+1,by omega,by omega,?_⟩;refine vk 6
    rw[if_neg hik]at q1;have hat2:=wat_c b.desc b.t m k5 (by omega);rw[q1]at hat2;generalize (a.t.go m).2.2=e at*;have hce:=zJg e.2 q2;focus
     refine zA<|vAu<|vT ((m:Int)<(↑(WT.sz<|Ar a):Int))<|vKB<|vAe ?_;refine zA<|vAe<|vEf ((i:Int)) ((k:Int))<|vK<|vA<|vr 5 (ix ↑j (Aa (U i):Int) (Ak buC (U i)≠[])/\True/\2<=Aa (Ag 1<|Ag (j*3)<|Ak buC<|U i))<|vs 163 (Aj<|Aq 2<|Ag 1<|Ag (j*3)<|Ak buC<|U i) (Aj [bD<|AR a,WT.x<|Ar a]) (by simp(disch:=omega) only[hg4])<|vrT 1<|vc hat1 ?_;refine ve (0<3/\1<3/\2<3/\Ab=Ab/\Ad=Ad/\3=3/\3<=3)<|vA<|vr 5 (ix ↑j (Aa (W i):Int) (Ak buC (W i)≠[])/\True/\2<=Aa (Ag 1<|Ag (j*3)<|Ak buC<|W i))<|vs 174 (Aj<|Aq 2<|Ag 1<|Ag (j*3)<|Ak buC<|W i) (Aj [bD<|AR b,WT.x<|Ar b]) (by simp(disch:=omega) only[hg6])<|vrT 1<|vc hat2<|ve (0<3/\1<3/\2<3/\Ab=Ab/\Ad=Ad/\3=3/\3<=3)<|vA<|vr 3 (3<=3/\3<=3/\True)<|vs 182 (bD !(AL (Ax e)==AL (Ax e)&&(AM (Ax e)==AM (Ax e)&&(AY (bs<|AN<|Ax e)==AY (bs<|AN<|Ax e)&&Ad)))) (bD Ab) (by simp(disch:=omega) only[beq_self_eq_true,Bx,Bool.not_true])<|vrT 3<|vc hce ?_;refine veT<|vf<|zQ<|zD<|vN<|zB rfl<|vr 3 (i6 (↑m+1))<|vnil<|zC ?_;rotate_left
    refine⟨m+1,by omega,by omega,?_⟩;refine vk 6
   obtain rfl:m=a.t.sz:=by omega
   focus
    refine zA<|vAu<|vF ((↑(WT.sz<|Ar a):Int)<(↑(WT.sz<|Ar a):Int))<|vY2<|zD<|vN<|zB rfl ?_;refine vr 3 (i6 (↑j+1))<|vnil<|zC ?_;rotate_left
   refine⟨j+1,by omega,by omega,?_⟩;refine vk 6
  obtain rfl:j=(U i).length:=by omega
  focus
   refine zA<|vAu<|vF ((Aa (U i):Int)<(Aa (U i):Int))<|vY2<|zD<|vN<|zB rfl ?_;refine vr 3 (i6 (↑i+1))<|vnil<|zC ?_;rotate_left
  refine⟨i+1,by omega,by omega,?_⟩;refine vk 6
 obtain rfl:i=f:=by omega
 focus
  refine zA<|vAs<|ve (True/\0<5)<|vF ((i:Int)<↑i)<|vZ2<|vA ?_;refine veT<|zE<|vret (True)<|.inr rfl
end
theorem sh_at{d e:Bool}{l l':List Bu}(h:l'.map (sh2 e)=l.map (sh2 d)):l'.length=l.length/\∀j,j<l.length->sh2 e (l'.getD j Ae)=sh2 d (l.getD j Ae):=by
 have hl:l'.length=l.length:=by simpa using congrArg Aa h
 refine⟨hl,λj hj=>?_⟩
 have:=congrArg (λx=>x[j]?) h
 simpa[As,hj,hl]using this
theorem mem_sum{x:Nat}:∀{l:List Nat},x∈l->x<=l.sum
 |y::l,h=>by
  rw[List.sum_cons];rcases A3.1 h with rfl|h
  ·omega
  have:=mem_sum h;omega
theorem go_sm{t:WT}(h:t.Ok){m:Nat}(hm:m<t.sz):Sm (t.go m).2.2.2:=by
 refine h.2.le ?_;rw[<-WT.tot_lst];refine mem_sum (Ao.2 ⟨(t.go m).2.2,?_,rfl⟩);exact List.mem_of_getElem? (WT.go_lst t m hm)
theorem turnsNo(c:Cs)(ats:List At)(ok b:Bool)(v:Nat)(h:ok=Ab\/b=Ab\/c.f=0)
  (h1:Pure Ah 20 [.agg (csC c)] [] (.tup [inpD c.n c.f c.desc c.P ats,bD ok]))
  (h2:Pure Ah 13 [.agg (csC c)] [] (bD b)):Pure Ah 7 [.agg (csC c), .val (.int .u8 (v:Nat))] [] (bD Ad):=by
 cases b
 ·refine zF zA5 mixed Bf rfl ?_;focus
   refine vAu<|zA<|vA<|vc zQf<|veT<|vf<|vK<|zA ?_;refine zB rfl<|vr 1 (6<=6)<|vc h1<|ve (0<2/\1<2/\Ab=Ab/\Ad=Ad/\5=5/\5<=5)<|zA<|vA<|vr 1 (6<=6)<|vc h2<|veT<|vt<|vAe ?_;refine zE<|zG<|vret (True)<|.inr rfl
 cases ok
 ·refine zF zA5 mixed Bf rfl ?_;focus
   refine vAu<|zA<|vA<|vc zQf<|veT<|vf<|vK<|zA ?_;refine zB rfl<|vr 1 (6<=6)<|vc h1<|ve (0<2/\1<2/\Ab=Ab/\Ad=Ad/\5=5/\5<=5)<|zA<|vA<|vr 1 (6<=6)<|vc h2<|veT<|vt<|vAe ?_;refine zE<|zG<|vret (True)<|.inr rfl
 obtain hf:c.f=0:=by simpa using h
 refine zF zA5 mixed Bf rfl ?_;focus
  refine vAu<|zA<|vA<|vc zQf<|veT<|vf<|vK<|zA ?_;refine zB rfl<|vr 1 (6<=6)<|vc h1<|ve (0<2/\1<2/\Ab=Ab/\Ad=Ad/\5=5/\5<=5)<|zA<|vA<|vr 1 (6<=6)<|vc h2<|ve (True/\0<5/\True)<|vEt (Cs.f c) ((0:Int))<|vAe ?_;refine zE<|zG<|vret (True)<|.inr rfl
theorem zZm(c:Cs)(h:c.Small)(ht:c.Typ)(v:Nat)(hv:v<256):Pure Ah 7 [.agg (csC c), .val (.int .u8 (v:Nat))] [] (bD Ad):=by
 obtain⟨b,hb,hfew⟩:=few_c c h;obtain⟨m,ok,h1,h2,h3,h4⟩:=zZf c h;by_cases hn:ok=Ab\/b=Ab\/c.f=0
 ·exact turnsNo c _ ok b v hn h4 hfew
 obtain⟨rfl,rfl,hf0⟩:ok=Ad/\b=Ad/\c.f≠0:=by simpa using hn
 obtain⟨hl,he,hc⟩:=h2.1 rfl;obtain rfl:=h3 rfl;have hfw:=hb rfl;have hok:=Cs.inp_ok hl he hc hfw ht;obtain⟨n1,n2⟩:=Cs.inp_n hc;have hdl:c.desc.length=c.inp.f:=hok.d;have hn6:=hok.n;have hfn:=hok.f;have hfp:0<c.inp.f:=by omega
 have hk:=Nat.mod_lt v hfp;obtain⟨S1,_,_,b1⟩:=zKw c h hl he hc hfw ht;let ds:=c.desc.set (v%c.inp.f) (!c.desc.getD (v%c.inp.f) Ab);have hdl2:ds.length=c.desc.length:=By;let c2:Cs:={c with desc:=ds};have s2:c2.Small:=⟨by show ds.length<=_;rw[hdl2];exact h.d,h.P,h.V,h.R,h.v,h.r⟩;have w2:c2.Few:=⟨hfw.R,hfw.V,by show ds.length<=_;rw[hdl2];exact hfw.d,hfw.P,hfw.n,hfw.r,hfw.v,hfw.C⟩;obtain⟨S2,_,_,b2⟩:=zKw c2 s2 hl he (by show icE c.n c.f ds.length c.P (c.ats c.V.length)=0;rw[hdl2];exact hc) w2 ht;have e2:c2.inp=c.inp.tn ds:=rfl;have et:=Inp.tn_tot hok ds;rw[show c2.inp.ix=ixD ds (c.inp.L.take c.inp.f) (c.inp.tn ds).U c.inp.tot by rw[<-et];rfl]at b2;refine turnsW c _ (c.inp.L.take c.inp.f) c.inp.U (c.inp.tn ds).U c.inp.tot c.inp.f v _ _ h n2.symm hdl hfp (by omega) hv h4 hfew b1 b2 (Inp.tot_sm hok) λi hi=>?_;obtain⟨u1,u2⟩:=Inp.U_ok hok (c:=i) (by omega);obtain⟨_,u4⟩:=Inp.U_ok (Inp.tn_ok hok hdl2) (c:=i) (show i<c.inp.n by omega);obtain⟨g1,g2⟩:=sh_at (Inp.tn_sh hok ds i);refine⟨g1,u1,λj hj=>?_⟩;have hU:(c.inp.U i).getD j Ae∈c.inp.U i:=by rw[As,Ap hj];exact AG hj
 have hW:((c.inp.tn ds).U i).getD j Ae∈(c.inp.tn ds).U i:=by rw[As,Ap (by omega)];exact AG _
 have hsh:=g2 j hj;have k1:((c.inp.tn ds).U i|>.getD j Ae).key=((c.inp.U i).getD j Ae).key:=congrArg Ax hsh;have k2:asc (ds.getD i Ab) ((c.inp.tn ds).U i|>.getD j Ae).t.lst=asc (c.inp.desc.getD i Ab) ((c.inp.U i).getD j Ae).t.lst:=congrArg AS hsh;refine⟨k1,(u2 _ hU).1,by rw[<-WT.lst_length,<-WT.lst_length,<-zK0 (ds.getD i Ab),k2,zK0],(u2 _ hU).2,(u4 _ hW).2,λm hm=>⟨?_,go_sm (u2 _ hU).2 hm⟩⟩;refine(turn_at hsh hm ?_).2.2.2;show _=if c.desc.getD i Ab=ds.getD i Ab then _ else _
 by_cases hik:i=v%c.inp.f
 ·rw[if_pos hik,if_neg];rw[hik,show ds.getD (v%c.inp.f) Ab=!c.desc.getD (v%c.inp.f) Ab by
   show(c.desc.set _ _).getD _ _=_;rw[As,List.getElem?_set_self (by omega)];rfl]
  cases c.desc.getD (v%c.inp.f) Ab<;>simp
 rw[if_neg hik,if_pos];show _=(c.desc.set _ _).getD _ _;rw[As,As,List.getElem?_set_ne (λe=>hik e.symm)]
end
end Go.Proofs.YtjcofbkhoeockaaGreatDoor
